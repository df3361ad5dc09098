/-
  No cell of these rows narrows 'for every input' (looked for: loops, veiled, ifaces, maps, wideKeys, modest, calm, conditions, laid).
  DERIVED. THE GIVEN ROWS OF THIS SEAT. 7 by the template 'for every input the law returns true; each argument reads behind the call as it read before'; 0 by the template 'total and deterministic' (their statements: YtnbopkmhakfmmaaTotals.lean).
  GIVEN WITH THE SEED: the statements are not yours to turn. If you find one false, say at which input.
  Laid BY PROGRAM, IN A SANDBOX (cutbox-rows.mjs): the forced cells as the released guide's own fill.sh prints them over the translation d37e798a150ed168… (all of the seat's roots in one cut). By AI agents, Wed Nov 11 2026. No macro, syntax, notation, axiom, sorry.
-/
import Derived.Test.YtnbopkmhakfmmaaChecked
import GoSem.Claim
import GoSem.ClaimJoined
import GoSem.ClaimMapViews
import Derived.JoinedTies
import Derived.KernelRfl
namespace Go.Proofs.Ytnbopkmhakfmmaa
/- THE CELL 'sum', in the pinned program and in every row, IS THE sha256 OF THE DUMP (.gsa) THAT YtnbopkmhakfmmaaProg.lean LOADS. Nothing in Lean hashes anything: it is a label: what it is worth is what the hold of that sum in a sandbox is worth. -/
noncomputable def Try.pinned : Pinned := { name := "ytnbopkmhakfmmaa", sum := "d37e798a150ed1685c7a77251e005570ce9ca3686e746e01e0875f17ab5622c3", checked := Try.checked }
namespace Rows
def none {H : Type} : Left H := { results := [], args := [] }

/-- 'scrimlaw6.DesKeys': WHATEVER THE INPUT: true; the input reads as it did. -/
def desKeysSpec : ChangeSpec := { name := "desKeys", fn := fun _ => fun
  | [d1, d2, d3, d4] => { results := [.lit (.bool true)], args := [d1, d2, d3, d4] }
  | _ => none }
def desKeysRow : OpenClaim := { program := "ytnbopkmhakfmmaa", sum := "d37e798a150ed1685c7a77251e005570ce9ca3686e746e01e0875f17ab5622c3", func := "scrim/scrimlaw6.DesKeys", spec := "desKeys", apart := false }
def DesKeysSaid : Prop := desKeysRow.holds Try.pinned (OpenSpec.ofChange desKeysSpec)

/-- ITS FALSE NEIGHBOUR: 'it returns false'. Refute it at one input. -/
def desKeysWrong : ChangeSpec := { name := "desKeys", fn := fun _ => fun
  | [d1, d2, d3, d4] => { results := [.lit (.bool false)], args := [d1, d2, d3, d4] }
  | _ => none }
def DesKeysWrongFalsely : Prop := desKeysRow.holds Try.pinned (OpenSpec.ofChange desKeysWrong)

/-- 'scrimlaw6.DesParity': WHATEVER THE INPUT: true; the input reads as it did. -/
def desParitySpec : ChangeSpec := { name := "desParity", fn := fun _ => fun
  | [d1, d2, d3, d4] => { results := [.lit (.bool true)], args := [d1, d2, d3, d4] }
  | _ => none }
def desParityRow : OpenClaim := { program := "ytnbopkmhakfmmaa", sum := "d37e798a150ed1685c7a77251e005570ce9ca3686e746e01e0875f17ab5622c3", func := "scrim/scrimlaw6.DesParity", spec := "desParity", apart := false }
def DesParitySaid : Prop := desParityRow.holds Try.pinned (OpenSpec.ofChange desParitySpec)

/-- ITS FALSE NEIGHBOUR: 'it returns false'. Refute it at one input. -/
def desParityWrong : ChangeSpec := { name := "desParity", fn := fun _ => fun
  | [d1, d2, d3, d4] => { results := [.lit (.bool false)], args := [d1, d2, d3, d4] }
  | _ => none }
def DesParityWrongFalsely : Prop := desParityRow.holds Try.pinned (OpenSpec.ofChange desParityWrong)

/-- 'scrimlaw6.DesThree': WHATEVER THE INPUT: true; the input reads as it did. -/
def desThreeSpec : ChangeSpec := { name := "desThree", fn := fun _ => fun
  | [d1, d2, d3, d4] => { results := [.lit (.bool true)], args := [d1, d2, d3, d4] }
  | _ => none }
def desThreeRow : OpenClaim := { program := "ytnbopkmhakfmmaa", sum := "d37e798a150ed1685c7a77251e005570ce9ca3686e746e01e0875f17ab5622c3", func := "scrim/scrimlaw6.DesThree", spec := "desThree", apart := false }
def DesThreeSaid : Prop := desThreeRow.holds Try.pinned (OpenSpec.ofChange desThreeSpec)

/-- ITS FALSE NEIGHBOUR: 'it returns false'. Refute it at one input. -/
def desThreeWrong : ChangeSpec := { name := "desThree", fn := fun _ => fun
  | [d1, d2, d3, d4] => { results := [.lit (.bool false)], args := [d1, d2, d3, d4] }
  | _ => none }
def DesThreeWrongFalsely : Prop := desThreeRow.holds Try.pinned (OpenSpec.ofChange desThreeWrong)

/-- 'scrimlaw6.DesTurned': WHATEVER THE INPUT: true; the input reads as it did. -/
def desTurnedSpec : ChangeSpec := { name := "desTurned", fn := fun _ => fun
  | [d1, d2, d3] => { results := [.lit (.bool true)], args := [d1, d2, d3] }
  | _ => none }
def desTurnedRow : OpenClaim := { program := "ytnbopkmhakfmmaa", sum := "d37e798a150ed1685c7a77251e005570ce9ca3686e746e01e0875f17ab5622c3", func := "scrim/scrimlaw6.DesTurned", spec := "desTurned", apart := false }
def DesTurnedSaid : Prop := desTurnedRow.holds Try.pinned (OpenSpec.ofChange desTurnedSpec)

/-- ITS FALSE NEIGHBOUR: 'it returns false'. Refute it at one input. -/
def desTurnedWrong : ChangeSpec := { name := "desTurned", fn := fun _ => fun
  | [d1, d2, d3] => { results := [.lit (.bool false)], args := [d1, d2, d3] }
  | _ => none }
def DesTurnedWrongFalsely : Prop := desTurnedRow.holds Try.pinned (OpenSpec.ofChange desTurnedWrong)

/-- 'scrimlaw6.DesWeak': WHATEVER THE INPUT: true; the input reads as it did. -/
def desWeakSpec : ChangeSpec := { name := "desWeak", fn := fun _ => fun
  | [d1, d2] => { results := [.lit (.bool true)], args := [d1, d2] }
  | _ => none }
def desWeakRow : OpenClaim := { program := "ytnbopkmhakfmmaa", sum := "d37e798a150ed1685c7a77251e005570ce9ca3686e746e01e0875f17ab5622c3", func := "scrim/scrimlaw6.DesWeak", spec := "desWeak", apart := false }
def DesWeakSaid : Prop := desWeakRow.holds Try.pinned (OpenSpec.ofChange desWeakSpec)

/-- ITS FALSE NEIGHBOUR: 'it returns false'. Refute it at one input. -/
def desWeakWrong : ChangeSpec := { name := "desWeak", fn := fun _ => fun
  | [d1, d2] => { results := [.lit (.bool false)], args := [d1, d2] }
  | _ => none }
def DesWeakWrongFalsely : Prop := desWeakRow.holds Try.pinned (OpenSpec.ofChange desWeakWrong)

/-- 'scrimlaw6.DesRounds': WHATEVER THE INPUT: true; the input reads as it did. -/
def desRoundsSpec : ChangeSpec := { name := "desRounds", fn := fun _ => fun
  | [d1, d2, d3] => { results := [.lit (.bool true)], args := [d1, d2, d3] }
  | _ => none }
def desRoundsRow : OpenClaim := { program := "ytnbopkmhakfmmaa", sum := "d37e798a150ed1685c7a77251e005570ce9ca3686e746e01e0875f17ab5622c3", func := "scrim/scrimlaw6.DesRounds", spec := "desRounds", apart := false }
def DesRoundsSaid : Prop := desRoundsRow.holds Try.pinned (OpenSpec.ofChange desRoundsSpec)

/-- ITS FALSE NEIGHBOUR: 'it returns false'. Refute it at one input. -/
def desRoundsWrong : ChangeSpec := { name := "desRounds", fn := fun _ => fun
  | [d1, d2, d3] => { results := [.lit (.bool false)], args := [d1, d2, d3] }
  | _ => none }
def DesRoundsWrongFalsely : Prop := desRoundsRow.holds Try.pinned (OpenSpec.ofChange desRoundsWrong)

/-- 'scrimlaw6.DesWide': WHATEVER THE INPUT: true; the input reads as it did. -/
def desWideSpec : ChangeSpec := { name := "desWide", fn := fun _ => fun
  | [d1, d2, d3] => { results := [.lit (.bool true)], args := [d1, d2, d3] }
  | _ => none }
def desWideRow : OpenClaim := { program := "ytnbopkmhakfmmaa", sum := "d37e798a150ed1685c7a77251e005570ce9ca3686e746e01e0875f17ab5622c3", func := "scrim/scrimlaw6.DesWide", spec := "desWide", apart := false }
def DesWideSaid : Prop := desWideRow.holds Try.pinned (OpenSpec.ofChange desWideSpec)

/-- ITS FALSE NEIGHBOUR: 'it returns false'. Refute it at one input. -/
def desWideWrong : ChangeSpec := { name := "desWide", fn := fun _ => fun
  | [d1, d2, d3] => { results := [.lit (.bool false)], args := [d1, d2, d3] }
  | _ => none }
def DesWideWrongFalsely : Prop := desWideRow.holds Try.pinned (OpenSpec.ofChange desWideWrong)

/- THE SECOND FORM. 'bulk': how many values and letters a reading holds, each counted each time it is reached (what is shared counts as often as it is met; a slice's spare places count too). A statement '..UptoSaid' is the law's where the arguments, and the package variables that the reading takes, are together of bulk at most 1048576: NARROWER than '..Said'. Prove '..Said' where nothing that the law and all that it calls make is longer than what came in: it says more and counts as full. Else prove '..UptoSaid'. A law counts once. -/
mutual
def uptoBulk {H : Type} : DataW H → Nat
  | .lit (.string bytes) => bytes.length + 1
  | .lit _ => 1
  | .nil => 1
  | .ptr d => uptoBulk d + 1
  | .slice elems spare => uptoBulkAll elems + uptoBulkAll spare + 1
  | .agg parts => uptoBulkAll parts + 1
  | .iface _ d => uptoBulk d + 1
  | .map entries => uptoBulkEntries entries + 1
  | .held _ => 1
def uptoBulkAll {H : Type} : List (DataW H) → Nat
  | [] => 0
  | d :: r => uptoBulk d + uptoBulkAll r
def uptoBulkEntries {H : Type} : List (Lit × DataW H) → Nat
  | [] => 0
  | x :: r => uptoBulkEntry x + uptoBulkEntries r
def uptoBulkEntry {H : Type} : Lit × DataW H → Nat
  | (.string bytes, d) => bytes.length + uptoBulk d + 1
  | (_, d) => uptoBulk d + 1
 end
def uptoSmall : (H : Type) → List (DataW H) → Bool := fun _ ds => decide (uptoBulkAll ds ≤ 1048576)
def OpenSpec.upto (s : _root_.Go.ChangeSpec) : _root_.Go.OpenSpec := { _root_.Go.OpenSpec.ofChange s with cond := some uptoSmall }

/-- 'scrimlaw6.DesKeys', WHERE WHAT IT READS IS OF BULK AT MOST 1048576: true; the input reads as it did. -/
def desKeysUptoRow : OpenClaim := { program := "ytnbopkmhakfmmaa", sum := "d37e798a150ed1685c7a77251e005570ce9ca3686e746e01e0875f17ab5622c3", func := "scrim/scrimlaw6.DesKeys", spec := "desKeys", apart := false, narrowed := true }
def DesKeysUptoSaid : Prop := desKeysUptoRow.holds Try.pinned (OpenSpec.upto desKeysSpec)

/-- 'scrimlaw6.DesParity', WHERE WHAT IT READS IS OF BULK AT MOST 1048576: true; the input reads as it did. -/
def desParityUptoRow : OpenClaim := { program := "ytnbopkmhakfmmaa", sum := "d37e798a150ed1685c7a77251e005570ce9ca3686e746e01e0875f17ab5622c3", func := "scrim/scrimlaw6.DesParity", spec := "desParity", apart := false, narrowed := true }
def DesParityUptoSaid : Prop := desParityUptoRow.holds Try.pinned (OpenSpec.upto desParitySpec)

/-- 'scrimlaw6.DesThree', WHERE WHAT IT READS IS OF BULK AT MOST 1048576: true; the input reads as it did. -/
def desThreeUptoRow : OpenClaim := { program := "ytnbopkmhakfmmaa", sum := "d37e798a150ed1685c7a77251e005570ce9ca3686e746e01e0875f17ab5622c3", func := "scrim/scrimlaw6.DesThree", spec := "desThree", apart := false, narrowed := true }
def DesThreeUptoSaid : Prop := desThreeUptoRow.holds Try.pinned (OpenSpec.upto desThreeSpec)

/-- 'scrimlaw6.DesTurned', WHERE WHAT IT READS IS OF BULK AT MOST 1048576: true; the input reads as it did. -/
def desTurnedUptoRow : OpenClaim := { program := "ytnbopkmhakfmmaa", sum := "d37e798a150ed1685c7a77251e005570ce9ca3686e746e01e0875f17ab5622c3", func := "scrim/scrimlaw6.DesTurned", spec := "desTurned", apart := false, narrowed := true }
def DesTurnedUptoSaid : Prop := desTurnedUptoRow.holds Try.pinned (OpenSpec.upto desTurnedSpec)

/-- 'scrimlaw6.DesWeak', WHERE WHAT IT READS IS OF BULK AT MOST 1048576: true; the input reads as it did. -/
def desWeakUptoRow : OpenClaim := { program := "ytnbopkmhakfmmaa", sum := "d37e798a150ed1685c7a77251e005570ce9ca3686e746e01e0875f17ab5622c3", func := "scrim/scrimlaw6.DesWeak", spec := "desWeak", apart := false, narrowed := true }
def DesWeakUptoSaid : Prop := desWeakUptoRow.holds Try.pinned (OpenSpec.upto desWeakSpec)

/-- 'scrimlaw6.DesRounds', WHERE WHAT IT READS IS OF BULK AT MOST 1048576: true; the input reads as it did. -/
def desRoundsUptoRow : OpenClaim := { program := "ytnbopkmhakfmmaa", sum := "d37e798a150ed1685c7a77251e005570ce9ca3686e746e01e0875f17ab5622c3", func := "scrim/scrimlaw6.DesRounds", spec := "desRounds", apart := false, narrowed := true }
def DesRoundsUptoSaid : Prop := desRoundsUptoRow.holds Try.pinned (OpenSpec.upto desRoundsSpec)

/-- 'scrimlaw6.DesWide', WHERE WHAT IT READS IS OF BULK AT MOST 1048576: true; the input reads as it did. -/
def desWideUptoRow : OpenClaim := { program := "ytnbopkmhakfmmaa", sum := "d37e798a150ed1685c7a77251e005570ce9ca3686e746e01e0875f17ab5622c3", func := "scrim/scrimlaw6.DesWide", spec := "desWide", apart := false, narrowed := true }
def DesWideUptoSaid : Prop := desWideUptoRow.holds Try.pinned (OpenSpec.upto desWideSpec)

end Rows
end Go.Proofs.Ytnbopkmhakfmmaa
