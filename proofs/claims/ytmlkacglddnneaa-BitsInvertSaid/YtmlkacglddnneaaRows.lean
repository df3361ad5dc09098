/-
  No cell of these rows narrows 'for every input' (looked for: loops, veiled, ifaces, maps, wideKeys, modest, calm, conditions, laid).
  DERIVED. THE GIVEN ROWS OF THIS SEAT. 8 by the template 'for every input the law returns true; each argument reads behind the call as it read before'; 0 by the template 'total and deterministic' (their statements: YtmlkacglddnneaaTotals.lean).
  GIVEN WITH THE SEED: the statements are not yours to turn. If you find one false, say at which input.
  Laid BY PROGRAM, IN A SANDBOX (cutbox-rows.mjs): the forced cells as the released guide's own fill.sh prints them over the translation bb3b4a0c5b33839a… (all of the seat's roots in one cut). By AI agents, Wed Nov 11 2026. No macro, syntax, notation, axiom, sorry.
-/
import Derived.Test.YtmlkacglddnneaaChecked
import GoSem.Claim
import GoSem.ClaimJoined
import GoSem.ClaimMapViews
import Derived.JoinedTies
import Derived.KernelRfl
namespace Go.Proofs.Ytmlkacglddnneaa
/- THE CELL 'sum', in the pinned program and in every row, IS THE sha256 OF THE DUMP (.gsa) THAT YtmlkacglddnneaaProg.lean LOADS. Nothing in Lean hashes anything: it is a label: what it is worth is what the hold of that sum in a sandbox is worth. -/
noncomputable def Try.pinned : Pinned := { name := "ytmlkacglddnneaa", sum := "bb3b4a0c5b33839a0e5b451448fb3fe4274f38e8efee7d8b74d8022aca87a941", checked := Try.checked }
namespace Rows
def none {H : Type} : Left H := { results := [], args := [] }

/-- 'scrimlaw2.BitsAll': WHATEVER THE INPUT: true; the input reads as it did. -/
def bitsAllSpec : ChangeSpec := { name := "bitsAll", fn := fun _ => fun
  | [d1, d2, d3, d4] => { results := [.lit (.bool true)], args := [d1, d2, d3, d4] }
  | _ => none }
def bitsAllRow : OpenClaim := { program := "ytmlkacglddnneaa", sum := "bb3b4a0c5b33839a0e5b451448fb3fe4274f38e8efee7d8b74d8022aca87a941", func := "scrim/scrimlaw2.BitsAll", spec := "bitsAll", apart := false }
def BitsAllSaid : Prop := bitsAllRow.holds Try.pinned (OpenSpec.ofChange bitsAllSpec)

/-- ITS FALSE NEIGHBOUR: 'it returns false'. Refute it at one input. -/
def bitsAllWrong : ChangeSpec := { name := "bitsAll", fn := fun _ => fun
  | [d1, d2, d3, d4] => { results := [.lit (.bool false)], args := [d1, d2, d3, d4] }
  | _ => none }
def BitsAllWrongFalsely : Prop := bitsAllRow.holds Try.pinned (OpenSpec.ofChange bitsAllWrong)

/-- 'scrimlaw2.BitsTwo': WHATEVER THE INPUT: true; the input reads as it did. -/
def bitsTwoSpec : ChangeSpec := { name := "bitsTwo", fn := fun _ => fun
  | [d1, d2, d3] => { results := [.lit (.bool true)], args := [d1, d2, d3] }
  | _ => none }
def bitsTwoRow : OpenClaim := { program := "ytmlkacglddnneaa", sum := "bb3b4a0c5b33839a0e5b451448fb3fe4274f38e8efee7d8b74d8022aca87a941", func := "scrim/scrimlaw2.BitsTwo", spec := "bitsTwo", apart := false }
def BitsTwoSaid : Prop := bitsTwoRow.holds Try.pinned (OpenSpec.ofChange bitsTwoSpec)

/-- ITS FALSE NEIGHBOUR: 'it returns false'. Refute it at one input. -/
def bitsTwoWrong : ChangeSpec := { name := "bitsTwo", fn := fun _ => fun
  | [d1, d2, d3] => { results := [.lit (.bool false)], args := [d1, d2, d3] }
  | _ => none }
def BitsTwoWrongFalsely : Prop := bitsTwoRow.holds Try.pinned (OpenSpec.ofChange bitsTwoWrong)

/-- 'scrimlaw2.BitsSum': WHATEVER THE INPUT: true; the input reads as it did. -/
def bitsSumSpec : ChangeSpec := { name := "bitsSum", fn := fun _ => fun
  | [d1, d2, d3] => { results := [.lit (.bool true)], args := [d1, d2, d3] }
  | _ => none }
def bitsSumRow : OpenClaim := { program := "ytmlkacglddnneaa", sum := "bb3b4a0c5b33839a0e5b451448fb3fe4274f38e8efee7d8b74d8022aca87a941", func := "scrim/scrimlaw2.BitsSum", spec := "bitsSum", apart := false }
def BitsSumSaid : Prop := bitsSumRow.holds Try.pinned (OpenSpec.ofChange bitsSumSpec)

/-- ITS FALSE NEIGHBOUR: 'it returns false'. Refute it at one input. -/
def bitsSumWrong : ChangeSpec := { name := "bitsSum", fn := fun _ => fun
  | [d1, d2, d3] => { results := [.lit (.bool false)], args := [d1, d2, d3] }
  | _ => none }
def BitsSumWrongFalsely : Prop := bitsSumRow.holds Try.pinned (OpenSpec.ofChange bitsSumWrong)

/-- 'scrimlaw2.BitsCount': WHATEVER THE INPUT: true; the input reads as it did. -/
def bitsCountSpec : ChangeSpec := { name := "bitsCount", fn := fun _ => fun
  | [d1, d2] => { results := [.lit (.bool true)], args := [d1, d2] }
  | _ => none }
def bitsCountRow : OpenClaim := { program := "ytmlkacglddnneaa", sum := "bb3b4a0c5b33839a0e5b451448fb3fe4274f38e8efee7d8b74d8022aca87a941", func := "scrim/scrimlaw2.BitsCount", spec := "bitsCount", apart := false }
def BitsCountSaid : Prop := bitsCountRow.holds Try.pinned (OpenSpec.ofChange bitsCountSpec)

/-- ITS FALSE NEIGHBOUR: 'it returns false'. Refute it at one input. -/
def bitsCountWrong : ChangeSpec := { name := "bitsCount", fn := fun _ => fun
  | [d1, d2] => { results := [.lit (.bool false)], args := [d1, d2] }
  | _ => none }
def BitsCountWrongFalsely : Prop := bitsCountRow.holds Try.pinned (OpenSpec.ofChange bitsCountWrong)

/-- 'scrimlaw2.BitsOne': WHATEVER THE INPUT: true; the input reads as it did. -/
def bitsOneSpec : ChangeSpec := { name := "bitsOne", fn := fun _ => fun
  | [d1, d2, d3] => { results := [.lit (.bool true)], args := [d1, d2, d3] }
  | _ => none }
def bitsOneRow : OpenClaim := { program := "ytmlkacglddnneaa", sum := "bb3b4a0c5b33839a0e5b451448fb3fe4274f38e8efee7d8b74d8022aca87a941", func := "scrim/scrimlaw2.BitsOne", spec := "bitsOne", apart := false }
def BitsOneSaid : Prop := bitsOneRow.holds Try.pinned (OpenSpec.ofChange bitsOneSpec)

/-- ITS FALSE NEIGHBOUR: 'it returns false'. Refute it at one input. -/
def bitsOneWrong : ChangeSpec := { name := "bitsOne", fn := fun _ => fun
  | [d1, d2, d3] => { results := [.lit (.bool false)], args := [d1, d2, d3] }
  | _ => none }
def BitsOneWrongFalsely : Prop := bitsOneRow.holds Try.pinned (OpenSpec.ofChange bitsOneWrong)

/-- 'scrimlaw2.BitsInvert': WHATEVER THE INPUT: true; the input reads as it did. -/
def bitsInvertSpec : ChangeSpec := { name := "bitsInvert", fn := fun _ => fun
  | [d1, d2, d3, d4, d5] => { results := [.lit (.bool true)], args := [d1, d2, d3, d4, d5] }
  | _ => none }
def bitsInvertRow : OpenClaim := { program := "ytmlkacglddnneaa", sum := "bb3b4a0c5b33839a0e5b451448fb3fe4274f38e8efee7d8b74d8022aca87a941", func := "scrim/scrimlaw2.BitsInvert", spec := "bitsInvert", apart := false }
def BitsInvertSaid : Prop := bitsInvertRow.holds Try.pinned (OpenSpec.ofChange bitsInvertSpec)

/-- ITS FALSE NEIGHBOUR: 'it returns false'. Refute it at one input. -/
def bitsInvertWrong : ChangeSpec := { name := "bitsInvert", fn := fun _ => fun
  | [d1, d2, d3, d4, d5] => { results := [.lit (.bool false)], args := [d1, d2, d3, d4, d5] }
  | _ => none }
def BitsInvertWrongFalsely : Prop := bitsInvertRow.holds Try.pinned (OpenSpec.ofChange bitsInvertWrong)

/-- 'scrimlaw2.BitsBack': WHATEVER THE INPUT: true; the input reads as it did. -/
def bitsBackSpec : ChangeSpec := { name := "bitsBack", fn := fun _ => fun
  | [d1, d2] => { results := [.lit (.bool true)], args := [d1, d2] }
  | _ => none }
def bitsBackRow : OpenClaim := { program := "ytmlkacglddnneaa", sum := "bb3b4a0c5b33839a0e5b451448fb3fe4274f38e8efee7d8b74d8022aca87a941", func := "scrim/scrimlaw2.BitsBack", spec := "bitsBack", apart := false }
def BitsBackSaid : Prop := bitsBackRow.holds Try.pinned (OpenSpec.ofChange bitsBackSpec)

/-- ITS FALSE NEIGHBOUR: 'it returns false'. Refute it at one input. -/
def bitsBackWrong : ChangeSpec := { name := "bitsBack", fn := fun _ => fun
  | [d1, d2] => { results := [.lit (.bool false)], args := [d1, d2] }
  | _ => none }
def BitsBackWrongFalsely : Prop := bitsBackRow.holds Try.pinned (OpenSpec.ofChange bitsBackWrong)

/-- 'scrimlaw2.BitsKnown': WHATEVER THE INPUT: true; the input reads as it did. -/
def bitsKnownSpec : ChangeSpec := { name := "bitsKnown", fn := fun _ => fun
  | [d] => { results := [.lit (.bool true)], args := [d] }
  | _ => none }
def bitsKnownRow : OpenClaim := { program := "ytmlkacglddnneaa", sum := "bb3b4a0c5b33839a0e5b451448fb3fe4274f38e8efee7d8b74d8022aca87a941", func := "scrim/scrimlaw2.BitsKnown", spec := "bitsKnown", apart := false }
def BitsKnownSaid : Prop := bitsKnownRow.holds Try.pinned (OpenSpec.ofChange bitsKnownSpec)

/-- ITS FALSE NEIGHBOUR: 'it returns false'. Refute it at one input. -/
def bitsKnownWrong : ChangeSpec := { name := "bitsKnown", fn := fun _ => fun
  | [d] => { results := [.lit (.bool false)], args := [d] }
  | _ => none }
def BitsKnownWrongFalsely : Prop := bitsKnownRow.holds Try.pinned (OpenSpec.ofChange bitsKnownWrong)

/- THE SECOND FORM. 'bulk': how many values and letters a reading holds, each counted each time it is reached (what is shared counts as often as it is met; a slice's spare places count too). A statement '..UptoSaid' is the law's where the arguments, and the package variables that the reading takes, are together of bulk at most 1048576: NARROWER than '..Said'. Prove '..Said' where nothing that the law and all that it calls make is longer than what came in: it says more and counts as full. Else prove '..UptoSaid'. A law counts once. -/
mutual
def uptoBulk {H : Type} : DataW H → Nat
  | .lit (.string bytes) => bytes.length + 1
  | .lit _ => 1
  | .nil => 1
  | .ptr d => uptoBulk d + 1
  | .slice elems spare => uptoBulkAll elems + uptoBulkAll spare + 1
  | .agg parts => uptoBulkAll parts + 1
  | .iface _ d => uptoBulk d + 1
  | .map entries => uptoBulkEntries entries + 1
  | .held _ => 1
def uptoBulkAll {H : Type} : List (DataW H) → Nat
  | [] => 0
  | d :: r => uptoBulk d + uptoBulkAll r
def uptoBulkEntries {H : Type} : List (Lit × DataW H) → Nat
  | [] => 0
  | x :: r => uptoBulkEntry x + uptoBulkEntries r
def uptoBulkEntry {H : Type} : Lit × DataW H → Nat
  | (.string bytes, d) => bytes.length + uptoBulk d + 1
  | (_, d) => uptoBulk d + 1
 end
def uptoSmall : (H : Type) → List (DataW H) → Bool := fun _ ds => decide (uptoBulkAll ds ≤ 1048576)
def OpenSpec.upto (s : _root_.Go.ChangeSpec) : _root_.Go.OpenSpec := { _root_.Go.OpenSpec.ofChange s with cond := some uptoSmall }

/-- 'scrimlaw2.BitsAll', WHERE WHAT IT READS IS OF BULK AT MOST 1048576: true; the input reads as it did. -/
def bitsAllUptoRow : OpenClaim := { program := "ytmlkacglddnneaa", sum := "bb3b4a0c5b33839a0e5b451448fb3fe4274f38e8efee7d8b74d8022aca87a941", func := "scrim/scrimlaw2.BitsAll", spec := "bitsAll", apart := false, narrowed := true }
def BitsAllUptoSaid : Prop := bitsAllUptoRow.holds Try.pinned (OpenSpec.upto bitsAllSpec)

/-- 'scrimlaw2.BitsTwo', WHERE WHAT IT READS IS OF BULK AT MOST 1048576: true; the input reads as it did. -/
def bitsTwoUptoRow : OpenClaim := { program := "ytmlkacglddnneaa", sum := "bb3b4a0c5b33839a0e5b451448fb3fe4274f38e8efee7d8b74d8022aca87a941", func := "scrim/scrimlaw2.BitsTwo", spec := "bitsTwo", apart := false, narrowed := true }
def BitsTwoUptoSaid : Prop := bitsTwoUptoRow.holds Try.pinned (OpenSpec.upto bitsTwoSpec)

/-- 'scrimlaw2.BitsSum', WHERE WHAT IT READS IS OF BULK AT MOST 1048576: true; the input reads as it did. -/
def bitsSumUptoRow : OpenClaim := { program := "ytmlkacglddnneaa", sum := "bb3b4a0c5b33839a0e5b451448fb3fe4274f38e8efee7d8b74d8022aca87a941", func := "scrim/scrimlaw2.BitsSum", spec := "bitsSum", apart := false, narrowed := true }
def BitsSumUptoSaid : Prop := bitsSumUptoRow.holds Try.pinned (OpenSpec.upto bitsSumSpec)

/-- 'scrimlaw2.BitsCount', WHERE WHAT IT READS IS OF BULK AT MOST 1048576: true; the input reads as it did. -/
def bitsCountUptoRow : OpenClaim := { program := "ytmlkacglddnneaa", sum := "bb3b4a0c5b33839a0e5b451448fb3fe4274f38e8efee7d8b74d8022aca87a941", func := "scrim/scrimlaw2.BitsCount", spec := "bitsCount", apart := false, narrowed := true }
def BitsCountUptoSaid : Prop := bitsCountUptoRow.holds Try.pinned (OpenSpec.upto bitsCountSpec)

/-- 'scrimlaw2.BitsOne', WHERE WHAT IT READS IS OF BULK AT MOST 1048576: true; the input reads as it did. -/
def bitsOneUptoRow : OpenClaim := { program := "ytmlkacglddnneaa", sum := "bb3b4a0c5b33839a0e5b451448fb3fe4274f38e8efee7d8b74d8022aca87a941", func := "scrim/scrimlaw2.BitsOne", spec := "bitsOne", apart := false, narrowed := true }
def BitsOneUptoSaid : Prop := bitsOneUptoRow.holds Try.pinned (OpenSpec.upto bitsOneSpec)

/-- 'scrimlaw2.BitsInvert', WHERE WHAT IT READS IS OF BULK AT MOST 1048576: true; the input reads as it did. -/
def bitsInvertUptoRow : OpenClaim := { program := "ytmlkacglddnneaa", sum := "bb3b4a0c5b33839a0e5b451448fb3fe4274f38e8efee7d8b74d8022aca87a941", func := "scrim/scrimlaw2.BitsInvert", spec := "bitsInvert", apart := false, narrowed := true }
def BitsInvertUptoSaid : Prop := bitsInvertUptoRow.holds Try.pinned (OpenSpec.upto bitsInvertSpec)

/-- 'scrimlaw2.BitsBack', WHERE WHAT IT READS IS OF BULK AT MOST 1048576: true; the input reads as it did. -/
def bitsBackUptoRow : OpenClaim := { program := "ytmlkacglddnneaa", sum := "bb3b4a0c5b33839a0e5b451448fb3fe4274f38e8efee7d8b74d8022aca87a941", func := "scrim/scrimlaw2.BitsBack", spec := "bitsBack", apart := false, narrowed := true }
def BitsBackUptoSaid : Prop := bitsBackUptoRow.holds Try.pinned (OpenSpec.upto bitsBackSpec)

/-- 'scrimlaw2.BitsKnown', WHERE WHAT IT READS IS OF BULK AT MOST 1048576: true; the input reads as it did. -/
def bitsKnownUptoRow : OpenClaim := { program := "ytmlkacglddnneaa", sum := "bb3b4a0c5b33839a0e5b451448fb3fe4274f38e8efee7d8b74d8022aca87a941", func := "scrim/scrimlaw2.BitsKnown", spec := "bitsKnown", apart := false, narrowed := true }
def BitsKnownUptoSaid : Prop := bitsKnownUptoRow.holds Try.pinned (OpenSpec.upto bitsKnownSpec)

end Rows
end Go.Proofs.Ytmlkacglddnneaa
