/-
  No cell of these rows narrows 'for every input' (looked for: loops, veiled, ifaces, maps, wideKeys, modest, calm, conditions, laid).
  DERIVED. THE GIVEN ROWS OF THIS SEAT. 7 by the template 'for every input the law returns true; each argument reads behind the call as it read before'; 0 by the template 'total and deterministic' (their statements: YthpeffpafpfkcaaTotals.lean).
  GIVEN WITH THE SEED: the statements are not yours to turn. If you find one false, say at which input.
  Laid BY PROGRAM, IN A SANDBOX (cutbox-rows.mjs): the forced cells as the released guide's own fill.sh prints them over the translation aaaf5991e261063e… (all of the seat's roots in one cut). By AI agents, Wed Nov 11 2026. No macro, syntax, notation, axiom, sorry.
-/
import Derived.Test.YthpeffpafpfkcaaChecked
import GoSem.Claim
import GoSem.ClaimJoined
import GoSem.ClaimMapViews
import Derived.JoinedTies
import Derived.KernelRfl
namespace Go.Proofs.Ythpeffpafpfkcaa
/- THE CELL 'sum', in the pinned program and in every row, IS THE sha256 OF THE DUMP (.gsa) THAT YthpeffpafpfkcaaProg.lean LOADS. Nothing in Lean hashes anything: it is a label: what it is worth is what the hold of that sum in a sandbox is worth. -/
noncomputable def Try.pinned : Pinned := { name := "ythpeffpafpfkcaa", sum := "aaaf5991e261063eb65b1c87f0131ee71db6d5b3587b38a176228623156f2341", checked := Try.checked }
namespace Rows
def none {H : Type} : Left H := { results := [], args := [] }

/-- 'scrimlaw14.PadAdds': WHATEVER THE INPUT: true; the input reads as it did. -/
def padAddsSpec : ChangeSpec := { name := "padAdds", fn := fun _ => fun
  | [d1, d2, d3] => { results := [.lit (.bool true)], args := [d1, d2, d3] }
  | _ => none }
def padAddsRow : OpenClaim := { program := "ythpeffpafpfkcaa", sum := "aaaf5991e261063eb65b1c87f0131ee71db6d5b3587b38a176228623156f2341", func := "scrim/scrimlaw14.PadAdds", spec := "padAdds", apart := false }
def PadAddsSaid : Prop := padAddsRow.holds Try.pinned (OpenSpec.ofChange padAddsSpec)

/-- ITS FALSE NEIGHBOUR: 'it returns false'. Refute it at one input. -/
def padAddsWrong : ChangeSpec := { name := "padAdds", fn := fun _ => fun
  | [d1, d2, d3] => { results := [.lit (.bool false)], args := [d1, d2, d3] }
  | _ => none }
def PadAddsWrongFalsely : Prop := padAddsRow.holds Try.pinned (OpenSpec.ofChange padAddsWrong)

/-- 'scrimlaw14.PadStrips': WHATEVER THE INPUT: true; the input reads as it did. -/
def padStripsSpec : ChangeSpec := { name := "padStrips", fn := fun _ => fun
  | [d1, d2, d3, d4, d5, d6, d7] => { results := [.lit (.bool true)], args := [d1, d2, d3, d4, d5, d6, d7] }
  | _ => none }
def padStripsRow : OpenClaim := { program := "ythpeffpafpfkcaa", sum := "aaaf5991e261063eb65b1c87f0131ee71db6d5b3587b38a176228623156f2341", func := "scrim/scrimlaw14.PadStrips", spec := "padStrips", apart := false }
def PadStripsSaid : Prop := padStripsRow.holds Try.pinned (OpenSpec.ofChange padStripsSpec)

/-- ITS FALSE NEIGHBOUR: 'it returns false'. Refute it at one input. -/
def padStripsWrong : ChangeSpec := { name := "padStrips", fn := fun _ => fun
  | [d1, d2, d3, d4, d5, d6, d7] => { results := [.lit (.bool false)], args := [d1, d2, d3, d4, d5, d6, d7] }
  | _ => none }
def PadStripsWrongFalsely : Prop := padStripsRow.holds Try.pinned (OpenSpec.ofChange padStripsWrong)

/-- 'scrimlaw14.PadBack': WHATEVER THE INPUT: true; the input reads as it did. -/
def padBackSpec : ChangeSpec := { name := "padBack", fn := fun _ => fun
  | [d1, d2, d3] => { results := [.lit (.bool true)], args := [d1, d2, d3] }
  | _ => none }
def padBackRow : OpenClaim := { program := "ythpeffpafpfkcaa", sum := "aaaf5991e261063eb65b1c87f0131ee71db6d5b3587b38a176228623156f2341", func := "scrim/scrimlaw14.PadBack", spec := "padBack", apart := false }
def PadBackSaid : Prop := padBackRow.holds Try.pinned (OpenSpec.ofChange padBackSpec)

/-- ITS FALSE NEIGHBOUR: 'it returns false'. Refute it at one input. -/
def padBackWrong : ChangeSpec := { name := "padBack", fn := fun _ => fun
  | [d1, d2, d3] => { results := [.lit (.bool false)], args := [d1, d2, d3] }
  | _ => none }
def PadBackWrongFalsely : Prop := padBackRow.holds Try.pinned (OpenSpec.ofChange padBackWrong)

/-- 'scrimlaw14.PadOnly': WHATEVER THE INPUT: true; the input reads as it did. -/
def padOnlySpec : ChangeSpec := { name := "padOnly", fn := fun _ => fun
  | [d1, d2, d3, d4, d5] => { results := [.lit (.bool true)], args := [d1, d2, d3, d4, d5] }
  | _ => none }
def padOnlyRow : OpenClaim := { program := "ythpeffpafpfkcaa", sum := "aaaf5991e261063eb65b1c87f0131ee71db6d5b3587b38a176228623156f2341", func := "scrim/scrimlaw14.PadOnly", spec := "padOnly", apart := false }
def PadOnlySaid : Prop := padOnlyRow.holds Try.pinned (OpenSpec.ofChange padOnlySpec)

/-- ITS FALSE NEIGHBOUR: 'it returns false'. Refute it at one input. -/
def padOnlyWrong : ChangeSpec := { name := "padOnly", fn := fun _ => fun
  | [d1, d2, d3, d4, d5] => { results := [.lit (.bool false)], args := [d1, d2, d3, d4, d5] }
  | _ => none }
def PadOnlyWrongFalsely : Prop := padOnlyRow.holds Try.pinned (OpenSpec.ofChange padOnlyWrong)

/-- 'scrimlaw14.PadKnown': WHATEVER THE INPUT: true; the input reads as it did. -/
def padKnownSpec : ChangeSpec := { name := "padKnown", fn := fun _ => fun
  | [d] => { results := [.lit (.bool true)], args := [d] }
  | _ => none }
def padKnownRow : OpenClaim := { program := "ythpeffpafpfkcaa", sum := "aaaf5991e261063eb65b1c87f0131ee71db6d5b3587b38a176228623156f2341", func := "scrim/scrimlaw14.PadKnown", spec := "padKnown", apart := false }
def PadKnownSaid : Prop := padKnownRow.holds Try.pinned (OpenSpec.ofChange padKnownSpec)

/-- ITS FALSE NEIGHBOUR: 'it returns false'. Refute it at one input. -/
def padKnownWrong : ChangeSpec := { name := "padKnown", fn := fun _ => fun
  | [d] => { results := [.lit (.bool false)], args := [d] }
  | _ => none }
def PadKnownWrongFalsely : Prop := padKnownRow.holds Try.pinned (OpenSpec.ofChange padKnownWrong)

/-- 'scrimlaw14.PadLengths': WHATEVER THE INPUT: true; the input reads as it did. -/
def padLengthsSpec : ChangeSpec := { name := "padLengths", fn := fun _ => fun
  | [d1, d2, d3] => { results := [.lit (.bool true)], args := [d1, d2, d3] }
  | _ => none }
def padLengthsRow : OpenClaim := { program := "ythpeffpafpfkcaa", sum := "aaaf5991e261063eb65b1c87f0131ee71db6d5b3587b38a176228623156f2341", func := "scrim/scrimlaw14.PadLengths", spec := "padLengths", apart := false }
def PadLengthsSaid : Prop := padLengthsRow.holds Try.pinned (OpenSpec.ofChange padLengthsSpec)

/-- ITS FALSE NEIGHBOUR: 'it returns false'. Refute it at one input. -/
def padLengthsWrong : ChangeSpec := { name := "padLengths", fn := fun _ => fun
  | [d1, d2, d3] => { results := [.lit (.bool false)], args := [d1, d2, d3] }
  | _ => none }
def PadLengthsWrongFalsely : Prop := padLengthsRow.holds Try.pinned (OpenSpec.ofChange padLengthsWrong)

/-- 'scrimlaw14.PadAll': WHATEVER THE INPUT: true; the input reads as it did. -/
def padAllSpec : ChangeSpec := { name := "padAll", fn := fun _ => fun
  | [d1, d2, d3] => { results := [.lit (.bool true)], args := [d1, d2, d3] }
  | _ => none }
def padAllRow : OpenClaim := { program := "ythpeffpafpfkcaa", sum := "aaaf5991e261063eb65b1c87f0131ee71db6d5b3587b38a176228623156f2341", func := "scrim/scrimlaw14.PadAll", spec := "padAll", apart := false }
def PadAllSaid : Prop := padAllRow.holds Try.pinned (OpenSpec.ofChange padAllSpec)

/-- ITS FALSE NEIGHBOUR: 'it returns false'. Refute it at one input. -/
def padAllWrong : ChangeSpec := { name := "padAll", fn := fun _ => fun
  | [d1, d2, d3] => { results := [.lit (.bool false)], args := [d1, d2, d3] }
  | _ => none }
def PadAllWrongFalsely : Prop := padAllRow.holds Try.pinned (OpenSpec.ofChange padAllWrong)

/- THE SECOND FORM. 'bulk': how many values and letters a reading holds, each counted each time it is reached (what is shared counts as often as it is met; a slice's spare places count too). A statement '..UptoSaid' is the law's where the arguments, and the package variables that the reading takes, are together of bulk at most 1048576: NARROWER than '..Said'. Prove '..Said' where nothing that the law and all that it calls make is longer than what came in: it says more and counts as full. Else prove '..UptoSaid'. A law counts once. -/
mutual
def uptoBulk {H : Type} : DataW H → Nat
  | .lit (.string bytes) => bytes.length + 1
  | .lit _ => 1
  | .nil => 1
  | .ptr d => uptoBulk d + 1
  | .slice elems spare => uptoBulkAll elems + uptoBulkAll spare + 1
  | .agg parts => uptoBulkAll parts + 1
  | .iface _ d => uptoBulk d + 1
  | .map entries => uptoBulkEntries entries + 1
  | .held _ => 1
def uptoBulkAll {H : Type} : List (DataW H) → Nat
  | [] => 0
  | d :: r => uptoBulk d + uptoBulkAll r
def uptoBulkEntries {H : Type} : List (Lit × DataW H) → Nat
  | [] => 0
  | x :: r => uptoBulkEntry x + uptoBulkEntries r
def uptoBulkEntry {H : Type} : Lit × DataW H → Nat
  | (.string bytes, d) => bytes.length + uptoBulk d + 1
  | (_, d) => uptoBulk d + 1
 end
def uptoSmall : (H : Type) → List (DataW H) → Bool := fun _ ds => decide (uptoBulkAll ds ≤ 1048576)
def OpenSpec.upto (s : _root_.Go.ChangeSpec) : _root_.Go.OpenSpec := { _root_.Go.OpenSpec.ofChange s with cond := some uptoSmall }

/-- 'scrimlaw14.PadAdds', WHERE WHAT IT READS IS OF BULK AT MOST 1048576: true; the input reads as it did. -/
def padAddsUptoRow : OpenClaim := { program := "ythpeffpafpfkcaa", sum := "aaaf5991e261063eb65b1c87f0131ee71db6d5b3587b38a176228623156f2341", func := "scrim/scrimlaw14.PadAdds", spec := "padAdds", apart := false, narrowed := true }
def PadAddsUptoSaid : Prop := padAddsUptoRow.holds Try.pinned (OpenSpec.upto padAddsSpec)

/-- 'scrimlaw14.PadStrips', WHERE WHAT IT READS IS OF BULK AT MOST 1048576: true; the input reads as it did. -/
def padStripsUptoRow : OpenClaim := { program := "ythpeffpafpfkcaa", sum := "aaaf5991e261063eb65b1c87f0131ee71db6d5b3587b38a176228623156f2341", func := "scrim/scrimlaw14.PadStrips", spec := "padStrips", apart := false, narrowed := true }
def PadStripsUptoSaid : Prop := padStripsUptoRow.holds Try.pinned (OpenSpec.upto padStripsSpec)

/-- 'scrimlaw14.PadBack', WHERE WHAT IT READS IS OF BULK AT MOST 1048576: true; the input reads as it did. -/
def padBackUptoRow : OpenClaim := { program := "ythpeffpafpfkcaa", sum := "aaaf5991e261063eb65b1c87f0131ee71db6d5b3587b38a176228623156f2341", func := "scrim/scrimlaw14.PadBack", spec := "padBack", apart := false, narrowed := true }
def PadBackUptoSaid : Prop := padBackUptoRow.holds Try.pinned (OpenSpec.upto padBackSpec)

/-- 'scrimlaw14.PadOnly', WHERE WHAT IT READS IS OF BULK AT MOST 1048576: true; the input reads as it did. -/
def padOnlyUptoRow : OpenClaim := { program := "ythpeffpafpfkcaa", sum := "aaaf5991e261063eb65b1c87f0131ee71db6d5b3587b38a176228623156f2341", func := "scrim/scrimlaw14.PadOnly", spec := "padOnly", apart := false, narrowed := true }
def PadOnlyUptoSaid : Prop := padOnlyUptoRow.holds Try.pinned (OpenSpec.upto padOnlySpec)

/-- 'scrimlaw14.PadKnown', WHERE WHAT IT READS IS OF BULK AT MOST 1048576: true; the input reads as it did. -/
def padKnownUptoRow : OpenClaim := { program := "ythpeffpafpfkcaa", sum := "aaaf5991e261063eb65b1c87f0131ee71db6d5b3587b38a176228623156f2341", func := "scrim/scrimlaw14.PadKnown", spec := "padKnown", apart := false, narrowed := true }
def PadKnownUptoSaid : Prop := padKnownUptoRow.holds Try.pinned (OpenSpec.upto padKnownSpec)

/-- 'scrimlaw14.PadLengths', WHERE WHAT IT READS IS OF BULK AT MOST 1048576: true; the input reads as it did. -/
def padLengthsUptoRow : OpenClaim := { program := "ythpeffpafpfkcaa", sum := "aaaf5991e261063eb65b1c87f0131ee71db6d5b3587b38a176228623156f2341", func := "scrim/scrimlaw14.PadLengths", spec := "padLengths", apart := false, narrowed := true }
def PadLengthsUptoSaid : Prop := padLengthsUptoRow.holds Try.pinned (OpenSpec.upto padLengthsSpec)

/-- 'scrimlaw14.PadAll', WHERE WHAT IT READS IS OF BULK AT MOST 1048576: true; the input reads as it did. -/
def padAllUptoRow : OpenClaim := { program := "ythpeffpafpfkcaa", sum := "aaaf5991e261063eb65b1c87f0131ee71db6d5b3587b38a176228623156f2341", func := "scrim/scrimlaw14.PadAll", spec := "padAll", apart := false, narrowed := true }
def PadAllUptoSaid : Prop := padAllUptoRow.holds Try.pinned (OpenSpec.upto padAllSpec)

end Rows
end Go.Proofs.Ythpeffpafpfkcaa
