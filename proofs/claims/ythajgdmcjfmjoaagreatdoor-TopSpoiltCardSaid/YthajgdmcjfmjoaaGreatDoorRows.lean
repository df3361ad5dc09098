/-
  NARROWER THAN 'FOR EVERY INPUT', by the rows' own cells (each row's printed sentence says how): TopSpoilt: laid.
  DERIVED. THE GIVEN ROWS OF THIS SEAT. 1 by the template 'for every input the law returns true; each argument reads behind the call as it read before'; 0 by the template 'total and deterministic' (their statements: YthajgdmcjfmjoaaGreatDoorTotals.lean).
  GIVEN WITH THE SEED: the statements are not yours to turn. If you find one false, say at which input.
  Laid BY PROGRAM, IN A SANDBOX (cutbox-rows.mjs): the forced cells as the released guide's own fill.sh prints them over the translation 21178e379c46ea61… (all of the seat's roots in one cut). By AI agents, Wed Nov 11 2026. No macro, syntax, notation, axiom, sorry.
-/
import Derived.Test.YthajgdmcjfmjoaaGreatDoorChecked
import GoSem.Claim
import GoSem.ClaimJoined
import GoSem.ClaimMapViews
import Derived.JoinedTies
import Derived.KernelRfl
namespace Go.Proofs.YthajgdmcjfmjoaaGreatDoor
/- THE CELL 'sum', in the pinned program and in every row, IS THE sha256 OF THE DUMP (.gsa) THAT YthajgdmcjfmjoaaGreatDoorProg.lean LOADS. Nothing in Lean hashes anything: it is a label: what it is worth is what the hold of that sum in a sandbox is worth. -/
noncomputable def Tryz.pinned : Pinned := { name := "ythajgdmcjfmjoaagreatdoor", sum := "21178e379c46ea61ea14382f2f48e8bdf1e62dafc1f0f90ea0c26c7e7a588326", checked := Tryz.checked }
namespace Rows
def none {H : Type} : Left H := { results := [], args := [] }

/- WHAT THE LISTED PACKAGE-LEVEL VARIABLES READ AS WHEN THE CALL BEGINS. Each datum BY PROGRAM (the guide's laid-datum.mjs) off the statement by which the dump's own 'gosem.cut.vars' lays the variable. In a bare row this is a premise. The card (YthajgdmcjfmjoaaGreatDoorCards.lean) ties it to the program's text. -/
def laid_scrim_box_ones {H : Type} : DataW H := .agg [.lit (.int .u8 1), .lit (.int .u8 2), .lit (.int .u8 4), .lit (.int .u8 8), .lit (.int .u8 16), .lit (.int .u8 32), .lit (.int .u8 64), .lit (.int .u8 128)]

/-- 'scrimtop.TopSpoilt': WHATEVER THE INPUT: true; the input reads as it did. -/
def topSpoiltSpec : ChangeSpec := { name := "topSpoilt", fn := fun _ => fun
  | [d1, d2, d3, d4] => { results := [.lit (.bool true)], args := [d1, d2, d3, d4] }
  | _ => none }
def topSpoiltRow : OpenClaim := { program := "ythajgdmcjfmjoaagreatdoor", sum := "21178e379c46ea61ea14382f2f48e8bdf1e62dafc1f0f90ea0c26c7e7a588326", func := "scrim/scrimtop.TopSpoilt", spec := "topSpoilt", unfollowed := true, recurses := true, named := ["scrim/box.ones"], apart := false, laid := [("scrim/box.ones", laid_scrim_box_ones)] }
def TopSpoiltSaid : Prop := topSpoiltRow.holds Tryz.pinned (OpenSpec.ofChange topSpoiltSpec)

/-- ITS FALSE NEIGHBOUR: 'it returns false'. Refute it at one input. -/
def topSpoiltWrong : ChangeSpec := { name := "topSpoilt", fn := fun _ => fun
  | [d1, d2, d3, d4] => { results := [.lit (.bool false)], args := [d1, d2, d3, d4] }
  | _ => none }
def TopSpoiltWrongFalsely : Prop := topSpoiltRow.holds Tryz.pinned (OpenSpec.ofChange topSpoiltWrong)

/- THE SECOND FORM. 'bulk': how many values and letters a reading holds, each counted each time it is reached (what is shared counts as often as it is met; a slice's spare places count too). A statement '..UptoSaid' is the law's where the arguments, and the package variables that the reading takes, are together of bulk at most 1048576: NARROWER than '..Said'. Prove '..Said' where nothing that the law and all that it calls make is longer than what came in: it says more and counts as full. Else prove '..UptoSaid'. A law counts once. -/
mutual
def uptoBulk {H : Type} : DataW H → Nat
  | .lit (.string bytes) => bytes.length + 1
  | .lit _ => 1
  | .nil => 1
  | .ptr d => uptoBulk d + 1
  | .slice elems spare => uptoBulkAll elems + uptoBulkAll spare + 1
  | .agg parts => uptoBulkAll parts + 1
  | .iface _ d => uptoBulk d + 1
  | .map entries => uptoBulkEntries entries + 1
  | .held _ => 1
def uptoBulkAll {H : Type} : List (DataW H) → Nat
  | [] => 0
  | d :: r => uptoBulk d + uptoBulkAll r
def uptoBulkEntries {H : Type} : List (Lit × DataW H) → Nat
  | [] => 0
  | x :: r => uptoBulkEntry x + uptoBulkEntries r
def uptoBulkEntry {H : Type} : Lit × DataW H → Nat
  | (.string bytes, d) => bytes.length + uptoBulk d + 1
  | (_, d) => uptoBulk d + 1
 end
def uptoSmall : (H : Type) → List (DataW H) → Bool := fun _ ds => decide (uptoBulkAll ds ≤ 1048576)
def OpenSpec.upto (s : _root_.Go.ChangeSpec) : _root_.Go.OpenSpec := { _root_.Go.OpenSpec.ofChange s with cond := some uptoSmall }

/-- 'scrimtop.TopSpoilt', WHERE WHAT IT READS IS OF BULK AT MOST 1048576: true; the input reads as it did. -/
def topSpoiltUptoRow : OpenClaim := { program := "ythajgdmcjfmjoaagreatdoor", sum := "21178e379c46ea61ea14382f2f48e8bdf1e62dafc1f0f90ea0c26c7e7a588326", func := "scrim/scrimtop.TopSpoilt", spec := "topSpoilt", unfollowed := true, recurses := true, named := ["scrim/box.ones"], apart := false, laid := [("scrim/box.ones", laid_scrim_box_ones)], narrowed := true }
def TopSpoiltUptoSaid : Prop := topSpoiltUptoRow.holds Tryz.pinned (OpenSpec.upto topSpoiltSpec)

end Rows
end Go.Proofs.YthajgdmcjfmjoaaGreatDoor
