/- A walk: each Go function that is named here answers what its plain function answers. Conditions: its arguments are read as lists and numbers. -/
import Derived.Test.YtmlkacglddnneaaProg
import Derived.Below
import Derived.Deep.Draws
import Derived.Deep.AppendLies
import Derived.Maps.AppendAt
import Derived.OwnWalk
import Derived.Laws.BytesArg
import Derived.Laws.MakeOwn
import Derived.Laws.OwnMore
import Derived.Deep.OwnRows
import Derived.Tactics
import Derived.Lib.ConvBytes
import Derived.Laws.Slices
import Derived.WalkKit
import Derived.KernelRfl
import Derived.RowKit3
import Derived.Deep.LoopGhost
import Derived.Deep.QuietTactic
import Derived.BigQuiet
import Derived.WideLaws
import Derived.Deep.DeepCutAuto
import Derived.Deep.CutBlock
import Derived.Deep.RegionHeld3
import Derived.Laws.Rows
import Derived.Lib.AppendStr
import Derived.ArgAppend
import Derived.Laws.IdiomCopy
import Derived.OrdersHeld
import Derived.Laws.BitsLemmas
import Derived.RowKit
import Derived.Test.YtmlkacglddnneaaWWords
import Derived.Test.YtmlkacglddnneaaWLast
import Derived.Test.YtmlkacglddnneaaWTab
import Derived.Test.YtmlkacglddnneaaWFour
import Derived.Test.YtmlkacglddnneaaWQPut
import Derived.Test.YtmlkacglddnneaaWApart
import Derived.Test.YtmlkacglddnneaaWArr
import Derived.Test.YtmlkacglddnneaaWZeros
import Derived.Test.YtmlkacglddnneaaWFoot
import Derived.Test.YtmlkacglddnneaaWKept
import Derived.Test.YtmlkacglddnneaaWShare
import Derived.Test.YtmlkacglddnneaaWN
import Derived.Test.YtmlkacglddnneaaWFootNe
import Derived.Test.YtmlkacglddnneaaWAt
import Derived.Test.YtmlkacglddnneaaWEqStruct
import Derived.Test.YtmlkacglddnneaaWRepsOne
import Derived.Test.YtmlkacglddnneaaWInv
import Derived.Test.YtmlkacglddnneaaWInvWords
import Derived.Test.YtmlkacglddnneaaWGuard
import Derived.Test.YtmlkacglddnneaaWNEv
import Derived.Test.YtmlkacglddnneaaWMore
namespace Go.Proofs.Ytmlkacglddnneaa.MBitsKnown
open Go.RowKit Go.Proofs.YtmlkacglddnneaaW.PrintWords Go.Proofs.YtmlkacglddnneaaW.PrintLast Go.Proofs.YtmlkacglddnneaaW.PrintMore
attribute [local go_sem] max2_int min2_int max_two min_two max_three min_three max_four min_four   -- for this text's walks alone
set_option linter.unusedVariables false
set_option linter.unusedSimpArgs false



def errW : Option Int → Value
  | none => .nilIface
  | some c => .iface 0 (.int .i64 c)
theorem errW_none : errW none = .nilIface := rfl
theorem errW_some (c : Int) : errW (some c) = .iface 0 (.int .i64 c) := rfl

theorem info3 : (Try.prog.info? 3).map (fun i => (i.zero, i.size, i.bytes)) = some (some (.int .i64 0), 1, 8) := by kernel_rfl
theorem info4 : (Try.prog.info? 4).map (fun i => (i.zero, i.size, i.bytes)) = some (some (.bool false), 1, 1) := by kernel_rfl
theorem info5 : (Try.prog.info? 5).map (fun i => (i.zero, i.size, i.bytes)) = some (some (.int .u8 0), 1, 1) := by kernel_rfl
-- the values' own types

end Go.Proofs.Ytmlkacglddnneaa.MBitsKnown
