/- A walk: each Go function that is named here answers what its plain function answers. Conditions: its arguments are read as lists and numbers. -/
import Derived.Test.YteadclhlipcfpaaProg
import Derived.Test.YteadclhlipcfpaaFloWords
import Derived.Test.YteadclhlipcfpaaArrPlain
import Derived.Below
import Derived.Deep.Draws
import Derived.Deep.AppendLies
import Derived.Maps.AppendAt
import Derived.OwnWalk
import Derived.Laws.BytesArg
import Derived.Laws.MakeOwn
import Derived.Laws.OwnMore
import Derived.Deep.OwnRows
import Derived.Tactics
import Derived.Lib.ConvBytes
import Derived.Laws.Slices
import Derived.WalkKit
import Derived.KernelRfl
import Derived.RowKit3
import Derived.Deep.LoopGhost
import Derived.Deep.QuietTactic
import Derived.BigQuiet
import Derived.WideLaws
import Derived.Deep.DeepCutAuto
import Derived.Deep.CutBlock
import Derived.Deep.RegionHeld3
import Derived.Laws.Rows
import Derived.Lib.AppendStr
import Derived.ArgAppend
import Derived.Laws.IdiomCopy
import Derived.OrdersHeld
import Derived.Laws.BitsLemmas
import Derived.RowKit
import Derived.ScopeJumps
import Derived.WalkMore
import Derived.WalkSpells
import Derived.Lib.SlBytesConst
import Derived.Test.YteadclhlipcfpaaWWords
import Derived.Test.YteadclhlipcfpaaWLast
import Derived.Test.YteadclhlipcfpaaWTab
import Derived.Test.YteadclhlipcfpaaWFour
import Derived.Test.YteadclhlipcfpaaWQPut
import Derived.Test.YteadclhlipcfpaaWApart
import Derived.Test.YteadclhlipcfpaaWArr
import Derived.Test.YteadclhlipcfpaaWZeros
import Derived.Test.YteadclhlipcfpaaWFoot
import Derived.Test.YteadclhlipcfpaaWKept
import Derived.Test.YteadclhlipcfpaaWShare
import Derived.Test.YteadclhlipcfpaaWN
import Derived.Test.YteadclhlipcfpaaWFootNe
import Derived.Test.YteadclhlipcfpaaWAt
import Derived.Test.YteadclhlipcfpaaWEqStruct
import Derived.Test.YteadclhlipcfpaaWRepsOne
import Derived.Test.YteadclhlipcfpaaWInv
import Derived.Test.YteadclhlipcfpaaWInvWords
import Derived.Test.YteadclhlipcfpaaWGuard
import Derived.Test.YteadclhlipcfpaaWNEv
import Derived.Test.YteadclhlipcfpaaWMore
namespace Go.Proofs.Yteadclhlipcfpaa.MEchoLinear
open Go.RowKit Go.Proofs.YteadclhlipcfpaaW.PrintWords Go.Proofs.YteadclhlipcfpaaW.PrintLast Go.Proofs.YteadclhlipcfpaaW.PrintMore
open Go.Proofs.Yteadclhlipcfpaa.FloWords
attribute [local go_sem] run_cx_add run_cx_sub run_cx_mul run_fl_add run_fl_quo run_neg_fl run_fl_int run_eql_complex run_neq_complex
attribute [local go_sem] max2_int min2_int max_two min_two max_three min_three max_four min_four   -- for this text's walks alone
set_option linter.unusedVariables false
set_option linter.unusedSimpArgs false



def errW : Option Int → Value
  | none => .nilIface
  | some c => .iface 0 (.int .i64 c)
theorem errW_none : errW none = .nilIface := rfl
theorem errW_some (c : Int) : errW (some c) = .iface 0 (.int .i64 c) := rfl

theorem info5 : (Try.prog.info? 5).map (fun i => (i.zero, i.size, i.bytes)) = some (some (.int .u8 0), 1, 1) := by kernel_rfl
theorem info42 : (Try.prog.info? 42).map (fun i => (i.zero, i.size, i.bytes)) = some (some (.agg #[(.int .u8 0), (.int .u8 0), (.int .u8 0), (.int .u8 0), (.int .u8 0), (.int .u8 0), (.int .u8 0), (.int .u8 0)]), 8, 8) := by kernel_rfl
-- the values' own types

end Go.Proofs.Yteadclhlipcfpaa.MEchoLinear
