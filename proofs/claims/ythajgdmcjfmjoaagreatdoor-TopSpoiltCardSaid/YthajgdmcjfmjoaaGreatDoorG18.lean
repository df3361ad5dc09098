/- TopSpoilt, part 18 of 38 of its proof: a relative machine (values, memory, an evaluator, all sound against the model), and by it the walks. Conditions: none. -/
import Derived.Test.YthajgdmcjfmjoaaGreatDoorG11
set_option linter.all false
namespace Go.Proofs.YthajgdmcjfmjoaaGreatDoor.Rel
open Go.Proofs
noncomputable section
theorem kOnceB:onceChk (orX permX (orX wordX findX)) (entOf or0X onceT 8 rOnce) = true:=by kernel_rfl
end
end Go.Proofs.YthajgdmcjfmjoaaGreatDoor.Rel
