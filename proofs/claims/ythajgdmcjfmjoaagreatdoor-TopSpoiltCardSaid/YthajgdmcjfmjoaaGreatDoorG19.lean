/- TopSpoilt, part 19 of 38 of its proof: a relative machine (values, memory, an evaluator, all sound against the model), and by it the walks. Conditions: none. -/
import Derived.Test.YthajgdmcjfmjoaaGreatDoorG11
set_option linter.all false
namespace Go.Proofs.YthajgdmcjfmjoaaGreatDoor.Rel
open Go.Proofs
noncomputable section
theorem kF:rnChk or0X fS 8 rF (gidsC ++ gidsB ++ gidsA) = true:=by kernel_rfl
theorem kOnce:rnChk or0X onceT 8 rOnce (gidsC ++ gidsB) = true:=by kernel_rfl
end
end Go.Proofs.YthajgdmcjfmjoaaGreatDoor.Rel
