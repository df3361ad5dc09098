/- TopSpoilt, part 31 of 38 of its proof: a relative machine (values, memory, an evaluator, all sound against the model), and by it the walks. Conditions: none. -/
import Derived.Test.YthajgdmcjfmjoaaGreatDoorG21
set_option linter.all false
namespace Go.Proofs.YthajgdmcjfmjoaaGreatDoor.Rel
open Go.Proofs
noncomputable section
theorem cfgXt:cfgChk or0X wordX (runS or0X rStir) 8 4 16 8 = true:=by kernel_rfl
theorem isXt:IsCipher 4 16 8:=cfg_ok GG_ok orOk wordX_ok stir_ok cfgXt
end
end Go.Proofs.YthajgdmcjfmjoaaGreatDoor.Rel
