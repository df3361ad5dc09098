/- TopSpoilt, part 35 of 38 of its proof: a relative machine (values, memory, an evaluator, all sound against the model), and by it the walks. Conditions: none. -/
import Derived.Test.YthajgdmcjfmjoaaGreatDoorG21
set_option linter.all false
namespace Go.Proofs.YthajgdmcjfmjoaaGreatDoor.Rel
open Go.Proofs
noncomputable section
theorem cfgId:cfgChk or0X (orX ideaX wordX) ideaS 8 3 16 8 = true:=by kernel_rfl
theorem isIdea:IsCipher 3 16 8:=cfg_ok GG_ok orOk ideaX_ok' ideaS_ok cfgId
end
end Go.Proofs.YthajgdmcjfmjoaaGreatDoor.Rel
