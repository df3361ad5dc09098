/- TopSpoilt, part 34 of 38 of its proof: a relative machine (values, memory, an evaluator, all sound against the model), and by it the walks. Conditions: none. -/
import Derived.Test.YthajgdmcjfmjoaaGreatDoorG21
set_option linter.all false
namespace Go.Proofs.YthajgdmcjfmjoaaGreatDoor.Rel
open Go.Proofs
noncomputable section
theorem cfgMg:cfgChk or0X wordX (runS or0X rG) 8 5 32 8 = true:=by kernel_rfl
theorem isMg:IsCipher 5 32 8:=cfg_ok GG_ok orOk wordX_ok g_ok cfgMg
end
end Go.Proofs.YthajgdmcjfmjoaaGreatDoor.Rel
