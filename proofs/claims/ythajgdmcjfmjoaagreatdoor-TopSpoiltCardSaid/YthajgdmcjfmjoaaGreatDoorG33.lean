/- TopSpoilt, part 33 of 38 of its proof: a relative machine (values, memory, an evaluator, all sound against the model), and by it the walks. Conditions: none. -/
import Derived.Test.YthajgdmcjfmjoaaGreatDoorG21
set_option linter.all false
namespace Go.Proofs.YthajgdmcjfmjoaaGreatDoor.Rel
open Go.Proofs
noncomputable section
theorem cfgRc:cfgChk or0X (orX rolX wordX) rc5S 8 8 16 8 = true:=by kernel_rfl
theorem isRc:IsCipher 8 16 8:=cfg_ok GG_ok orOk rolX_ok' rc5_ok cfgRc
end
end Go.Proofs.YthajgdmcjfmjoaaGreatDoor.Rel
