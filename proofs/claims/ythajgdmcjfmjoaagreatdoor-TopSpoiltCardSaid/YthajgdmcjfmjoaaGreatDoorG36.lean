/- TopSpoilt, part 36 of 38 of its proof: a relative machine (values, memory, an evaluator, all sound against the model), and by it the walks. Conditions: none. -/
import Derived.Test.YthajgdmcjfmjoaaGreatDoorG21
import Derived.Test.YthajgdmcjfmjoaaGreatDoorG27
import Derived.Test.YthajgdmcjfmjoaaGreatDoorG28
set_option linter.all false
namespace Go.Proofs.YthajgdmcjfmjoaaGreatDoor.Rel
open Go.Proofs
noncomputable section
theorem cfgDe:cfgChk or0X (orX onceX wordX) desC 8 1 8 8 = true:=by kernel_rfl
theorem isDe:IsCipher 1 8 8:=cfg_ok GG_ok orOk onceX_ok' desC_ok cfgDe
theorem isDe16:IsCipher 2 16 8:=cfg_parts GG_ok orOk onceX_ok' desC_ok newDe16_ok encDe16_ok decDe16_ok backDe16_ok
theorem isDe24:IsCipher 2 24 8:=cfg_parts GG_ok orOk onceX_ok' desC_ok newDe24_ok encDe24_ok decDe24_ok backDe24_ok
end
end Go.Proofs.YthajgdmcjfmjoaaGreatDoor.Rel
