/- TopSpoilt, part 32 of 38 of its proof: a relative machine (values, memory, an evaluator, all sound against the model), and by it the walks. Conditions: none. -/
import Derived.Test.YthajgdmcjfmjoaaGreatDoorG21
import Derived.Test.YthajgdmcjfmjoaaGreatDoorG24
import Derived.Test.YthajgdmcjfmjoaaGreatDoorG25
import Derived.Test.YthajgdmcjfmjoaaGreatDoorG26
set_option linter.all false
namespace Go.Proofs.YthajgdmcjfmjoaaGreatDoor.Rel
open Go.Proofs
theorem isTw16:IsCipher 6 16 16:=cfg_parts GG_ok orOk rolX_ok' twT2_ok newTw16_ok encTw16_ok decTw16_ok backTw16_ok
theorem isTw24:IsCipher 6 24 16:=cfg_parts GG_ok orOk rolX_ok' twT3_ok newTw24_ok encTw24_ok decTw24_ok backTw24_ok
theorem isTw32:IsCipher 6 32 16:=cfg_parts GG_ok orOk rolX_ok' twT4_ok newTw32_ok encTw32_ok decTw32_ok backTw32_ok
end Go.Proofs.YthajgdmcjfmjoaaGreatDoor.Rel
