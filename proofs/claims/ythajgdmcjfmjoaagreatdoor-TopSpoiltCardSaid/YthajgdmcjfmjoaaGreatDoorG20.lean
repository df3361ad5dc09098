/- TopSpoilt, part 20 of 38 of its proof: a relative machine (values, memory, an evaluator, all sound against the model), and by it the walks. Conditions: none. -/
import Derived.Test.YthajgdmcjfmjoaaGreatDoorG11
set_option linter.all false
namespace Go.Proofs.YthajgdmcjfmjoaaGreatDoor.Rel
open Go.Proofs
noncomputable section
def gAll:List Nat:=gidsC ++ gidsB ++ gidsA
theorem kStir:rnChk or0X noS 6 rStir gAll = true:=by kernel_rfl
theorem kG:rnChk or0X (sgnS or0X) 6 rG gAll = true:=by kernel_rfl
theorem kInv:rnChk or0X ideaN 8 rInv gAll = true:=by kernel_rfl
theorem kPow:powChk (entOf or0X ideaN 8 rInv) = true:=by kernel_rfl
theorem kLoad:rnChk or0X noS 8 rLoad gAll = true:=by kernel_rfl
theorem kTurn:ideaTurns.all (fun n => rnChk or0X noS 8 (rTurn n) gAll) = true:=by kernel_rfl
theorem kQ0:rnChk or0X (sgnS or0X) 8 (rQ 0 2137) gAll = true:=by kernel_rfl
theorem kQ1:rnChk or0X (sgnS or0X) 8 (rQ 1 2138) gAll = true:=by kernel_rfl
theorem kFold:rnChk or0X (numS or0X nFm fmF) 8 rFold gAll = true:=by kernel_rfl
theorem kH2:rnChk or0X hS 8 (rH 2) (gidsC ++ gidsB) = true:=by kernel_rfl
theorem kH3:rnChk or0X hS 8 (rH 3) (gidsC ++ gidsB) = true:=by kernel_rfl
theorem kH4:rnChk or0X hS 8 (rH 4) (gidsC ++ gidsB) = true:=by kernel_rfl
theorem kS2:(List.range 16).all (fun r => rpChk or0X (twS 2) 8 (rSums 2 r) gidsC) = true:=by kernel_rfl
theorem kS3:(List.range 16).all (fun r => rpChk or0X (twS 3) 8 (rSums 3 r) gidsC) = true:=by kernel_rfl
theorem kS4:(List.range 16).all (fun r => rpChk or0X (twS 4) 8 (rSums 4 r) gidsC) = true:=by kernel_rfl
end
end Go.Proofs.YthajgdmcjfmjoaaGreatDoor.Rel
