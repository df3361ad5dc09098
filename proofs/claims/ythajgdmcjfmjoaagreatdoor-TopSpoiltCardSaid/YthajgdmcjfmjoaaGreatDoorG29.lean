/- TopSpoilt, part 29 of 38 of its proof: a relative machine (values, memory, an evaluator, all sound against the model), and by it the walks. Conditions: none. -/
import Derived.Test.YthajgdmcjfmjoaaGreatDoorG23
set_option linter.all false
namespace Go.Proofs.YthajgdmcjfmjoaaGreatDoor.Rel
open Go.Proofs
noncomputable section
def zK:List V:=List.replicate 16 (.int .u8 0)
def zI:List V:=List.replicate 8 (.int .u8 0)
def helI:List Int:=[104,101,108,108,111,44,32,116,104,101,114,101]
def encI:List Int:=[126,200,252,77,235,194,59,158,150,100,17,177]
def cfV (b:Bool):V:=.agg [.int .i64 3,.int .i64 8,.int .i64 4,.bool b]
def shE:Lm:=⟨8,[cfV false,.sl 0 0 16 (some 16),.sl 1 0 8 (some 8),.sl 2 0 12 (some 12)],[zK,zI,u8s' helI],.tup [.sl 52 0 12 none,.int .i64 0],[(u8s' encI,1)],[52]⟩
def seE:Lm:=⟨9,[cfV true,.sl 0 0 16 (some 16),.sl 1 0 8 (some 8),.sl 2 0 1 (some 1)],[zK,zI,[.sl 3 0 12 none],u8s' encI],.tup [.sl 74 0 12 none,.int .i64 0],[(u8s' helI,1)],[74]⟩
def cxZ:List V:=[.bool false,.bool false,.int .i64 0,.int .i64 0,.int .i64 0,.bool false,.nilptr,.nilsl,.nilptr,.nilsl,.nilsl]
def nwE:Lm:=⟨10,[],[],.ptr 0 0,[(cxZ,0)],[0]⟩
def szE:Lm:=⟨11,[.int .i64 7],[],.int .i64 16,[],[]⟩
theorem shE_chk:lmChk knS shE = true:=by kernel_rfl
theorem seE_chk:lmChk knT seE = true:=by kernel_rfl
theorem nwE_chk:lmChk noS nwE = true:=by kernel_rfl
theorem szE_chk:lmChk noS szE = true:=by kernel_rfl
end
end Go.Proofs.YthajgdmcjfmjoaaGreatDoor.Rel
