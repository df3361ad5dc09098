/- TopSpoilt, part 37 of 38 of its proof: a relative machine (values, memory, an evaluator, all sound against the model), and by it the walks. Conditions: none. -/
import Derived.Test.YthajgdmcjfmjoaaGreatDoorG16
import Derived.Test.YthajgdmcjfmjoaaGreatDoorG31
import Derived.Test.YthajgdmcjfmjoaaGreatDoorG32
import Derived.Test.YthajgdmcjfmjoaaGreatDoorG33
import Derived.Test.YthajgdmcjfmjoaaGreatDoorG34
import Derived.Test.YthajgdmcjfmjoaaGreatDoorG35
import Derived.Test.YthajgdmcjfmjoaaGreatDoorG36
set_option linter.all false
namespace Go.Proofs.YthajgdmcjfmjoaaGreatDoor.Rel
open Go.Proofs
theorem IsCipher.ciph {t:Int} {L s:Nat} (h:IsCipher t L s):Ciph GG t L s:=by
 obtain ⟨c,sol,rows,E,D,gE,gD,lE,lD,h⟩:=h
 exact h.ciph
theorem all_ciph:CiphAll GG:=by
 intro t L ht hL
 obtain rfl | rfl | rfl | rfl | rfl | rfl | rfl | rfl:t = 1 ∨ t = 2 ∨ t = 3 ∨ t = 4 ∨ t = 5 ∨ t = 6 ∨ t = 7 ∨ t = 8:=by omega
 ·have:L ∈ [8]:=hL
  obtain rfl:L = 8:=by simpa using this
  exact isDe.ciph
 ·have:L ∈ [16,24]:=hL
  obtain rfl | rfl:L = 16 ∨ L = 24:=by simpa using this
  ·exact isDe16.ciph
  ·exact isDe24.ciph
 ·have:L ∈ [16]:=hL
  obtain rfl:L = 16:=by simpa using this
  exact isIdea.ciph
 ·have:L ∈ [16]:=hL
  obtain rfl:L = 16:=by simpa using this
  exact isXt.ciph
 ·have:L ∈ [32]:=hL
  obtain rfl:L = 32:=by simpa using this
  exact isMg.ciph
 ·have:L ∈ [16,24,32]:=hL
  obtain rfl | rfl | rfl:L = 16 ∨ L = 24 ∨ L = 32:=by simpa using this
  ·exact isTw16.ciph
  ·exact isTw24.ciph
  ·exact isTw32.ciph
 ·have:L ∈ [16,24,32]:=hL
  obtain rfl | rfl | rfl:L = 16 ∨ L = 24 ∨ L = 32:=by simpa using this
  ·exact isAria GG_ok (sz:=0) (by omega)
  ·exact isAria GG_ok (sz:=1) (by omega)
  ·exact isAria GG_ok (sz:=2) (by omega)
 ·have:L ∈ [16]:=hL
  obtain rfl:L = 16:=by simpa using this
  exact isRc.ciph
end Go.Proofs.YthajgdmcjfmjoaaGreatDoor.Rel
