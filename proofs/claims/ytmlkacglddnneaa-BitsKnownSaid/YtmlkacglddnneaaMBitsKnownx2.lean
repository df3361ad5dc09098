/- A walk: each Go function that is named here answers what its plain function answers. Conditions: its arguments are read as lists and numbers. -/
import Derived.Test.YtmlkacglddnneaaMBitsKnownx0
import Derived.Test.YtmlkacglddnneaaMBitsKnownx1
namespace Go.Proofs.Ytmlkacglddnneaa.MBitsKnown
open Go.RowKit Go.Proofs.YtmlkacglddnneaaW.PrintWords Go.Proofs.YtmlkacglddnneaaW.PrintLast Go.Proofs.YtmlkacglddnneaaW.PrintMore
attribute [local go_sem] max2_int min2_int max_two min_two max_three min_three max_four min_four   -- for this text's walks alone
set_option linter.unusedVariables false
set_option linter.unusedSimpArgs false

/-! ### scrimlaw2_BitsKnown: function 10 -/
def scrimlaw2_BitsKnown.f (k : Nat) (a0 : Int) : Option (Bool) := (scrimlaw2_known.f k).bind fun t126 => (if t126 = true then ((bits_Permute.f k (([240, 15] : List Int)) (([13, 14, 15, 16, 1, 2, 3, 4] : List Int))).bind fun bt133 => ((bits_Permute.f k (([160] : List Int)) (([1, 2, 3] : List Int))).bind fun bt143 => ((bits_Permute.f k (([1] : List Int)) (([9] : List Int))).bind fun bt153 => ((bits_Permute.f k ([] : List Int) (([1] : List Int))).bind fun bt160 => ((bits_Permute.f k ([] : List Int) ([] : List Int)).bind fun bt164 => ((bits_Invert.f k (([2, 3, 1] : List Int))).bind fun bt171 => (if (bt133.1.length : Int) = 1 then (if 0 < (bt133.1.length : Int) then (if (bt143.1.length : Int) = 1 then (if 0 < (bt143.1.length : Int) then (if bt153.2 = true then (none) else (if bt164.2 = true then (if (bt171.1.length : Int) = 3 then (if 0 < (bt171.1.length : Int) then (if (rd bt171.1 0) = 3 then (if 1 < (bt171.1.length : Int) then (if (rd bt171.1 1) = 1 then (if 2 < (bt171.1.length : Int) then ((bits_Bit.f (([1] : List Int)) 8).bind fun t183 => (if t183 = 1 then ((bits_Bit.f (([1] : List Int)) 7).bind fun t187 => (if t187 = 0 then ((bits_Bit.f (([0, 128] : List Int)) 9).bind fun t191 => ((some (([((rd bt133.1 0) == 255), ((rd bt143.1 0) == 160), !bt160.2, ((bt164.1.length : Int) == 0), ((rd bt171.1 2) == 2), (t191 == 1)] : List Bool) : List Bool)).bind fun y192 => ((scrimlaw2_within.f a0 (y192.length : Int)).bind fun t195 => (if 0 ≤ t195 then (if t195 < (y192.length : Int) then (some (rdOf false y192 t195)) else (none)) else (none))))) else (none))) else (none))) else (none)) else (none)) else (none)) else (none)) else (none)) else (none)) else (none))) else (none)) else (none)) else (none)) else (none)))))))) else (none))
theorem scrimlaw2_BitsKnown.mono : ∀ a0 k, LeO (scrimlaw2_BitsKnown.f k a0) (scrimlaw2_BitsKnown.f (k + 1) a0) := by
  intro a0 k
  unfold scrimlaw2_BitsKnown.f
  repeat' first
      | (with_reducible exact bits_Invert.mono _ _)
      | (with_reducible exact bits_Permute.mono _ _ _)
      | (with_reducible exact scrimlaw2_known.mono _)
      | (with_reducible exact LeO.refl _)
      | (with_reducible exact LeO.none _)
      | (with_reducible refine LeO.ite ?_ ?_)
      | (with_reducible refine LeO.bind ?_ (fun _ => ?_))
      | exact bits_Invert.mono _ _
      | exact bits_Permute.mono _ _ _
      | exact scrimlaw2_known.mono _
      | exact LeO.none _
      | refine LeO.ite ?_ ?_
      | refine LeO.bind ?_ (fun _ => ?_)
def scrimlaw2_BitsKnown.T9 : Bool × List (List Nat × List Nat) := (true, [([], []), ([0], [0]), ([1], [1]), ([2], [2]), ([3], [3]), ([4, 3], [3, 4]), ([5, 3], [3, 5]), ([6, 3], [3, 6]), ([3, 7], [3, 7]), ([], []), ([9], [9]), ([10], [10]), ([11, 3], [11]), ([12], [12]), ([13, 12], [12, 13]), ([14, 12], [12, 14]), ([15, 12], [12, 15]), ([12, 16], [12, 16]), ([], []), ([18], [18]), ([19, 12], [19]), ([20], [20]), ([21, 20], [20, 21]), ([20, 22], [20, 22]), ([], []), ([24, 20], [24]), ([25], [25]), ([26, 25], [25, 26]), ([27, 25], [25, 27]), ([25, 28], [25, 28]), ([], []), ([30], [30]), ([31], [31]), ([32, 25], [32]), ([33], [33]), ([34, 33], [33, 34]), ([35, 33], [33, 35]), ([36, 33], [33, 36]), ([33, 37], [33, 37]), ([38, 33], [38]), ([39], [39]), ([40, 39], [39, 40]), ([41, 39], [39, 41]), ([42, 39], [39, 42]), ([39, 43], [39, 43]), ([44, 39], [44]), ([45], [45]), ([46, 45], [45, 46]), ([47, 45], [45, 47]), ([48, 45], [45, 48]), ([45, 49], [45, 49]), ([], []), ([51, 45], [51]), ([52], [52]), ([53, 52], [53]), ([54], [54]), ([55, 54, 54], [54, 55]), ([56, 54], [54, 56]), ([54, 57], [54, 57]), ([58, 56], [58]), ([59], [59]), ([60, 59, 59], [59, 60]), ([61, 59], [59, 61]), ([59, 62], [59, 62]), ([8, 17, 23, 29, 50, 63], [8, 17, 23, 29, 50, 63]), ([64, 61, 0, 1, 2, 3, 4, 5, 6, 7, 8, 9, 10, 11, 12, 13, 14, 15, 16, 17, 18, 19, 20, 21, 22, 23, 24, 25, 26, 27, 28, 29, 30, 31, 32, 33, 34, 35, 36, 37, 38, 39, 40, 41, 42, 43, 44, 45, 46, 47, 48, 49, 50, 51, 52, 53, 54, 55, 56, 57, 58, 59, 60, 61, 62, 63, 64], [64])])
def scrimlaw2_BitsKnown.B9 : List Nat := [0, 1, 3, 7, 15, 31, 63, 127, 255, 0, 512, 1536, 3599, 7695, 15887, 32271, 65039, 130575, 0, 262144, 794127, 1842703, 3939855, 8134159, 0, 18619919, 52174351, 119283215, 253500943, 521936399, 0, 1073741824, 3221225472, 7568367119, 16158301711, 33338170895, 67697909263, 136417385999, 273856339471, 548734246415, 1098490060303, 2198001688079, 4397024943631, 8795071454735, 17591164476943, 35183350521359, 70367722610191, 140736466787855, 281473955143183, 562948931853839, 1125898885275151, 0, 2322167536295439, 6825767163665935, 15832966418406927, 33847364927888911, 69876161946852879, 141933755984780815, 286048944060636687, 574279320212348431, 1150740072515771919, 2303661577122618895, 4609504586336312847, 9221190604763700751, 18446744073709551615, 36893488147419103231]
theorem scrimlaw2_BitsKnown.tab9 : rtab .any (opsOf Try.f10 9) = scrimlaw2_BitsKnown.T9 := by kernel_rfl
theorem scrimlaw2_BitsKnown.bits9 : waitsOk scrimlaw2_BitsKnown.T9.2 scrimlaw2_BitsKnown.B9 = true := by kernel_rfl
set_option maxHeartbeats 8000000 in
set_option maxRecDepth 100000 in
theorem scrimlaw2_BitsKnown.calls (k : Nat) (a0 : Int) (r : Bool) (w : World) (h : scrimlaw2_BitsKnown.f k a0 = some r) :
    Calls Try.prog 10 #[.int .i64 a0] w fun e w' => e = .returned (.bool r) ∧ Below w.heap.size w w' := by
  have HB := Aside0.mk (Below.refl w.heap.size w)
  have H : ((scrimlaw2_known.f k).bind fun t126 => (if t126 = true then ((bits_Permute.f k (([240, 15] : List Int)) (([13, 14, 15, 16, 1, 2, 3, 4] : List Int))).bind fun bt133 => ((bits_Permute.f k (([160] : List Int)) (([1, 2, 3] : List Int))).bind fun bt143 => ((bits_Permute.f k (([1] : List Int)) (([9] : List Int))).bind fun bt153 => ((bits_Permute.f k ([] : List Int) (([1] : List Int))).bind fun bt160 => ((bits_Permute.f k ([] : List Int) ([] : List Int)).bind fun bt164 => ((bits_Invert.f k (([2, 3, 1] : List Int))).bind fun bt171 => (if (bt133.1.length : Int) = 1 then (if 0 < (bt133.1.length : Int) then (if (bt143.1.length : Int) = 1 then (if 0 < (bt143.1.length : Int) then (if bt153.2 = true then (none) else (if bt164.2 = true then (if (bt171.1.length : Int) = 3 then (if 0 < (bt171.1.length : Int) then (if (rd bt171.1 0) = 3 then (if 1 < (bt171.1.length : Int) then (if (rd bt171.1 1) = 1 then (if 2 < (bt171.1.length : Int) then ((bits_Bit.f (([1] : List Int)) 8).bind fun t183 => (if t183 = 1 then ((bits_Bit.f (([1] : List Int)) 7).bind fun t187 => (if t187 = 0 then ((bits_Bit.f (([0, 128] : List Int)) 9).bind fun t191 => ((some (([((rd bt133.1 0) == 255), ((rd bt143.1 0) == 160), !bt160.2, ((bt164.1.length : Int) == 0), ((rd bt171.1 2) == 2), (t191 == 1)] : List Bool) : List Bool)).bind fun y192 => ((scrimlaw2_within.f a0 (y192.length : Int)).bind fun t195 => (if 0 ≤ t195 then (if t195 < (y192.length : Int) then (some (rdOf false y192 t195)) else (none)) else (none))))) else (none))) else (none))) else (none)) else (none)) else (none)) else (none)) else (none)) else (none)) else (none))) else (none)) else (none)) else (none)) else (none)))))))) else (none))) = some r := h
  clear h
  replace H := Option.bind_eq_some_iff.mp H
  obtain ⟨t126, A20, H⟩ := H
  replace H : (if t126 = true then ((bits_Permute.f k (([240, 15] : List Int)) (([13, 14, 15, 16, 1, 2, 3, 4] : List Int))).bind fun bt133 => ((bits_Permute.f k (([160] : List Int)) (([1, 2, 3] : List Int))).bind fun bt143 => ((bits_Permute.f k (([1] : List Int)) (([9] : List Int))).bind fun bt153 => ((bits_Permute.f k ([] : List Int) (([1] : List Int))).bind fun bt160 => ((bits_Permute.f k ([] : List Int) ([] : List Int)).bind fun bt164 => ((bits_Invert.f k (([2, 3, 1] : List Int))).bind fun bt171 => (if (bt133.1.length : Int) = 1 then (if 0 < (bt133.1.length : Int) then (if (bt143.1.length : Int) = 1 then (if 0 < (bt143.1.length : Int) then (if bt153.2 = true then (none) else (if bt164.2 = true then (if (bt171.1.length : Int) = 3 then (if 0 < (bt171.1.length : Int) then (if (rd bt171.1 0) = 3 then (if 1 < (bt171.1.length : Int) then (if (rd bt171.1 1) = 1 then (if 2 < (bt171.1.length : Int) then ((bits_Bit.f (([1] : List Int)) 8).bind fun t183 => (if t183 = 1 then ((bits_Bit.f (([1] : List Int)) 7).bind fun t187 => (if t187 = 0 then ((bits_Bit.f (([0, 128] : List Int)) 9).bind fun t191 => ((some (([((rd bt133.1 0) == 255), ((rd bt143.1 0) == 160), !bt160.2, ((bt164.1.length : Int) == 0), ((rd bt171.1 2) == 2), (t191 == 1)] : List Bool) : List Bool)).bind fun y192 => ((scrimlaw2_within.f a0 (y192.length : Int)).bind fun t195 => (if 0 ≤ t195 then (if t195 < (y192.length : Int) then (some (rdOf false y192 t195)) else (none)) else (none))))) else (none))) else (none))) else (none)) else (none)) else (none)) else (none)) else (none)) else (none)) else (none))) else (none)) else (none)) else (none)) else (none)))))))) else (none)) = some r := H
  have A2 := Aside0.mk A20
  clear A20
  by_cases c3 : t126 = true
  · subst c3
    have H1 : ((bits_Permute.f k (([240, 15] : List Int)) (([13, 14, 15, 16, 1, 2, 3, 4] : List Int))).bind fun bt133 => ((bits_Permute.f k (([160] : List Int)) (([1, 2, 3] : List Int))).bind fun bt143 => ((bits_Permute.f k (([1] : List Int)) (([9] : List Int))).bind fun bt153 => ((bits_Permute.f k ([] : List Int) (([1] : List Int))).bind fun bt160 => ((bits_Permute.f k ([] : List Int) ([] : List Int)).bind fun bt164 => ((bits_Invert.f k (([2, 3, 1] : List Int))).bind fun bt171 => (if (bt133.1.length : Int) = 1 then (if 0 < (bt133.1.length : Int) then (if (bt143.1.length : Int) = 1 then (if 0 < (bt143.1.length : Int) then (if bt153.2 = true then (none) else (if bt164.2 = true then (if (bt171.1.length : Int) = 3 then (if 0 < (bt171.1.length : Int) then (if (rd bt171.1 0) = 3 then (if 1 < (bt171.1.length : Int) then (if (rd bt171.1 1) = 1 then (if 2 < (bt171.1.length : Int) then ((bits_Bit.f (([1] : List Int)) 8).bind fun t183 => (if t183 = 1 then ((bits_Bit.f (([1] : List Int)) 7).bind fun t187 => (if t187 = 0 then ((bits_Bit.f (([0, 128] : List Int)) 9).bind fun t191 => ((some (([((rd bt133.1 0) == 255), ((rd bt143.1 0) == 160), !bt160.2, ((bt164.1.length : Int) == 0), ((rd bt171.1 2) == 2), (t191 == 1)] : List Bool) : List Bool)).bind fun y192 => ((scrimlaw2_within.f a0 (y192.length : Int)).bind fun t195 => (if 0 ≤ t195 then (if t195 < (y192.length : Int) then (some (rdOf false y192 t195)) else (none)) else (none))))) else (none))) else (none))) else (none)) else (none)) else (none)) else (none)) else (none)) else (none)) else (none))) else (none)) else (none)) else (none)) else (none)))))))) = some r := by rw [if_pos rfl] at H; exact H
    clear H
    have H := H1
    clear H1
    obtain ⟨y127, hy127⟩ : ∃ y_ : List Int, y_ = (([240, 15] : List Int)) := ⟨_, rfl⟩
    replace H : ((bits_Permute.f k y127 (([13, 14, 15, 16, 1, 2, 3, 4] : List Int))).bind fun bt133 => ((bits_Permute.f k (([160] : List Int)) (([1, 2, 3] : List Int))).bind fun bt143 => ((bits_Permute.f k (([1] : List Int)) (([9] : List Int))).bind fun bt153 => ((bits_Permute.f k ([] : List Int) (([1] : List Int))).bind fun bt160 => ((bits_Permute.f k ([] : List Int) ([] : List Int)).bind fun bt164 => ((bits_Invert.f k (([2, 3, 1] : List Int))).bind fun bt171 => (if (bt133.1.length : Int) = 1 then (if 0 < (bt133.1.length : Int) then (if (bt143.1.length : Int) = 1 then (if 0 < (bt143.1.length : Int) then (if bt153.2 = true then (none) else (if bt164.2 = true then (if (bt171.1.length : Int) = 3 then (if 0 < (bt171.1.length : Int) then (if (rd bt171.1 0) = 3 then (if 1 < (bt171.1.length : Int) then (if (rd bt171.1 1) = 1 then (if 2 < (bt171.1.length : Int) then ((bits_Bit.f (([1] : List Int)) 8).bind fun t183 => (if t183 = 1 then ((bits_Bit.f (([1] : List Int)) 7).bind fun t187 => (if t187 = 0 then ((bits_Bit.f (([0, 128] : List Int)) 9).bind fun t191 => ((some (([((rd bt133.1 0) == 255), ((rd bt143.1 0) == 160), !bt160.2, ((bt164.1.length : Int) == 0), ((rd bt171.1 2) == 2), (t191 == 1)] : List Bool) : List Bool)).bind fun y192 => ((scrimlaw2_within.f a0 (y192.length : Int)).bind fun t195 => (if 0 ≤ t195 then (if t195 < (y192.length : Int) then (some (rdOf false y192 t195)) else (none)) else (none))))) else (none))) else (none))) else (none)) else (none)) else (none)) else (none)) else (none)) else (none)) else (none))) else (none)) else (none)) else (none)) else (none)))))))) = some r := by first | (rw [hy127]; with_reducible exact H) | (have H2_ := (Option.bind_some _ _).symm.trans H; rw [hy127]; with_reducible exact H2_) | (have H2_ := (Option.bind_some _ _).symm.trans H; with_reducible exact H2_) | with_reducible exact H | (rw [hy127]; exact H) | exact H
    have Ny127 := Aside0.mk hy127
    clear hy127
    obtain ⟨y130, hy130⟩ : ∃ y_ : List Int, y_ = (([13, 14, 15, 16, 1, 2, 3, 4] : List Int)) := ⟨_, rfl⟩
    replace H : ((bits_Permute.f k y127 y130).bind fun bt133 => ((bits_Permute.f k (([160] : List Int)) (([1, 2, 3] : List Int))).bind fun bt143 => ((bits_Permute.f k (([1] : List Int)) (([9] : List Int))).bind fun bt153 => ((bits_Permute.f k ([] : List Int) (([1] : List Int))).bind fun bt160 => ((bits_Permute.f k ([] : List Int) ([] : List Int)).bind fun bt164 => ((bits_Invert.f k (([2, 3, 1] : List Int))).bind fun bt171 => (if (bt133.1.length : Int) = 1 then (if 0 < (bt133.1.length : Int) then (if (bt143.1.length : Int) = 1 then (if 0 < (bt143.1.length : Int) then (if bt153.2 = true then (none) else (if bt164.2 = true then (if (bt171.1.length : Int) = 3 then (if 0 < (bt171.1.length : Int) then (if (rd bt171.1 0) = 3 then (if 1 < (bt171.1.length : Int) then (if (rd bt171.1 1) = 1 then (if 2 < (bt171.1.length : Int) then ((bits_Bit.f (([1] : List Int)) 8).bind fun t183 => (if t183 = 1 then ((bits_Bit.f (([1] : List Int)) 7).bind fun t187 => (if t187 = 0 then ((bits_Bit.f (([0, 128] : List Int)) 9).bind fun t191 => ((some (([((rd bt133.1 0) == 255), ((rd bt143.1 0) == 160), !bt160.2, ((bt164.1.length : Int) == 0), ((rd bt171.1 2) == 2), (t191 == 1)] : List Bool) : List Bool)).bind fun y192 => ((scrimlaw2_within.f a0 (y192.length : Int)).bind fun t195 => (if 0 ≤ t195 then (if t195 < (y192.length : Int) then (some (rdOf false y192 t195)) else (none)) else (none))))) else (none))) else (none))) else (none)) else (none)) else (none)) else (none)) else (none)) else (none)) else (none))) else (none)) else (none)) else (none)) else (none)))))))) = some r := by first | (rw [hy130]; with_reducible exact H) | (have H2_ := (Option.bind_some _ _).symm.trans H; rw [hy130]; with_reducible exact H2_) | (have H2_ := (Option.bind_some _ _).symm.trans H; with_reducible exact H2_) | with_reducible exact H | (rw [hy130]; exact H) | exact H
    have Ny130 := Aside0.mk hy130
    clear hy130
    replace H := Option.bind_eq_some_iff.mp H
    obtain ⟨⟨t133, t134⟩, A40, H⟩ := H
    replace H : ((bits_Permute.f k (([160] : List Int)) (([1, 2, 3] : List Int))).bind fun bt143 => ((bits_Permute.f k (([1] : List Int)) (([9] : List Int))).bind fun bt153 => ((bits_Permute.f k ([] : List Int) (([1] : List Int))).bind fun bt160 => ((bits_Permute.f k ([] : List Int) ([] : List Int)).bind fun bt164 => ((bits_Invert.f k (([2, 3, 1] : List Int))).bind fun bt171 => (if (t133.length : Int) = 1 then (if 0 < (t133.length : Int) then (if (bt143.1.length : Int) = 1 then (if 0 < (bt143.1.length : Int) then (if bt153.2 = true then (none) else (if bt164.2 = true then (if (bt171.1.length : Int) = 3 then (if 0 < (bt171.1.length : Int) then (if (rd bt171.1 0) = 3 then (if 1 < (bt171.1.length : Int) then (if (rd bt171.1 1) = 1 then (if 2 < (bt171.1.length : Int) then ((bits_Bit.f (([1] : List Int)) 8).bind fun t183 => (if t183 = 1 then ((bits_Bit.f (([1] : List Int)) 7).bind fun t187 => (if t187 = 0 then ((bits_Bit.f (([0, 128] : List Int)) 9).bind fun t191 => ((some (([((rd t133 0) == 255), ((rd bt143.1 0) == 160), !bt160.2, ((bt164.1.length : Int) == 0), ((rd bt171.1 2) == 2), (t191 == 1)] : List Bool) : List Bool)).bind fun y192 => ((scrimlaw2_within.f a0 (y192.length : Int)).bind fun t195 => (if 0 ≤ t195 then (if t195 < (y192.length : Int) then (some (rdOf false y192 t195)) else (none)) else (none))))) else (none))) else (none))) else (none)) else (none)) else (none)) else (none)) else (none)) else (none)) else (none))) else (none)) else (none)) else (none)) else (none))))))) = some r := H
    have A4 := Aside0.mk A40
    clear A40
    obtain ⟨y137, hy137⟩ : ∃ y_ : List Int, y_ = (([160] : List Int)) := ⟨_, rfl⟩
    replace H : ((bits_Permute.f k y137 (([1, 2, 3] : List Int))).bind fun bt143 => ((bits_Permute.f k (([1] : List Int)) (([9] : List Int))).bind fun bt153 => ((bits_Permute.f k ([] : List Int) (([1] : List Int))).bind fun bt160 => ((bits_Permute.f k ([] : List Int) ([] : List Int)).bind fun bt164 => ((bits_Invert.f k (([2, 3, 1] : List Int))).bind fun bt171 => (if (t133.length : Int) = 1 then (if 0 < (t133.length : Int) then (if (bt143.1.length : Int) = 1 then (if 0 < (bt143.1.length : Int) then (if bt153.2 = true then (none) else (if bt164.2 = true then (if (bt171.1.length : Int) = 3 then (if 0 < (bt171.1.length : Int) then (if (rd bt171.1 0) = 3 then (if 1 < (bt171.1.length : Int) then (if (rd bt171.1 1) = 1 then (if 2 < (bt171.1.length : Int) then ((bits_Bit.f (([1] : List Int)) 8).bind fun t183 => (if t183 = 1 then ((bits_Bit.f (([1] : List Int)) 7).bind fun t187 => (if t187 = 0 then ((bits_Bit.f (([0, 128] : List Int)) 9).bind fun t191 => ((some (([((rd t133 0) == 255), ((rd bt143.1 0) == 160), !bt160.2, ((bt164.1.length : Int) == 0), ((rd bt171.1 2) == 2), (t191 == 1)] : List Bool) : List Bool)).bind fun y192 => ((scrimlaw2_within.f a0 (y192.length : Int)).bind fun t195 => (if 0 ≤ t195 then (if t195 < (y192.length : Int) then (some (rdOf false y192 t195)) else (none)) else (none))))) else (none))) else (none))) else (none)) else (none)) else (none)) else (none)) else (none)) else (none)) else (none))) else (none)) else (none)) else (none)) else (none))))))) = some r := by first | (rw [hy137]; with_reducible exact H) | (have H2_ := (Option.bind_some _ _).symm.trans H; rw [hy137]; with_reducible exact H2_) | (have H2_ := (Option.bind_some _ _).symm.trans H; with_reducible exact H2_) | with_reducible exact H | (rw [hy137]; exact H) | exact H
    have Ny137 := Aside0.mk hy137
    clear hy137
    obtain ⟨y140, hy140⟩ : ∃ y_ : List Int, y_ = (([1, 2, 3] : List Int)) := ⟨_, rfl⟩
    replace H : ((bits_Permute.f k y137 y140).bind fun bt143 => ((bits_Permute.f k (([1] : List Int)) (([9] : List Int))).bind fun bt153 => ((bits_Permute.f k ([] : List Int) (([1] : List Int))).bind fun bt160 => ((bits_Permute.f k ([] : List Int) ([] : List Int)).bind fun bt164 => ((bits_Invert.f k (([2, 3, 1] : List Int))).bind fun bt171 => (if (t133.length : Int) = 1 then (if 0 < (t133.length : Int) then (if (bt143.1.length : Int) = 1 then (if 0 < (bt143.1.length : Int) then (if bt153.2 = true then (none) else (if bt164.2 = true then (if (bt171.1.length : Int) = 3 then (if 0 < (bt171.1.length : Int) then (if (rd bt171.1 0) = 3 then (if 1 < (bt171.1.length : Int) then (if (rd bt171.1 1) = 1 then (if 2 < (bt171.1.length : Int) then ((bits_Bit.f (([1] : List Int)) 8).bind fun t183 => (if t183 = 1 then ((bits_Bit.f (([1] : List Int)) 7).bind fun t187 => (if t187 = 0 then ((bits_Bit.f (([0, 128] : List Int)) 9).bind fun t191 => ((some (([((rd t133 0) == 255), ((rd bt143.1 0) == 160), !bt160.2, ((bt164.1.length : Int) == 0), ((rd bt171.1 2) == 2), (t191 == 1)] : List Bool) : List Bool)).bind fun y192 => ((scrimlaw2_within.f a0 (y192.length : Int)).bind fun t195 => (if 0 ≤ t195 then (if t195 < (y192.length : Int) then (some (rdOf false y192 t195)) else (none)) else (none))))) else (none))) else (none))) else (none)) else (none)) else (none)) else (none)) else (none)) else (none)) else (none))) else (none)) else (none)) else (none)) else (none))))))) = some r := by first | (rw [hy140]; with_reducible exact H) | (have H2_ := (Option.bind_some _ _).symm.trans H; rw [hy140]; with_reducible exact H2_) | (have H2_ := (Option.bind_some _ _).symm.trans H; with_reducible exact H2_) | with_reducible exact H | (rw [hy140]; exact H) | exact H
    have Ny140 := Aside0.mk hy140
    clear hy140
    replace H := Option.bind_eq_some_iff.mp H
    obtain ⟨⟨t143, t144⟩, A50, H⟩ := H
    replace H : ((bits_Permute.f k (([1] : List Int)) (([9] : List Int))).bind fun bt153 => ((bits_Permute.f k ([] : List Int) (([1] : List Int))).bind fun bt160 => ((bits_Permute.f k ([] : List Int) ([] : List Int)).bind fun bt164 => ((bits_Invert.f k (([2, 3, 1] : List Int))).bind fun bt171 => (if (t133.length : Int) = 1 then (if 0 < (t133.length : Int) then (if (t143.length : Int) = 1 then (if 0 < (t143.length : Int) then (if bt153.2 = true then (none) else (if bt164.2 = true then (if (bt171.1.length : Int) = 3 then (if 0 < (bt171.1.length : Int) then (if (rd bt171.1 0) = 3 then (if 1 < (bt171.1.length : Int) then (if (rd bt171.1 1) = 1 then (if 2 < (bt171.1.length : Int) then ((bits_Bit.f (([1] : List Int)) 8).bind fun t183 => (if t183 = 1 then ((bits_Bit.f (([1] : List Int)) 7).bind fun t187 => (if t187 = 0 then ((bits_Bit.f (([0, 128] : List Int)) 9).bind fun t191 => ((some (([((rd t133 0) == 255), ((rd t143 0) == 160), !bt160.2, ((bt164.1.length : Int) == 0), ((rd bt171.1 2) == 2), (t191 == 1)] : List Bool) : List Bool)).bind fun y192 => ((scrimlaw2_within.f a0 (y192.length : Int)).bind fun t195 => (if 0 ≤ t195 then (if t195 < (y192.length : Int) then (some (rdOf false y192 t195)) else (none)) else (none))))) else (none))) else (none))) else (none)) else (none)) else (none)) else (none)) else (none)) else (none)) else (none))) else (none)) else (none)) else (none)) else (none)))))) = some r := H
    have A5 := Aside0.mk A50
    clear A50
    obtain ⟨y147, hy147⟩ : ∃ y_ : List Int, y_ = (([1] : List Int)) := ⟨_, rfl⟩
    replace H : ((bits_Permute.f k y147 (([9] : List Int))).bind fun bt153 => ((bits_Permute.f k ([] : List Int) (([1] : List Int))).bind fun bt160 => ((bits_Permute.f k ([] : List Int) ([] : List Int)).bind fun bt164 => ((bits_Invert.f k (([2, 3, 1] : List Int))).bind fun bt171 => (if (t133.length : Int) = 1 then (if 0 < (t133.length : Int) then (if (t143.length : Int) = 1 then (if 0 < (t143.length : Int) then (if bt153.2 = true then (none) else (if bt164.2 = true then (if (bt171.1.length : Int) = 3 then (if 0 < (bt171.1.length : Int) then (if (rd bt171.1 0) = 3 then (if 1 < (bt171.1.length : Int) then (if (rd bt171.1 1) = 1 then (if 2 < (bt171.1.length : Int) then ((bits_Bit.f (([1] : List Int)) 8).bind fun t183 => (if t183 = 1 then ((bits_Bit.f (([1] : List Int)) 7).bind fun t187 => (if t187 = 0 then ((bits_Bit.f (([0, 128] : List Int)) 9).bind fun t191 => ((some (([((rd t133 0) == 255), ((rd t143 0) == 160), !bt160.2, ((bt164.1.length : Int) == 0), ((rd bt171.1 2) == 2), (t191 == 1)] : List Bool) : List Bool)).bind fun y192 => ((scrimlaw2_within.f a0 (y192.length : Int)).bind fun t195 => (if 0 ≤ t195 then (if t195 < (y192.length : Int) then (some (rdOf false y192 t195)) else (none)) else (none))))) else (none))) else (none))) else (none)) else (none)) else (none)) else (none)) else (none)) else (none)) else (none))) else (none)) else (none)) else (none)) else (none)))))) = some r := by first | (rw [hy147]; with_reducible exact H) | (have H2_ := (Option.bind_some _ _).symm.trans H; rw [hy147]; with_reducible exact H2_) | (have H2_ := (Option.bind_some _ _).symm.trans H; with_reducible exact H2_) | with_reducible exact H | (rw [hy147]; exact H) | exact H
    have Ny147 := Aside0.mk hy147
    clear hy147
    obtain ⟨y150, hy150⟩ : ∃ y_ : List Int, y_ = (([9] : List Int)) := ⟨_, rfl⟩
    replace H : ((bits_Permute.f k y147 y150).bind fun bt153 => ((bits_Permute.f k ([] : List Int) (([1] : List Int))).bind fun bt160 => ((bits_Permute.f k ([] : List Int) ([] : List Int)).bind fun bt164 => ((bits_Invert.f k (([2, 3, 1] : List Int))).bind fun bt171 => (if (t133.length : Int) = 1 then (if 0 < (t133.length : Int) then (if (t143.length : Int) = 1 then (if 0 < (t143.length : Int) then (if bt153.2 = true then (none) else (if bt164.2 = true then (if (bt171.1.length : Int) = 3 then (if 0 < (bt171.1.length : Int) then (if (rd bt171.1 0) = 3 then (if 1 < (bt171.1.length : Int) then (if (rd bt171.1 1) = 1 then (if 2 < (bt171.1.length : Int) then ((bits_Bit.f (([1] : List Int)) 8).bind fun t183 => (if t183 = 1 then ((bits_Bit.f (([1] : List Int)) 7).bind fun t187 => (if t187 = 0 then ((bits_Bit.f (([0, 128] : List Int)) 9).bind fun t191 => ((some (([((rd t133 0) == 255), ((rd t143 0) == 160), !bt160.2, ((bt164.1.length : Int) == 0), ((rd bt171.1 2) == 2), (t191 == 1)] : List Bool) : List Bool)).bind fun y192 => ((scrimlaw2_within.f a0 (y192.length : Int)).bind fun t195 => (if 0 ≤ t195 then (if t195 < (y192.length : Int) then (some (rdOf false y192 t195)) else (none)) else (none))))) else (none))) else (none))) else (none)) else (none)) else (none)) else (none)) else (none)) else (none)) else (none))) else (none)) else (none)) else (none)) else (none)))))) = some r := by first | (rw [hy150]; with_reducible exact H) | (have H2_ := (Option.bind_some _ _).symm.trans H; rw [hy150]; with_reducible exact H2_) | (have H2_ := (Option.bind_some _ _).symm.trans H; with_reducible exact H2_) | with_reducible exact H | (rw [hy150]; exact H) | exact H
    have Ny150 := Aside0.mk hy150
    clear hy150
    replace H := Option.bind_eq_some_iff.mp H
    obtain ⟨⟨t153, t154⟩, A60, H⟩ := H
    replace H : ((bits_Permute.f k ([] : List Int) (([1] : List Int))).bind fun bt160 => ((bits_Permute.f k ([] : List Int) ([] : List Int)).bind fun bt164 => ((bits_Invert.f k (([2, 3, 1] : List Int))).bind fun bt171 => (if (t133.length : Int) = 1 then (if 0 < (t133.length : Int) then (if (t143.length : Int) = 1 then (if 0 < (t143.length : Int) then (if t154 = true then (none) else (if bt164.2 = true then (if (bt171.1.length : Int) = 3 then (if 0 < (bt171.1.length : Int) then (if (rd bt171.1 0) = 3 then (if 1 < (bt171.1.length : Int) then (if (rd bt171.1 1) = 1 then (if 2 < (bt171.1.length : Int) then ((bits_Bit.f (([1] : List Int)) 8).bind fun t183 => (if t183 = 1 then ((bits_Bit.f (([1] : List Int)) 7).bind fun t187 => (if t187 = 0 then ((bits_Bit.f (([0, 128] : List Int)) 9).bind fun t191 => ((some (([((rd t133 0) == 255), ((rd t143 0) == 160), !bt160.2, ((bt164.1.length : Int) == 0), ((rd bt171.1 2) == 2), (t191 == 1)] : List Bool) : List Bool)).bind fun y192 => ((scrimlaw2_within.f a0 (y192.length : Int)).bind fun t195 => (if 0 ≤ t195 then (if t195 < (y192.length : Int) then (some (rdOf false y192 t195)) else (none)) else (none))))) else (none))) else (none))) else (none)) else (none)) else (none)) else (none)) else (none)) else (none)) else (none))) else (none)) else (none)) else (none)) else (none))))) = some r := H
    have A6 := Aside0.mk A60
    clear A60
    obtain ⟨y157, hy157⟩ : ∃ y_ : List Int, y_ = (([1] : List Int)) := ⟨_, rfl⟩
    replace H : ((bits_Permute.f k ([] : List Int) y157).bind fun bt160 => ((bits_Permute.f k ([] : List Int) ([] : List Int)).bind fun bt164 => ((bits_Invert.f k (([2, 3, 1] : List Int))).bind fun bt171 => (if (t133.length : Int) = 1 then (if 0 < (t133.length : Int) then (if (t143.length : Int) = 1 then (if 0 < (t143.length : Int) then (if t154 = true then (none) else (if bt164.2 = true then (if (bt171.1.length : Int) = 3 then (if 0 < (bt171.1.length : Int) then (if (rd bt171.1 0) = 3 then (if 1 < (bt171.1.length : Int) then (if (rd bt171.1 1) = 1 then (if 2 < (bt171.1.length : Int) then ((bits_Bit.f (([1] : List Int)) 8).bind fun t183 => (if t183 = 1 then ((bits_Bit.f (([1] : List Int)) 7).bind fun t187 => (if t187 = 0 then ((bits_Bit.f (([0, 128] : List Int)) 9).bind fun t191 => ((some (([((rd t133 0) == 255), ((rd t143 0) == 160), !bt160.2, ((bt164.1.length : Int) == 0), ((rd bt171.1 2) == 2), (t191 == 1)] : List Bool) : List Bool)).bind fun y192 => ((scrimlaw2_within.f a0 (y192.length : Int)).bind fun t195 => (if 0 ≤ t195 then (if t195 < (y192.length : Int) then (some (rdOf false y192 t195)) else (none)) else (none))))) else (none))) else (none))) else (none)) else (none)) else (none)) else (none)) else (none)) else (none)) else (none))) else (none)) else (none)) else (none)) else (none))))) = some r := by first | (rw [hy157]; with_reducible exact H) | (have H2_ := (Option.bind_some _ _).symm.trans H; rw [hy157]; with_reducible exact H2_) | (have H2_ := (Option.bind_some _ _).symm.trans H; with_reducible exact H2_) | with_reducible exact H | (rw [hy157]; exact H) | exact H
    have Ny157 := Aside0.mk hy157
    clear hy157
    replace H := Option.bind_eq_some_iff.mp H
    obtain ⟨⟨t160, t161⟩, A70, H⟩ := H
    replace H : ((bits_Permute.f k ([] : List Int) ([] : List Int)).bind fun bt164 => ((bits_Invert.f k (([2, 3, 1] : List Int))).bind fun bt171 => (if (t133.length : Int) = 1 then (if 0 < (t133.length : Int) then (if (t143.length : Int) = 1 then (if 0 < (t143.length : Int) then (if t154 = true then (none) else (if bt164.2 = true then (if (bt171.1.length : Int) = 3 then (if 0 < (bt171.1.length : Int) then (if (rd bt171.1 0) = 3 then (if 1 < (bt171.1.length : Int) then (if (rd bt171.1 1) = 1 then (if 2 < (bt171.1.length : Int) then ((bits_Bit.f (([1] : List Int)) 8).bind fun t183 => (if t183 = 1 then ((bits_Bit.f (([1] : List Int)) 7).bind fun t187 => (if t187 = 0 then ((bits_Bit.f (([0, 128] : List Int)) 9).bind fun t191 => ((some (([((rd t133 0) == 255), ((rd t143 0) == 160), !t161, ((bt164.1.length : Int) == 0), ((rd bt171.1 2) == 2), (t191 == 1)] : List Bool) : List Bool)).bind fun y192 => ((scrimlaw2_within.f a0 (y192.length : Int)).bind fun t195 => (if 0 ≤ t195 then (if t195 < (y192.length : Int) then (some (rdOf false y192 t195)) else (none)) else (none))))) else (none))) else (none))) else (none)) else (none)) else (none)) else (none)) else (none)) else (none)) else (none))) else (none)) else (none)) else (none)) else (none)))) = some r := H
    have A7 := Aside0.mk A70
    clear A70
    replace H := Option.bind_eq_some_iff.mp H
    obtain ⟨⟨t164, t165⟩, A80, H⟩ := H
    replace H : ((bits_Invert.f k (([2, 3, 1] : List Int))).bind fun bt171 => (if (t133.length : Int) = 1 then (if 0 < (t133.length : Int) then (if (t143.length : Int) = 1 then (if 0 < (t143.length : Int) then (if t154 = true then (none) else (if t165 = true then (if (bt171.1.length : Int) = 3 then (if 0 < (bt171.1.length : Int) then (if (rd bt171.1 0) = 3 then (if 1 < (bt171.1.length : Int) then (if (rd bt171.1 1) = 1 then (if 2 < (bt171.1.length : Int) then ((bits_Bit.f (([1] : List Int)) 8).bind fun t183 => (if t183 = 1 then ((bits_Bit.f (([1] : List Int)) 7).bind fun t187 => (if t187 = 0 then ((bits_Bit.f (([0, 128] : List Int)) 9).bind fun t191 => ((some (([((rd t133 0) == 255), ((rd t143 0) == 160), !t161, ((t164.length : Int) == 0), ((rd bt171.1 2) == 2), (t191 == 1)] : List Bool) : List Bool)).bind fun y192 => ((scrimlaw2_within.f a0 (y192.length : Int)).bind fun t195 => (if 0 ≤ t195 then (if t195 < (y192.length : Int) then (some (rdOf false y192 t195)) else (none)) else (none))))) else (none))) else (none))) else (none)) else (none)) else (none)) else (none)) else (none)) else (none)) else (none))) else (none)) else (none)) else (none)) else (none))) = some r := H
    have A8 := Aside0.mk A80
    clear A80
    obtain ⟨y168, hy168⟩ : ∃ y_ : List Int, y_ = (([2, 3, 1] : List Int)) := ⟨_, rfl⟩
    replace H : ((bits_Invert.f k y168).bind fun bt171 => (if (t133.length : Int) = 1 then (if 0 < (t133.length : Int) then (if (t143.length : Int) = 1 then (if 0 < (t143.length : Int) then (if t154 = true then (none) else (if t165 = true then (if (bt171.1.length : Int) = 3 then (if 0 < (bt171.1.length : Int) then (if (rd bt171.1 0) = 3 then (if 1 < (bt171.1.length : Int) then (if (rd bt171.1 1) = 1 then (if 2 < (bt171.1.length : Int) then ((bits_Bit.f (([1] : List Int)) 8).bind fun t183 => (if t183 = 1 then ((bits_Bit.f (([1] : List Int)) 7).bind fun t187 => (if t187 = 0 then ((bits_Bit.f (([0, 128] : List Int)) 9).bind fun t191 => ((some (([((rd t133 0) == 255), ((rd t143 0) == 160), !t161, ((t164.length : Int) == 0), ((rd bt171.1 2) == 2), (t191 == 1)] : List Bool) : List Bool)).bind fun y192 => ((scrimlaw2_within.f a0 (y192.length : Int)).bind fun t195 => (if 0 ≤ t195 then (if t195 < (y192.length : Int) then (some (rdOf false y192 t195)) else (none)) else (none))))) else (none))) else (none))) else (none)) else (none)) else (none)) else (none)) else (none)) else (none)) else (none))) else (none)) else (none)) else (none)) else (none))) = some r := by first | (rw [hy168]; with_reducible exact H) | (have H2_ := (Option.bind_some _ _).symm.trans H; rw [hy168]; with_reducible exact H2_) | (have H2_ := (Option.bind_some _ _).symm.trans H; with_reducible exact H2_) | with_reducible exact H | (rw [hy168]; exact H) | exact H
    have Ny168 := Aside0.mk hy168
    clear hy168
    replace H := Option.bind_eq_some_iff.mp H
    obtain ⟨⟨t171, t172⟩, A90, H⟩ := H
    replace H : (if (t133.length : Int) = 1 then (if 0 < (t133.length : Int) then (if (t143.length : Int) = 1 then (if 0 < (t143.length : Int) then (if t154 = true then (none) else (if t165 = true then (if (t171.length : Int) = 3 then (if 0 < (t171.length : Int) then (if (rd t171 0) = 3 then (if 1 < (t171.length : Int) then (if (rd t171 1) = 1 then (if 2 < (t171.length : Int) then ((bits_Bit.f (([1] : List Int)) 8).bind fun t183 => (if t183 = 1 then ((bits_Bit.f (([1] : List Int)) 7).bind fun t187 => (if t187 = 0 then ((bits_Bit.f (([0, 128] : List Int)) 9).bind fun t191 => ((some (([((rd t133 0) == 255), ((rd t143 0) == 160), !t161, ((t164.length : Int) == 0), ((rd t171 2) == 2), (t191 == 1)] : List Bool) : List Bool)).bind fun y192 => ((scrimlaw2_within.f a0 (y192.length : Int)).bind fun t195 => (if 0 ≤ t195 then (if t195 < (y192.length : Int) then (some (rdOf false y192 t195)) else (none)) else (none))))) else (none))) else (none))) else (none)) else (none)) else (none)) else (none)) else (none)) else (none)) else (none))) else (none)) else (none)) else (none)) else (none)) = some r := H
    have A9 := Aside0.mk A90
    clear A90
    by_cases c10 : (t133.length : Int) = 1
    · rw [if_pos c10] at H
      have c10b0 : ((t133.length : Int) == 1) = true := beq_iff_eq.mpr c10
      have c10b1 : ((t133.length : Int) != 1) = false := bne_eq_false_iff_eq.mpr c10
      clear c10
      by_cases c11 : 0 < (t133.length : Int)
      · rw [if_pos c11] at H
        have c11b0 : decide (0 < (t133.length : Int)) = true := decide_eq_true c11
        have c11b1 : decide (0 < t133.length) = true := decide_eq_true (by omega)
        clear c11
        by_cases c12 : (t143.length : Int) = 1
        · rw [if_pos c12] at H
          have c12b0 : ((t143.length : Int) == 1) = true := beq_iff_eq.mpr c12
          have c12b1 : ((t143.length : Int) != 1) = false := bne_eq_false_iff_eq.mpr c12
          clear c12
          by_cases c13 : 0 < (t143.length : Int)
          · rw [if_pos c13] at H
            have c13b0 : decide (0 < (t143.length : Int)) = true := decide_eq_true c13
            have c13b1 : decide (0 < t143.length) = true := decide_eq_true (by omega)
            clear c13
            by_cases c14 : t154 = true
            · subst c14
              have H1 : (none) = some r := by rw [if_pos rfl] at H; exact H
              clear H
              have H := H1
              clear H1
              exact absurd H (by simp)
            · replace c14 := Bool.eq_false_iff.mpr c14
              subst c14
              have H1 : (if t165 = true then (if (t171.length : Int) = 3 then (if 0 < (t171.length : Int) then (if (rd t171 0) = 3 then (if 1 < (t171.length : Int) then (if (rd t171 1) = 1 then (if 2 < (t171.length : Int) then ((bits_Bit.f (([1] : List Int)) 8).bind fun t183 => (if t183 = 1 then ((bits_Bit.f (([1] : List Int)) 7).bind fun t187 => (if t187 = 0 then ((bits_Bit.f (([0, 128] : List Int)) 9).bind fun t191 => ((some (([((rd t133 0) == 255), ((rd t143 0) == 160), !t161, ((t164.length : Int) == 0), ((rd t171 2) == 2), (t191 == 1)] : List Bool) : List Bool)).bind fun y192 => ((scrimlaw2_within.f a0 (y192.length : Int)).bind fun t195 => (if 0 ≤ t195 then (if t195 < (y192.length : Int) then (some (rdOf false y192 t195)) else (none)) else (none))))) else (none))) else (none))) else (none)) else (none)) else (none)) else (none)) else (none)) else (none)) else (none)) = some r := by rw [if_neg (show ¬ (false = true) by decide)] at H; exact H
              clear H
              have H := H1
              clear H1
              by_cases c15 : t165 = true
              · subst c15
                have H1 : (if (t171.length : Int) = 3 then (if 0 < (t171.length : Int) then (if (rd t171 0) = 3 then (if 1 < (t171.length : Int) then (if (rd t171 1) = 1 then (if 2 < (t171.length : Int) then ((bits_Bit.f (([1] : List Int)) 8).bind fun t183 => (if t183 = 1 then ((bits_Bit.f (([1] : List Int)) 7).bind fun t187 => (if t187 = 0 then ((bits_Bit.f (([0, 128] : List Int)) 9).bind fun t191 => ((some (([((rd t133 0) == 255), ((rd t143 0) == 160), !t161, ((t164.length : Int) == 0), ((rd t171 2) == 2), (t191 == 1)] : List Bool) : List Bool)).bind fun y192 => ((scrimlaw2_within.f a0 (y192.length : Int)).bind fun t195 => (if 0 ≤ t195 then (if t195 < (y192.length : Int) then (some (rdOf false y192 t195)) else (none)) else (none))))) else (none))) else (none))) else (none)) else (none)) else (none)) else (none)) else (none)) else (none)) = some r := by rw [if_pos rfl] at H; exact H
                clear H
                have H := H1
                clear H1
                by_cases c16 : (t171.length : Int) = 3
                · rw [if_pos c16] at H
                  have c16b0 : ((t171.length : Int) == 3) = true := beq_iff_eq.mpr c16
                  have c16b1 : ((t171.length : Int) != 3) = false := bne_eq_false_iff_eq.mpr c16
                  clear c16
                  by_cases c17 : 0 < (t171.length : Int)
                  · rw [if_pos c17] at H
                    have c17b0 : decide (0 < (t171.length : Int)) = true := decide_eq_true c17
                    have c17b1 : decide (0 < t171.length) = true := decide_eq_true (by omega)
                    clear c17
                    by_cases c18 : (rd t171 0) = 3
                    · rw [if_pos c18] at H
                      have c18b0 : ((rd t171 0) == 3) = true := beq_iff_eq.mpr c18
                      have c18b1 : ((rd t171 0) != 3) = false := bne_eq_false_iff_eq.mpr c18
                      clear c18
                      by_cases c19 : 1 < (t171.length : Int)
                      · rw [if_pos c19] at H
                        have c19b0 : decide (1 < (t171.length : Int)) = true := decide_eq_true c19
                        have c19b1 : decide (1 < t171.length) = true := decide_eq_true (by omega)
                        clear c19
                        by_cases c20 : (rd t171 1) = 1
                        · rw [if_pos c20] at H
                          have c20b0 : ((rd t171 1) == 1) = true := beq_iff_eq.mpr c20
                          have c20b1 : ((rd t171 1) != 1) = false := bne_eq_false_iff_eq.mpr c20
                          clear c20
                          by_cases c21 : 2 < (t171.length : Int)
                          · rw [if_pos c21] at H
                            have c21b0 : decide (2 < (t171.length : Int)) = true := decide_eq_true c21
                            have c21b1 : decide (2 < t171.length) = true := decide_eq_true (by omega)
                            clear c21
                            obtain ⟨y180, hy180⟩ : ∃ y_ : List Int, y_ = (([1] : List Int)) := ⟨_, rfl⟩
                            replace H : ((bits_Bit.f y180 8).bind fun t183 => (if t183 = 1 then ((bits_Bit.f (([1] : List Int)) 7).bind fun t187 => (if t187 = 0 then ((bits_Bit.f (([0, 128] : List Int)) 9).bind fun t191 => ((some (([((rd t133 0) == 255), ((rd t143 0) == 160), !t161, ((t164.length : Int) == 0), ((rd t171 2) == 2), (t191 == 1)] : List Bool) : List Bool)).bind fun y192 => ((scrimlaw2_within.f a0 (y192.length : Int)).bind fun t195 => (if 0 ≤ t195 then (if t195 < (y192.length : Int) then (some (rdOf false y192 t195)) else (none)) else (none))))) else (none))) else (none))) = some r := by first | (rw [hy180]; with_reducible exact H) | (have H2_ := (Option.bind_some _ _).symm.trans H; rw [hy180]; with_reducible exact H2_) | (have H2_ := (Option.bind_some _ _).symm.trans H; with_reducible exact H2_) | with_reducible exact H | (rw [hy180]; exact H) | exact H
                            have Ny180 := Aside0.mk hy180
                            clear hy180
                            replace H := Option.bind_eq_some_iff.mp H
                            obtain ⟨t183, A220, H⟩ := H
                            replace H : (if t183 = 1 then ((bits_Bit.f (([1] : List Int)) 7).bind fun t187 => (if t187 = 0 then ((bits_Bit.f (([0, 128] : List Int)) 9).bind fun t191 => ((some (([((rd t133 0) == 255), ((rd t143 0) == 160), !t161, ((t164.length : Int) == 0), ((rd t171 2) == 2), (t191 == 1)] : List Bool) : List Bool)).bind fun y192 => ((scrimlaw2_within.f a0 (y192.length : Int)).bind fun t195 => (if 0 ≤ t195 then (if t195 < (y192.length : Int) then (some (rdOf false y192 t195)) else (none)) else (none))))) else (none))) else (none)) = some r := H
                            have A22 := Aside0.mk A220
                            clear A220
                            by_cases c23 : t183 = 1
                            · rw [if_pos c23] at H
                              have c23b0 : (t183 == 1) = true := beq_iff_eq.mpr c23
                              have c23b1 : (t183 != 1) = false := bne_eq_false_iff_eq.mpr c23
                              clear c23
                              obtain ⟨y184, hy184⟩ : ∃ y_ : List Int, y_ = (([1] : List Int)) := ⟨_, rfl⟩
                              replace H : ((bits_Bit.f y184 7).bind fun t187 => (if t187 = 0 then ((bits_Bit.f (([0, 128] : List Int)) 9).bind fun t191 => ((some (([((rd t133 0) == 255), ((rd t143 0) == 160), !t161, ((t164.length : Int) == 0), ((rd t171 2) == 2), (t191 == 1)] : List Bool) : List Bool)).bind fun y192 => ((scrimlaw2_within.f a0 (y192.length : Int)).bind fun t195 => (if 0 ≤ t195 then (if t195 < (y192.length : Int) then (some (rdOf false y192 t195)) else (none)) else (none))))) else (none))) = some r := by first | (rw [hy184]; with_reducible exact H) | (have H2_ := (Option.bind_some _ _).symm.trans H; rw [hy184]; with_reducible exact H2_) | (have H2_ := (Option.bind_some _ _).symm.trans H; with_reducible exact H2_) | with_reducible exact H | (rw [hy184]; exact H) | exact H
                              have Ny184 := Aside0.mk hy184
                              clear hy184
                              replace H := Option.bind_eq_some_iff.mp H
                              obtain ⟨t187, A240, H⟩ := H
                              replace H : (if t187 = 0 then ((bits_Bit.f (([0, 128] : List Int)) 9).bind fun t191 => ((some (([((rd t133 0) == 255), ((rd t143 0) == 160), !t161, ((t164.length : Int) == 0), ((rd t171 2) == 2), (t191 == 1)] : List Bool) : List Bool)).bind fun y192 => ((scrimlaw2_within.f a0 (y192.length : Int)).bind fun t195 => (if 0 ≤ t195 then (if t195 < (y192.length : Int) then (some (rdOf false y192 t195)) else (none)) else (none))))) else (none)) = some r := H
                              have A24 := Aside0.mk A240
                              clear A240
                              by_cases c25 : t187 = 0
                              · rw [if_pos c25] at H
                                have c25b0 : (t187 == 0) = true := beq_iff_eq.mpr c25
                                have c25b1 : (t187 != 0) = false := bne_eq_false_iff_eq.mpr c25
                                clear c25
                                obtain ⟨y188, hy188⟩ : ∃ y_ : List Int, y_ = (([0, 128] : List Int)) := ⟨_, rfl⟩
                                replace H : ((bits_Bit.f y188 9).bind fun t191 => ((some (([((rd t133 0) == 255), ((rd t143 0) == 160), !t161, ((t164.length : Int) == 0), ((rd t171 2) == 2), (t191 == 1)] : List Bool) : List Bool)).bind fun y192 => ((scrimlaw2_within.f a0 (y192.length : Int)).bind fun t195 => (if 0 ≤ t195 then (if t195 < (y192.length : Int) then (some (rdOf false y192 t195)) else (none)) else (none))))) = some r := by first | (rw [hy188]; with_reducible exact H) | (have H2_ := (Option.bind_some _ _).symm.trans H; rw [hy188]; with_reducible exact H2_) | (have H2_ := (Option.bind_some _ _).symm.trans H; with_reducible exact H2_) | with_reducible exact H | (rw [hy188]; exact H) | exact H
                                have Ny188 := Aside0.mk hy188
                                clear hy188
                                replace H := Option.bind_eq_some_iff.mp H
                                obtain ⟨t191, A260, H⟩ := H
                                replace H : ((some (([((rd t133 0) == 255), ((rd t143 0) == 160), !t161, ((t164.length : Int) == 0), ((rd t171 2) == 2), (t191 == 1)] : List Bool) : List Bool)).bind fun y192 => ((scrimlaw2_within.f a0 (y192.length : Int)).bind fun t195 => (if 0 ≤ t195 then (if t195 < (y192.length : Int) then (some (rdOf false y192 t195)) else (none)) else (none)))) = some r := H
                                have A26 := Aside0.mk A260
                                clear A260
                                obtain ⟨y192, hy192⟩ : ∃ y_ : List Bool, y_ = (([((rd t133 0) == 255), ((rd t143 0) == 160), !t161, ((t164.length : Int) == 0), ((rd t171 2) == 2), (t191 == 1)] : List Bool)) := ⟨_, rfl⟩
                                replace H : ((scrimlaw2_within.f a0 (y192.length : Int)).bind fun t195 => (if 0 ≤ t195 then (if t195 < (y192.length : Int) then (some (rdOf false y192 t195)) else (none)) else (none))) = some r := by first | (rw [hy192]; with_reducible exact H) | (have H2_ := (Option.bind_some _ _).symm.trans H; rw [hy192]; with_reducible exact H2_) | (have H2_ := (Option.bind_some _ _).symm.trans H; with_reducible exact H2_) | with_reducible exact H | (rw [hy192]; exact H) | exact H
                                have Ny192 := Aside0.mk hy192
                                clear hy192
                                replace H := Option.bind_eq_some_iff.mp H
                                obtain ⟨t195, A270, H⟩ := H
                                replace H : (if 0 ≤ t195 then (if t195 < (y192.length : Int) then (some (rdOf false y192 t195)) else (none)) else (none)) = some r := H
                                have A27 := Aside0.mk A270
                                clear A270
                                by_cases c28 : 0 ≤ t195
                                · rw [if_pos c28] at H
                                  have c28b0 : decide (0 ≤ t195) = true := decide_eq_true c28
                                  clear c28
                                  by_cases c29 : t195 < (y192.length : Int)
                                  · rw [if_pos c29] at H
                                    have c29b0 : decide (t195 < (y192.length : Int)) = true := decide_eq_true c29
                                    clear c29
                                    obtain rfl := Option.some.inj H
                                    go_enter Try.func10, Try.ntmps10
                                    try go_wp2_with (first | ((with_reducible refine gate_callee (f := 11) rfl ?_); refine goesL_ (some 16) rfl rfl Try.func11 (by kernel_rfl) rfl #[] rfl (by (try simp only [List.map_toArray, List.map_cons, List.map_nil]); first | done | rfl | (simp only [List.length_drop, List.length_take]; rfl)) ?_; (with_reducible refine (scrimlaw2_known.calls k  true _ A2.out).mono ?_); rintro e w30 ⟨rfl, hb⟩; refine ⟨_, rfl, ?_⟩; have n0_ := Aside0.mk (below_step (by repeat (first | (with_reducible first | exact HB.out | apply below_alloc | apply pw_below_drewN | apply below_drew1) | exact HB.out)) hb); clear HB; have HB := n0_; clear n0_; (try clear hb); (try clear hb2); (try clear hk); (try clear hi)) | ((with_reducible refine gate_dst (N := 19) rfl ?_); (try (refine gate_guard (by rfl) ?_; dsimp only)); refine Kd.R_lit (Kd.int .u8) _ 5 ?hg (N := 19) ?hd (xs := ([240, 15] : List Int)) (inner := [.int .u8 240, .int .u8 15]) (ok := fun _ => True) (okp := fun _ => True) ?hr ?hp (fun _ hk => hk) trivial (Below.refl _ _) (Nat.le_refl _) (by simp) ?_; (case hd => rfl); (case hg => rfl); (case hr => first | (go_simp; done) | (go_simp; rfl)); (case hp => exact (Reps.one (show Kd.M (Kd.int .u8) _ _ _ 240 [.int .u8 240] from rfl) (Reps.one (show Kd.M (Kd.int .u8) _ _ _ 15 [.int .u8 15] from rfl) (Reps.none _ _)))); intro v128 w31 ho32 hb hg_ hnew_; clear hg_ hnew_; (first | rw [← Ny127.out] at ho32 | (simp only [Int.reduceToNat] at ho32; rw [← Ny127.out] at ho32)); have n0_ := Aside0.mk (Kd.R_lower ho32 (below_size (by repeat (first | (with_reducible first | exact HB.out | apply below_alloc | apply pw_below_drewN | apply below_drew1) | exact HB.out)))); have n1_ := Aside0.mk (below_step (by repeat (first | (with_reducible first | exact HB.out | apply below_alloc | apply pw_below_drewN | apply below_drew1) | exact HB.out)) hb); clear HB; have HO129 := n0_; have HB := n1_; clear n0_ n1_; clear hb ho32) | ((with_reducible refine gate_dst (N := 20) rfl ?_); (try (refine gate_guard (by rfl) ?_; dsimp only)); refine Kd.R_lit (Kd.int .i64) _ 3 ?hg (N := 20) ?hd (xs := ([13, 14, 15, 16, 1, 2, 3, 4] : List Int)) (inner := [.int .i64 13, .int .i64 14, .int .i64 15, .int .i64 16, .int .i64 1, .int .i64 2, .int .i64 3, .int .i64 4]) (ok := fun _ => True) (okp := fun _ => True) ?hr ?hp (fun _ hk => hk) trivial (Below.refl _ _) (Nat.le_refl _) (by simp) ?_; (case hd => rfl); (case hg => rfl); (case hr => first | (go_simp; done) | (go_simp; rfl)); (case hp => exact (Reps.one (show Kd.M (Kd.int .i64) _ _ _ 13 [.int .i64 13] from rfl) (Reps.one (show Kd.M (Kd.int .i64) _ _ _ 14 [.int .i64 14] from rfl) (Reps.one (show Kd.M (Kd.int .i64) _ _ _ 15 [.int .i64 15] from rfl) (Reps.one (show Kd.M (Kd.int .i64) _ _ _ 16 [.int .i64 16] from rfl) (Reps.one (show Kd.M (Kd.int .i64) _ _ _ 1 [.int .i64 1] from rfl) (Reps.one (show Kd.M (Kd.int .i64) _ _ _ 2 [.int .i64 2] from rfl) (Reps.one (show Kd.M (Kd.int .i64) _ _ _ 3 [.int .i64 3] from rfl) (Reps.one (show Kd.M (Kd.int .i64) _ _ _ 4 [.int .i64 4] from rfl) (Reps.none _ _)))))))))); intro v131 w33 ho34 hb hg_ hnew_; clear hg_ hnew_; (first | rw [← Ny130.out] at ho34 | (simp only [Int.reduceToNat] at ho34; rw [← Ny130.out] at ho34)); have n0_ := Aside0.mk (Kd.R_below (by (with_reducible repeat (first | apply Kd.R_alloc | apply Kd.R_drewN | apply Kd.R_drew)); exact HO129.out) hb); have n1_ := Aside0.mk (Kd.R_lower ho34 (below_size (by repeat (first | (with_reducible first | exact HB.out | apply below_alloc | apply pw_below_drewN | apply below_drew1) | exact HB.out)))); have n2_ := Aside0.mk (below_step (by repeat (first | (with_reducible first | exact HB.out | apply below_alloc | apply pw_below_drewN | apply below_drew1) | exact HB.out)) hb); clear HO129; clear HB; have HO129 := n0_; have HO132 := n1_; have HB := n2_; clear n0_ n1_ n2_; clear hb ho34; obtain ⟨Ao35, co35, eo35⟩ := Kd.R_slice HO129.out; subst eo35; obtain ⟨Ao36, co36, eo36⟩ := Kd.R_slice HO132.out; subst eo36) | ((with_reducible refine gate_callee (f := 15) rfl ?_); refine goesL_ (some 21) rfl rfl Try.func15 (by kernel_rfl) rfl #[.slice Ao35 y127.length co35, .slice Ao36 y130.length co36] rfl (by (try simp only [List.map_toArray, List.map_cons, List.map_nil]); first | done | rfl | (simp only [List.length_drop, List.length_take]; rfl)) ?_; (with_reducible refine (bits_Permute.calls k _ _ y127 _ _ y130 t133 t134 _ ?side1 ?side2 ?side3 ?side4 A4.out).mono ?_); (case side1 => repeat (first | exact (Kd.R_reads' HO129.out).2.2 | (with_reducible refine Kd.C_alloc ?_ _) | (with_reducible refine Kd.C_drewN ?_ _) | (with_reducible refine Kd.C_drew ?_))); (case side2 => exact (Kd.R_reads' HO129.out).2.1); (case side3 => repeat (first | exact (Kd.R_reads' HO132.out).2.2 | (with_reducible refine Kd.C_alloc ?_ _) | (with_reducible refine Kd.C_drewN ?_ _) | (with_reducible refine Kd.C_drew ?_))); (case side4 => exact (Kd.R_reads' HO132.out).2.1); rintro e w37 ⟨v135, rfl, ho0, hb⟩; refine ⟨_, rfl, ?_⟩; have n0_ := Aside0.mk (Kd.R_elder' (by (with_reducible repeat (first | apply Kd.R_alloc | apply Kd.R_drewN | apply Kd.R_drew)); exact HO129.out) (Kd.R_base ho0) hb); have n1_ := Aside0.mk (Kd.R_below (by (with_reducible repeat (first | apply Kd.R_alloc | apply Kd.R_drewN | apply Kd.R_drew)); exact HO132.out) hb); have n2_ := Aside0.mk (Kd.R_lower (Kd.R_new' ho0 (Kd.R_lt (by (with_reducible repeat (first | apply Kd.R_alloc | apply Kd.R_drewN | apply Kd.R_drew)); exact HO129.out))) (below_size (by repeat (first | (with_reducible first | exact HB.out | apply below_alloc | apply pw_below_drewN | apply below_drew1) | exact HB.out)))); have n3_ := Aside0.mk (below_step (by repeat (first | (with_reducible first | exact HB.out | apply below_alloc | apply pw_below_drewN | apply below_drew1) | exact HB.out)) hb); clear HO129; clear HO132; clear HB; have HO129 := n0_; have HO132 := n1_; have HO136 := n2_; have HB := n3_; clear n0_ n1_ n2_ n3_; (try clear hb); (try clear hb2); (try clear hk); (try clear hi); (try clear ho0)) | ((with_reducible refine gate_dst (N := 25) rfl ?_); (try (refine gate_guard (by rfl) ?_; dsimp only)); refine Kd.R_lit (Kd.int .u8) _ 5 ?hg (N := 25) ?hd (xs := ([160] : List Int)) (inner := [.int .u8 160]) (ok := fun _ => True) (okp := fun _ => True) ?hr ?hp (fun _ hk => hk) trivial (Below.refl _ _) (Nat.le_refl _) (by simp) ?_; (case hd => rfl); (case hg => rfl); (case hr => first | (go_simp; done) | (go_simp; rfl)); (case hp => exact (Reps.one (show Kd.M (Kd.int .u8) _ _ _ 160 [.int .u8 160] from rfl) (Reps.none _ _))); intro v138 w38 ho39 hb hg_ hnew_; clear hg_ hnew_; (first | rw [← Ny137.out] at ho39 | (simp only [Int.reduceToNat] at ho39; rw [← Ny137.out] at ho39)); have n0_ := Aside0.mk (Kd.R_elder' (by (with_reducible repeat (first | apply Kd.R_alloc | apply Kd.R_drewN | apply Kd.R_drew)); exact HO129.out) (Kd.R_base ho39) hb); have n1_ := Aside0.mk (Kd.R_below (by (with_reducible repeat (first | apply Kd.R_alloc | apply Kd.R_drewN | apply Kd.R_drew)); exact HO132.out) hb); have n2_ := Aside0.mk (Kd.R_elder' (by (with_reducible repeat (first | apply Kd.R_alloc | apply Kd.R_drewN | apply Kd.R_drew)); exact HO136.out) (Kd.R_base ho39) hb); have n3_ := Aside0.mk (Kd.R_lower (Kd.R_new' (Kd.R_new' ho39 (Kd.R_lt (by (with_reducible repeat (first | apply Kd.R_alloc | apply Kd.R_drewN | apply Kd.R_drew)); exact HO129.out))) (Kd.R_lt (by (with_reducible repeat (first | apply Kd.R_alloc | apply Kd.R_drewN | apply Kd.R_drew)); exact HO136.out))) (below_size (by repeat (first | (with_reducible first | exact HB.out | apply below_alloc | apply pw_below_drewN | apply below_drew1) | exact HB.out)))); have n4_ := Aside0.mk (below_step (by repeat (first | (with_reducible first | exact HB.out | apply below_alloc | apply pw_below_drewN | apply below_drew1) | exact HB.out)) hb); clear HO129; clear HO132; clear HO136; clear HB; have HO129 := n0_; have HO132 := n1_; have HO136 := n2_; have HO139 := n3_; have HB := n4_; clear n0_ n1_ n2_ n3_ n4_; clear hb ho39) | ((with_reducible refine gate_dst (N := 26) rfl ?_); (try (refine gate_guard (by rfl) ?_; dsimp only)); refine Kd.R_lit (Kd.int .i64) _ 3 ?hg (N := 26) ?hd (xs := ([1, 2, 3] : List Int)) (inner := [.int .i64 1, .int .i64 2, .int .i64 3]) (ok := fun _ => True) (okp := fun _ => True) ?hr ?hp (fun _ hk => hk) trivial (Below.refl _ _) (Nat.le_refl _) (by simp) ?_; (case hd => rfl); (case hg => rfl); (case hr => first | (go_simp; done) | (go_simp; rfl)); (case hp => exact (Reps.one (show Kd.M (Kd.int .i64) _ _ _ 1 [.int .i64 1] from rfl) (Reps.one (show Kd.M (Kd.int .i64) _ _ _ 2 [.int .i64 2] from rfl) (Reps.one (show Kd.M (Kd.int .i64) _ _ _ 3 [.int .i64 3] from rfl) (Reps.none _ _))))); intro v141 w40 ho41 hb hg_ hnew_; clear hg_ hnew_; (first | rw [← Ny140.out] at ho41 | (simp only [Int.reduceToNat] at ho41; rw [← Ny140.out] at ho41)); have n0_ := Aside0.mk (Kd.R_below (by (with_reducible repeat (first | apply Kd.R_alloc | apply Kd.R_drewN | apply Kd.R_drew)); exact HO129.out) hb); have n1_ := Aside0.mk (Kd.R_elder' (by (with_reducible repeat (first | apply Kd.R_alloc | apply Kd.R_drewN | apply Kd.R_drew)); exact HO132.out) (Kd.R_base ho41) hb); have n2_ := Aside0.mk (Kd.R_below (by (with_reducible repeat (first | apply Kd.R_alloc | apply Kd.R_drewN | apply Kd.R_drew)); exact HO136.out) hb); have n3_ := Aside0.mk (Kd.R_below (by (with_reducible repeat (first | apply Kd.R_alloc | apply Kd.R_drewN | apply Kd.R_drew)); exact HO139.out) hb); have n4_ := Aside0.mk (Kd.R_lower (Kd.R_new' ho41 (Kd.R_lt (by (with_reducible repeat (first | apply Kd.R_alloc | apply Kd.R_drewN | apply Kd.R_drew)); exact HO132.out))) (below_size (by repeat (first | (with_reducible first | exact HB.out | apply below_alloc | apply pw_below_drewN | apply below_drew1) | exact HB.out)))); have n5_ := Aside0.mk (below_step (by repeat (first | (with_reducible first | exact HB.out | apply below_alloc | apply pw_below_drewN | apply below_drew1) | exact HB.out)) hb); clear HO129; clear HO132; clear HO136; clear HO139; clear HB; have HO129 := n0_; have HO132 := n1_; have HO136 := n2_; have HO139 := n3_; have HO142 := n4_; have HB := n5_; clear n0_ n1_ n2_ n3_ n4_ n5_; clear hb ho41; obtain ⟨Ao42, co42, eo42⟩ := Kd.R_slice HO139.out; subst eo42; obtain ⟨Ao43, co43, eo43⟩ := Kd.R_slice HO142.out; subst eo43) | ((with_reducible refine gate_callee (f := 15) rfl ?_); refine goesL_ (some 27) rfl rfl Try.func15 (by kernel_rfl) rfl #[.slice Ao42 y137.length co42, .slice Ao43 y140.length co43] rfl (by (try simp only [List.map_toArray, List.map_cons, List.map_nil]); first | done | rfl | (simp only [List.length_drop, List.length_take]; rfl)) ?_; (with_reducible refine (bits_Permute.calls k _ _ y137 _ _ y140 t143 t144 _ ?side1 ?side2 ?side3 ?side4 A5.out).mono ?_); (case side1 => repeat (first | exact (Kd.R_reads' HO139.out).2.2 | (with_reducible refine Kd.C_alloc ?_ _) | (with_reducible refine Kd.C_drewN ?_ _) | (with_reducible refine Kd.C_drew ?_))); (case side2 => exact (Kd.R_reads' HO139.out).2.1); (case side3 => repeat (first | exact (Kd.R_reads' HO142.out).2.2 | (with_reducible refine Kd.C_alloc ?_ _) | (with_reducible refine Kd.C_drewN ?_ _) | (with_reducible refine Kd.C_drew ?_))); (case side4 => exact (Kd.R_reads' HO142.out).2.1); rintro e w44 ⟨v145, rfl, ho0, hb⟩; refine ⟨_, rfl, ?_⟩; have n0_ := Aside0.mk (Kd.R_elder' (by (with_reducible repeat (first | apply Kd.R_alloc | apply Kd.R_drewN | apply Kd.R_drew)); exact HO129.out) (Kd.R_base ho0) hb); have n1_ := Aside0.mk (Kd.R_below (by (with_reducible repeat (first | apply Kd.R_alloc | apply Kd.R_drewN | apply Kd.R_drew)); exact HO132.out) hb); have n2_ := Aside0.mk (Kd.R_elder' (by (with_reducible repeat (first | apply Kd.R_alloc | apply Kd.R_drewN | apply Kd.R_drew)); exact HO136.out) (Kd.R_base ho0) hb); have n3_ := Aside0.mk (Kd.R_elder' (by (with_reducible repeat (first | apply Kd.R_alloc | apply Kd.R_drewN | apply Kd.R_drew)); exact HO139.out) (Kd.R_base ho0) hb); have n4_ := Aside0.mk (Kd.R_below (by (with_reducible repeat (first | apply Kd.R_alloc | apply Kd.R_drewN | apply Kd.R_drew)); exact HO142.out) hb); have n5_ := Aside0.mk (Kd.R_lower (Kd.R_new' (Kd.R_new' (Kd.R_new' ho0 (Kd.R_lt (by (with_reducible repeat (first | apply Kd.R_alloc | apply Kd.R_drewN | apply Kd.R_drew)); exact HO129.out))) (Kd.R_lt (by (with_reducible repeat (first | apply Kd.R_alloc | apply Kd.R_drewN | apply Kd.R_drew)); exact HO136.out))) (Kd.R_lt (by (with_reducible repeat (first | apply Kd.R_alloc | apply Kd.R_drewN | apply Kd.R_drew)); exact HO139.out))) (below_size (by repeat (first | (with_reducible first | exact HB.out | apply below_alloc | apply pw_below_drewN | apply below_drew1) | exact HB.out)))); have n6_ := Aside0.mk (below_step (by repeat (first | (with_reducible first | exact HB.out | apply below_alloc | apply pw_below_drewN | apply below_drew1) | exact HB.out)) hb); clear HO129; clear HO132; clear HO136; clear HO139; clear HO142; clear HB; have HO129 := n0_; have HO132 := n1_; have HO136 := n2_; have HO139 := n3_; have HO142 := n4_; have HO146 := n5_; have HB := n6_; clear n0_ n1_ n2_ n3_ n4_ n5_ n6_; (try clear hb); (try clear hb2); (try clear hk); (try clear hi); (try clear ho0)) | ((with_reducible refine gate_dst (N := 31) rfl ?_); (try (refine gate_guard (by rfl) ?_; dsimp only)); refine Kd.R_lit (Kd.int .u8) _ 5 ?hg (N := 31) ?hd (xs := ([1] : List Int)) (inner := [.int .u8 1]) (ok := fun _ => True) (okp := fun _ => True) ?hr ?hp (fun _ hk => hk) trivial (Below.refl _ _) (Nat.le_refl _) (by simp) ?_; (case hd => rfl); (case hg => rfl); (case hr => first | (go_simp; done) | (go_simp; rfl)); (case hp => exact (Reps.one (show Kd.M (Kd.int .u8) _ _ _ 1 [.int .u8 1] from rfl) (Reps.none _ _))); intro v148 w45 ho46 hb hg_ hnew_; clear hg_ hnew_; (first | rw [← Ny147.out] at ho46 | (simp only [Int.reduceToNat] at ho46; rw [← Ny147.out] at ho46)); have n0_ := Aside0.mk (Kd.R_elder' (by (with_reducible repeat (first | apply Kd.R_alloc | apply Kd.R_drewN | apply Kd.R_drew)); exact HO129.out) (Kd.R_base ho46) hb); have n1_ := Aside0.mk (Kd.R_below (by (with_reducible repeat (first | apply Kd.R_alloc | apply Kd.R_drewN | apply Kd.R_drew)); exact HO132.out) hb); have n2_ := Aside0.mk (Kd.R_elder' (by (with_reducible repeat (first | apply Kd.R_alloc | apply Kd.R_drewN | apply Kd.R_drew)); exact HO136.out) (Kd.R_base ho46) hb); have n3_ := Aside0.mk (Kd.R_elder' (by (with_reducible repeat (first | apply Kd.R_alloc | apply Kd.R_drewN | apply Kd.R_drew)); exact HO139.out) (Kd.R_base ho46) hb); have n4_ := Aside0.mk (Kd.R_below (by (with_reducible repeat (first | apply Kd.R_alloc | apply Kd.R_drewN | apply Kd.R_drew)); exact HO142.out) hb); have n5_ := Aside0.mk (Kd.R_elder' (by (with_reducible repeat (first | apply Kd.R_alloc | apply Kd.R_drewN | apply Kd.R_drew)); exact HO146.out) (Kd.R_base ho46) hb); have n6_ := Aside0.mk (Kd.R_lower (Kd.R_new' (Kd.R_new' (Kd.R_new' (Kd.R_new' ho46 (Kd.R_lt (by (with_reducible repeat (first | apply Kd.R_alloc | apply Kd.R_drewN | apply Kd.R_drew)); exact HO129.out))) (Kd.R_lt (by (with_reducible repeat (first | apply Kd.R_alloc | apply Kd.R_drewN | apply Kd.R_drew)); exact HO136.out))) (Kd.R_lt (by (with_reducible repeat (first | apply Kd.R_alloc | apply Kd.R_drewN | apply Kd.R_drew)); exact HO139.out))) (Kd.R_lt (by (with_reducible repeat (first | apply Kd.R_alloc | apply Kd.R_drewN | apply Kd.R_drew)); exact HO146.out))) (below_size (by repeat (first | (with_reducible first | exact HB.out | apply below_alloc | apply pw_below_drewN | apply below_drew1) | exact HB.out)))); have n7_ := Aside0.mk (below_step (by repeat (first | (with_reducible first | exact HB.out | apply below_alloc | apply pw_below_drewN | apply below_drew1) | exact HB.out)) hb); clear HO129; clear HO132; clear HO136; clear HO139; clear HO142; clear HO146; clear HB; have HO129 := n0_; have HO132 := n1_; have HO136 := n2_; have HO139 := n3_; have HO142 := n4_; have HO146 := n5_; have HO149 := n6_; have HB := n7_; clear n0_ n1_ n2_ n3_ n4_ n5_ n6_ n7_; clear hb ho46) | ((with_reducible refine gate_dst (N := 32) rfl ?_); (try (refine gate_guard (by rfl) ?_; dsimp only)); refine Kd.R_lit (Kd.int .i64) _ 3 ?hg (N := 32) ?hd (xs := ([9] : List Int)) (inner := [.int .i64 9]) (ok := fun _ => True) (okp := fun _ => True) ?hr ?hp (fun _ hk => hk) trivial (Below.refl _ _) (Nat.le_refl _) (by simp) ?_; (case hd => rfl); (case hg => rfl); (case hr => first | (go_simp; done) | (go_simp; rfl)); (case hp => exact (Reps.one (show Kd.M (Kd.int .i64) _ _ _ 9 [.int .i64 9] from rfl) (Reps.none _ _))); intro v151 w47 ho48 hb hg_ hnew_; clear hg_ hnew_; (first | rw [← Ny150.out] at ho48 | (simp only [Int.reduceToNat] at ho48; rw [← Ny150.out] at ho48)); have n0_ := Aside0.mk (Kd.R_below (by (with_reducible repeat (first | apply Kd.R_alloc | apply Kd.R_drewN | apply Kd.R_drew)); exact HO129.out) hb); have n1_ := Aside0.mk (Kd.R_elder' (by (with_reducible repeat (first | apply Kd.R_alloc | apply Kd.R_drewN | apply Kd.R_drew)); exact HO132.out) (Kd.R_base ho48) hb); have n2_ := Aside0.mk (Kd.R_below (by (with_reducible repeat (first | apply Kd.R_alloc | apply Kd.R_drewN | apply Kd.R_drew)); exact HO136.out) hb); have n3_ := Aside0.mk (Kd.R_below (by (with_reducible repeat (first | apply Kd.R_alloc | apply Kd.R_drewN | apply Kd.R_drew)); exact HO139.out) hb); have n4_ := Aside0.mk (Kd.R_elder' (by (with_reducible repeat (first | apply Kd.R_alloc | apply Kd.R_drewN | apply Kd.R_drew)); exact HO142.out) (Kd.R_base ho48) hb); have n5_ := Aside0.mk (Kd.R_below (by (with_reducible repeat (first | apply Kd.R_alloc | apply Kd.R_drewN | apply Kd.R_drew)); exact HO146.out) hb); have n6_ := Aside0.mk (Kd.R_below (by (with_reducible repeat (first | apply Kd.R_alloc | apply Kd.R_drewN | apply Kd.R_drew)); exact HO149.out) hb); have n7_ := Aside0.mk (Kd.R_lower (Kd.R_new' (Kd.R_new' ho48 (Kd.R_lt (by (with_reducible repeat (first | apply Kd.R_alloc | apply Kd.R_drewN | apply Kd.R_drew)); exact HO132.out))) (Kd.R_lt (by (with_reducible repeat (first | apply Kd.R_alloc | apply Kd.R_drewN | apply Kd.R_drew)); exact HO142.out))) (below_size (by repeat (first | (with_reducible first | exact HB.out | apply below_alloc | apply pw_below_drewN | apply below_drew1) | exact HB.out)))); have n8_ := Aside0.mk (below_step (by repeat (first | (with_reducible first | exact HB.out | apply below_alloc | apply pw_below_drewN | apply below_drew1) | exact HB.out)) hb); clear HO129; clear HO132; clear HO136; clear HO139; clear HO142; clear HO146; clear HO149; clear HB; have HO129 := n0_; have HO132 := n1_; have HO136 := n2_; have HO139 := n3_; have HO142 := n4_; have HO146 := n5_; have HO149 := n6_; have HO152 := n7_; have HB := n8_; clear n0_ n1_ n2_ n3_ n4_ n5_ n6_ n7_ n8_; clear hb ho48; obtain ⟨Ao49, co49, eo49⟩ := Kd.R_slice HO149.out; subst eo49; obtain ⟨Ao50, co50, eo50⟩ := Kd.R_slice HO152.out; subst eo50) | ((with_reducible refine gate_callee (f := 15) rfl ?_); refine goesL_ (some 33) rfl rfl Try.func15 (by kernel_rfl) rfl #[.slice Ao49 y147.length co49, .slice Ao50 y150.length co50] rfl (by (try simp only [List.map_toArray, List.map_cons, List.map_nil]); first | done | rfl | (simp only [List.length_drop, List.length_take]; rfl)) ?_; (with_reducible refine (bits_Permute.calls k _ _ y147 _ _ y150 t153 false _ ?side1 ?side2 ?side3 ?side4 A6.out).mono ?_); (case side1 => repeat (first | exact (Kd.R_reads' HO149.out).2.2 | (with_reducible refine Kd.C_alloc ?_ _) | (with_reducible refine Kd.C_drewN ?_ _) | (with_reducible refine Kd.C_drew ?_))); (case side2 => exact (Kd.R_reads' HO149.out).2.1); (case side3 => repeat (first | exact (Kd.R_reads' HO152.out).2.2 | (with_reducible refine Kd.C_alloc ?_ _) | (with_reducible refine Kd.C_drewN ?_ _) | (with_reducible refine Kd.C_drew ?_))); (case side4 => exact (Kd.R_reads' HO152.out).2.1); rintro e w51 ⟨v155, rfl, ho0, hb⟩; refine ⟨_, rfl, ?_⟩; have n0_ := Aside0.mk (Kd.R_elder' (by (with_reducible repeat (first | apply Kd.R_alloc | apply Kd.R_drewN | apply Kd.R_drew)); exact HO129.out) (Kd.R_base ho0) hb); have n1_ := Aside0.mk (Kd.R_below (by (with_reducible repeat (first | apply Kd.R_alloc | apply Kd.R_drewN | apply Kd.R_drew)); exact HO132.out) hb); have n2_ := Aside0.mk (Kd.R_elder' (by (with_reducible repeat (first | apply Kd.R_alloc | apply Kd.R_drewN | apply Kd.R_drew)); exact HO136.out) (Kd.R_base ho0) hb); have n3_ := Aside0.mk (Kd.R_elder' (by (with_reducible repeat (first | apply Kd.R_alloc | apply Kd.R_drewN | apply Kd.R_drew)); exact HO139.out) (Kd.R_base ho0) hb); have n4_ := Aside0.mk (Kd.R_below (by (with_reducible repeat (first | apply Kd.R_alloc | apply Kd.R_drewN | apply Kd.R_drew)); exact HO142.out) hb); have n5_ := Aside0.mk (Kd.R_elder' (by (with_reducible repeat (first | apply Kd.R_alloc | apply Kd.R_drewN | apply Kd.R_drew)); exact HO146.out) (Kd.R_base ho0) hb); have n6_ := Aside0.mk (Kd.R_elder' (by (with_reducible repeat (first | apply Kd.R_alloc | apply Kd.R_drewN | apply Kd.R_drew)); exact HO149.out) (Kd.R_base ho0) hb); have n7_ := Aside0.mk (Kd.R_below (by (with_reducible repeat (first | apply Kd.R_alloc | apply Kd.R_drewN | apply Kd.R_drew)); exact HO152.out) hb); have n8_ := Aside0.mk (Kd.R_lower (Kd.R_new' (Kd.R_new' (Kd.R_new' (Kd.R_new' (Kd.R_new' ho0 (Kd.R_lt (by (with_reducible repeat (first | apply Kd.R_alloc | apply Kd.R_drewN | apply Kd.R_drew)); exact HO129.out))) (Kd.R_lt (by (with_reducible repeat (first | apply Kd.R_alloc | apply Kd.R_drewN | apply Kd.R_drew)); exact HO136.out))) (Kd.R_lt (by (with_reducible repeat (first | apply Kd.R_alloc | apply Kd.R_drewN | apply Kd.R_drew)); exact HO139.out))) (Kd.R_lt (by (with_reducible repeat (first | apply Kd.R_alloc | apply Kd.R_drewN | apply Kd.R_drew)); exact HO146.out))) (Kd.R_lt (by (with_reducible repeat (first | apply Kd.R_alloc | apply Kd.R_drewN | apply Kd.R_drew)); exact HO149.out))) (below_size (by repeat (first | (with_reducible first | exact HB.out | apply below_alloc | apply pw_below_drewN | apply below_drew1) | exact HB.out)))); have n9_ := Aside0.mk (below_step (by repeat (first | (with_reducible first | exact HB.out | apply below_alloc | apply pw_below_drewN | apply below_drew1) | exact HB.out)) hb); clear HO129; clear HO132; clear HO136; clear HO139; clear HO142; clear HO146; clear HO149; clear HO152; clear HB; have HO129 := n0_; have HO132 := n1_; have HO136 := n2_; have HO139 := n3_; have HO142 := n4_; have HO146 := n5_; have HO149 := n6_; have HO152 := n7_; have HO156 := n8_; have HB := n9_; clear n0_ n1_ n2_ n3_ n4_ n5_ n6_ n7_ n8_ n9_; (try clear hb); (try clear hb2); (try clear hk); (try clear hi); (try clear ho0)) | ((with_reducible refine gate_dst (N := 37) rfl ?_); (try (refine gate_guard (by rfl) ?_; dsimp only)); refine Kd.R_lit (Kd.int .i64) _ 3 ?hg (N := 37) ?hd (xs := ([1] : List Int)) (inner := [.int .i64 1]) (ok := fun _ => True) (okp := fun _ => True) ?hr ?hp (fun _ hk => hk) trivial (Below.refl _ _) (Nat.le_refl _) (by simp) ?_; (case hd => rfl); (case hg => rfl); (case hr => first | (go_simp; done) | (go_simp; rfl)); (case hp => exact (Reps.one (show Kd.M (Kd.int .i64) _ _ _ 1 [.int .i64 1] from rfl) (Reps.none _ _))); intro v158 w52 ho53 hb hg_ hnew_; clear hg_ hnew_; (first | rw [← Ny157.out] at ho53 | (simp only [Int.reduceToNat] at ho53; rw [← Ny157.out] at ho53)); have n0_ := Aside0.mk (Kd.R_below (by (with_reducible repeat (first | apply Kd.R_alloc | apply Kd.R_drewN | apply Kd.R_drew)); exact HO129.out) hb); have n1_ := Aside0.mk (Kd.R_elder' (by (with_reducible repeat (first | apply Kd.R_alloc | apply Kd.R_drewN | apply Kd.R_drew)); exact HO132.out) (Kd.R_base ho53) hb); have n2_ := Aside0.mk (Kd.R_below (by (with_reducible repeat (first | apply Kd.R_alloc | apply Kd.R_drewN | apply Kd.R_drew)); exact HO136.out) hb); have n3_ := Aside0.mk (Kd.R_below (by (with_reducible repeat (first | apply Kd.R_alloc | apply Kd.R_drewN | apply Kd.R_drew)); exact HO139.out) hb); have n4_ := Aside0.mk (Kd.R_elder' (by (with_reducible repeat (first | apply Kd.R_alloc | apply Kd.R_drewN | apply Kd.R_drew)); exact HO142.out) (Kd.R_base ho53) hb); have n5_ := Aside0.mk (Kd.R_below (by (with_reducible repeat (first | apply Kd.R_alloc | apply Kd.R_drewN | apply Kd.R_drew)); exact HO146.out) hb); have n6_ := Aside0.mk (Kd.R_below (by (with_reducible repeat (first | apply Kd.R_alloc | apply Kd.R_drewN | apply Kd.R_drew)); exact HO149.out) hb); have n7_ := Aside0.mk (Kd.R_elder' (by (with_reducible repeat (first | apply Kd.R_alloc | apply Kd.R_drewN | apply Kd.R_drew)); exact HO152.out) (Kd.R_base ho53) hb); have n8_ := Aside0.mk (Kd.R_below (by (with_reducible repeat (first | apply Kd.R_alloc | apply Kd.R_drewN | apply Kd.R_drew)); exact HO156.out) hb); have n9_ := Aside0.mk (Kd.R_lower (Kd.R_new' (Kd.R_new' (Kd.R_new' ho53 (Kd.R_lt (by (with_reducible repeat (first | apply Kd.R_alloc | apply Kd.R_drewN | apply Kd.R_drew)); exact HO132.out))) (Kd.R_lt (by (with_reducible repeat (first | apply Kd.R_alloc | apply Kd.R_drewN | apply Kd.R_drew)); exact HO142.out))) (Kd.R_lt (by (with_reducible repeat (first | apply Kd.R_alloc | apply Kd.R_drewN | apply Kd.R_drew)); exact HO152.out))) (below_size (by repeat (first | (with_reducible first | exact HB.out | apply below_alloc | apply pw_below_drewN | apply below_drew1) | exact HB.out)))); have n10_ := Aside0.mk (below_step (by repeat (first | (with_reducible first | exact HB.out | apply below_alloc | apply pw_below_drewN | apply below_drew1) | exact HB.out)) hb); clear HO129; clear HO132; clear HO136; clear HO139; clear HO142; clear HO146; clear HO149; clear HO152; clear HO156; clear HB; have HO129 := n0_; have HO132 := n1_; have HO136 := n2_; have HO139 := n3_; have HO142 := n4_; have HO146 := n5_; have HO149 := n6_; have HO152 := n7_; have HO156 := n8_; have HO159 := n9_; have HB := n10_; clear n0_ n1_ n2_ n3_ n4_ n5_ n6_ n7_ n8_ n9_ n10_; clear hb ho53; obtain ⟨Ao54, co54, eo54⟩ := Kd.R_slice HO159.out; subst eo54) | ((with_reducible refine gate_callee (f := 15) rfl ?_); refine goesL_ (some 38) rfl rfl Try.func15 (by kernel_rfl) rfl #[.slice none 0 0, .slice Ao54 y157.length co54] rfl (by (try simp only [List.map_toArray, List.map_cons, List.map_nil]); first | done | rfl | (simp only [List.length_drop, List.length_take]; rfl)) ?_; (refine (bits_Permute.calls k _ _ ([] : List Int) _ _ y157 t160 t161 _ ?side1 ?side2 ?side3 ?side4 A7.out).mono ?_); (case side1 => exact Kd.C_nil _ _); (case side2 => exact Nat.le_refl _); (case side3 => repeat (first | exact (Kd.R_reads' HO159.out).2.2 | (with_reducible refine Kd.C_alloc ?_ _) | (with_reducible refine Kd.C_drewN ?_ _) | (with_reducible refine Kd.C_drew ?_))); (case side4 => exact (Kd.R_reads' HO159.out).2.1); rintro e w55 ⟨v162, rfl, ho0, hb⟩; refine ⟨_, rfl, ?_⟩; have n0_ := Aside0.mk (Kd.R_elder' (by (with_reducible repeat (first | apply Kd.R_alloc | apply Kd.R_drewN | apply Kd.R_drew)); exact HO129.out) (Kd.R_base ho0) hb); have n1_ := Aside0.mk (Kd.R_below (by (with_reducible repeat (first | apply Kd.R_alloc | apply Kd.R_drewN | apply Kd.R_drew)); exact HO132.out) hb); have n2_ := Aside0.mk (Kd.R_elder' (by (with_reducible repeat (first | apply Kd.R_alloc | apply Kd.R_drewN | apply Kd.R_drew)); exact HO136.out) (Kd.R_base ho0) hb); have n3_ := Aside0.mk (Kd.R_elder' (by (with_reducible repeat (first | apply Kd.R_alloc | apply Kd.R_drewN | apply Kd.R_drew)); exact HO139.out) (Kd.R_base ho0) hb); have n4_ := Aside0.mk (Kd.R_below (by (with_reducible repeat (first | apply Kd.R_alloc | apply Kd.R_drewN | apply Kd.R_drew)); exact HO142.out) hb); have n5_ := Aside0.mk (Kd.R_elder' (by (with_reducible repeat (first | apply Kd.R_alloc | apply Kd.R_drewN | apply Kd.R_drew)); exact HO146.out) (Kd.R_base ho0) hb); have n6_ := Aside0.mk (Kd.R_elder' (by (with_reducible repeat (first | apply Kd.R_alloc | apply Kd.R_drewN | apply Kd.R_drew)); exact HO149.out) (Kd.R_base ho0) hb); have n7_ := Aside0.mk (Kd.R_below (by (with_reducible repeat (first | apply Kd.R_alloc | apply Kd.R_drewN | apply Kd.R_drew)); exact HO152.out) hb); have n8_ := Aside0.mk (Kd.R_elder' (by (with_reducible repeat (first | apply Kd.R_alloc | apply Kd.R_drewN | apply Kd.R_drew)); exact HO156.out) (Kd.R_base ho0) hb); have n9_ := Aside0.mk (Kd.R_below (by (with_reducible repeat (first | apply Kd.R_alloc | apply Kd.R_drewN | apply Kd.R_drew)); exact HO159.out) hb); have n10_ := Aside0.mk (Kd.R_lower (Kd.R_new' (Kd.R_new' (Kd.R_new' (Kd.R_new' (Kd.R_new' (Kd.R_new' ho0 (Kd.R_lt (by (with_reducible repeat (first | apply Kd.R_alloc | apply Kd.R_drewN | apply Kd.R_drew)); exact HO129.out))) (Kd.R_lt (by (with_reducible repeat (first | apply Kd.R_alloc | apply Kd.R_drewN | apply Kd.R_drew)); exact HO136.out))) (Kd.R_lt (by (with_reducible repeat (first | apply Kd.R_alloc | apply Kd.R_drewN | apply Kd.R_drew)); exact HO139.out))) (Kd.R_lt (by (with_reducible repeat (first | apply Kd.R_alloc | apply Kd.R_drewN | apply Kd.R_drew)); exact HO146.out))) (Kd.R_lt (by (with_reducible repeat (first | apply Kd.R_alloc | apply Kd.R_drewN | apply Kd.R_drew)); exact HO149.out))) (Kd.R_lt (by (with_reducible repeat (first | apply Kd.R_alloc | apply Kd.R_drewN | apply Kd.R_drew)); exact HO156.out))) (below_size (by repeat (first | (with_reducible first | exact HB.out | apply below_alloc | apply pw_below_drewN | apply below_drew1) | exact HB.out)))); have n11_ := Aside0.mk (below_step (by repeat (first | (with_reducible first | exact HB.out | apply below_alloc | apply pw_below_drewN | apply below_drew1) | exact HB.out)) hb); clear HO129; clear HO132; clear HO136; clear HO139; clear HO142; clear HO146; clear HO149; clear HO152; clear HO156; clear HO159; clear HB; have HO129 := n0_; have HO132 := n1_; have HO136 := n2_; have HO139 := n3_; have HO142 := n4_; have HO146 := n5_; have HO149 := n6_; have HO152 := n7_; have HO156 := n8_; have HO159 := n9_; have HO163 := n10_; have HB := n11_; clear n0_ n1_ n2_ n3_ n4_ n5_ n6_ n7_ n8_ n9_ n10_ n11_; (try clear hb); (try clear hb2); (try clear hk); (try clear hi); (try clear ho0)) | ((with_reducible refine gate_callee (f := 15) rfl ?_); refine goesL_ (some 42) rfl rfl Try.func15 (by kernel_rfl) rfl #[.slice none 0 0, .slice none 0 0] rfl (by (try simp only [List.map_toArray, List.map_cons, List.map_nil]); first | done | rfl | (simp only [List.length_drop, List.length_take]; rfl)) ?_; (refine (bits_Permute.calls k _ _ ([] : List Int) _ _ ([] : List Int) t164 true _ ?side1 ?side2 ?side3 ?side4 A8.out).mono ?_); (case side1 => exact Kd.C_nil _ _); (case side2 => exact Nat.le_refl _); (case side3 => exact Kd.C_nil _ _); (case side4 => exact Nat.le_refl _); rintro e w56 ⟨v166, rfl, ho0, hb⟩; refine ⟨_, rfl, ?_⟩; have n0_ := Aside0.mk (Kd.R_elder' (by (with_reducible repeat (first | apply Kd.R_alloc | apply Kd.R_drewN | apply Kd.R_drew)); exact HO129.out) (Kd.R_base ho0) hb); have n1_ := Aside0.mk (Kd.R_below (by (with_reducible repeat (first | apply Kd.R_alloc | apply Kd.R_drewN | apply Kd.R_drew)); exact HO132.out) hb); have n2_ := Aside0.mk (Kd.R_elder' (by (with_reducible repeat (first | apply Kd.R_alloc | apply Kd.R_drewN | apply Kd.R_drew)); exact HO136.out) (Kd.R_base ho0) hb); have n3_ := Aside0.mk (Kd.R_elder' (by (with_reducible repeat (first | apply Kd.R_alloc | apply Kd.R_drewN | apply Kd.R_drew)); exact HO139.out) (Kd.R_base ho0) hb); have n4_ := Aside0.mk (Kd.R_below (by (with_reducible repeat (first | apply Kd.R_alloc | apply Kd.R_drewN | apply Kd.R_drew)); exact HO142.out) hb); have n5_ := Aside0.mk (Kd.R_elder' (by (with_reducible repeat (first | apply Kd.R_alloc | apply Kd.R_drewN | apply Kd.R_drew)); exact HO146.out) (Kd.R_base ho0) hb); have n6_ := Aside0.mk (Kd.R_elder' (by (with_reducible repeat (first | apply Kd.R_alloc | apply Kd.R_drewN | apply Kd.R_drew)); exact HO149.out) (Kd.R_base ho0) hb); have n7_ := Aside0.mk (Kd.R_below (by (with_reducible repeat (first | apply Kd.R_alloc | apply Kd.R_drewN | apply Kd.R_drew)); exact HO152.out) hb); have n8_ := Aside0.mk (Kd.R_elder' (by (with_reducible repeat (first | apply Kd.R_alloc | apply Kd.R_drewN | apply Kd.R_drew)); exact HO156.out) (Kd.R_base ho0) hb); have n9_ := Aside0.mk (Kd.R_below (by (with_reducible repeat (first | apply Kd.R_alloc | apply Kd.R_drewN | apply Kd.R_drew)); exact HO159.out) hb); have n10_ := Aside0.mk (Kd.R_elder' (by (with_reducible repeat (first | apply Kd.R_alloc | apply Kd.R_drewN | apply Kd.R_drew)); exact HO163.out) (Kd.R_base ho0) hb); have n11_ := Aside0.mk (Kd.R_lower (Kd.R_new' (Kd.R_new' (Kd.R_new' (Kd.R_new' (Kd.R_new' (Kd.R_new' (Kd.R_new' ho0 (Kd.R_lt (by (with_reducible repeat (first | apply Kd.R_alloc | apply Kd.R_drewN | apply Kd.R_drew)); exact HO129.out))) (Kd.R_lt (by (with_reducible repeat (first | apply Kd.R_alloc | apply Kd.R_drewN | apply Kd.R_drew)); exact HO136.out))) (Kd.R_lt (by (with_reducible repeat (first | apply Kd.R_alloc | apply Kd.R_drewN | apply Kd.R_drew)); exact HO139.out))) (Kd.R_lt (by (with_reducible repeat (first | apply Kd.R_alloc | apply Kd.R_drewN | apply Kd.R_drew)); exact HO146.out))) (Kd.R_lt (by (with_reducible repeat (first | apply Kd.R_alloc | apply Kd.R_drewN | apply Kd.R_drew)); exact HO149.out))) (Kd.R_lt (by (with_reducible repeat (first | apply Kd.R_alloc | apply Kd.R_drewN | apply Kd.R_drew)); exact HO156.out))) (Kd.R_lt (by (with_reducible repeat (first | apply Kd.R_alloc | apply Kd.R_drewN | apply Kd.R_drew)); exact HO163.out))) (below_size (by repeat (first | (with_reducible first | exact HB.out | apply below_alloc | apply pw_below_drewN | apply below_drew1) | exact HB.out)))); have n12_ := Aside0.mk (below_step (by repeat (first | (with_reducible first | exact HB.out | apply below_alloc | apply pw_below_drewN | apply below_drew1) | exact HB.out)) hb); clear HO129; clear HO132; clear HO136; clear HO139; clear HO142; clear HO146; clear HO149; clear HO152; clear HO156; clear HO159; clear HO163; clear HB; have HO129 := n0_; have HO132 := n1_; have HO136 := n2_; have HO139 := n3_; have HO142 := n4_; have HO146 := n5_; have HO149 := n6_; have HO152 := n7_; have HO156 := n8_; have HO159 := n9_; have HO163 := n10_; have HO167 := n11_; have HB := n12_; clear n0_ n1_ n2_ n3_ n4_ n5_ n6_ n7_ n8_ n9_ n10_ n11_ n12_; (try clear hb); (try clear hb2); (try clear hk); (try clear hi); (try clear ho0)) | ((with_reducible refine gate_dst (N := 46) rfl ?_); (try (refine gate_guard (by rfl) ?_; dsimp only)); refine Kd.R_lit (Kd.int .i64) _ 3 ?hg (N := 46) ?hd (xs := ([2, 3, 1] : List Int)) (inner := [.int .i64 2, .int .i64 3, .int .i64 1]) (ok := fun _ => True) (okp := fun _ => True) ?hr ?hp (fun _ hk => hk) trivial (Below.refl _ _) (Nat.le_refl _) (by simp) ?_; (case hd => rfl); (case hg => rfl); (case hr => first | (go_simp; done) | (go_simp; rfl)); (case hp => exact (Reps.one (show Kd.M (Kd.int .i64) _ _ _ 2 [.int .i64 2] from rfl) (Reps.one (show Kd.M (Kd.int .i64) _ _ _ 3 [.int .i64 3] from rfl) (Reps.one (show Kd.M (Kd.int .i64) _ _ _ 1 [.int .i64 1] from rfl) (Reps.none _ _))))); intro v169 w57 ho58 hb hg_ hnew_; clear hg_ hnew_; (first | rw [← Ny168.out] at ho58 | (simp only [Int.reduceToNat] at ho58; rw [← Ny168.out] at ho58)); have n0_ := Aside0.mk (Kd.R_below (by (with_reducible repeat (first | apply Kd.R_alloc | apply Kd.R_drewN | apply Kd.R_drew)); exact HO129.out) hb); have n1_ := Aside0.mk (Kd.R_elder' (by (with_reducible repeat (first | apply Kd.R_alloc | apply Kd.R_drewN | apply Kd.R_drew)); exact HO132.out) (Kd.R_base ho58) hb); have n2_ := Aside0.mk (Kd.R_below (by (with_reducible repeat (first | apply Kd.R_alloc | apply Kd.R_drewN | apply Kd.R_drew)); exact HO136.out) hb); have n3_ := Aside0.mk (Kd.R_below (by (with_reducible repeat (first | apply Kd.R_alloc | apply Kd.R_drewN | apply Kd.R_drew)); exact HO139.out) hb); have n4_ := Aside0.mk (Kd.R_elder' (by (with_reducible repeat (first | apply Kd.R_alloc | apply Kd.R_drewN | apply Kd.R_drew)); exact HO142.out) (Kd.R_base ho58) hb); have n5_ := Aside0.mk (Kd.R_below (by (with_reducible repeat (first | apply Kd.R_alloc | apply Kd.R_drewN | apply Kd.R_drew)); exact HO146.out) hb); have n6_ := Aside0.mk (Kd.R_below (by (with_reducible repeat (first | apply Kd.R_alloc | apply Kd.R_drewN | apply Kd.R_drew)); exact HO149.out) hb); have n7_ := Aside0.mk (Kd.R_elder' (by (with_reducible repeat (first | apply Kd.R_alloc | apply Kd.R_drewN | apply Kd.R_drew)); exact HO152.out) (Kd.R_base ho58) hb); have n8_ := Aside0.mk (Kd.R_below (by (with_reducible repeat (first | apply Kd.R_alloc | apply Kd.R_drewN | apply Kd.R_drew)); exact HO156.out) hb); have n9_ := Aside0.mk (Kd.R_elder' (by (with_reducible repeat (first | apply Kd.R_alloc | apply Kd.R_drewN | apply Kd.R_drew)); exact HO159.out) (Kd.R_base ho58) hb); have n10_ := Aside0.mk (Kd.R_below (by (with_reducible repeat (first | apply Kd.R_alloc | apply Kd.R_drewN | apply Kd.R_drew)); exact HO163.out) hb); have n11_ := Aside0.mk (Kd.R_below (by (with_reducible repeat (first | apply Kd.R_alloc | apply Kd.R_drewN | apply Kd.R_drew)); exact HO167.out) hb); have n12_ := Aside0.mk (Kd.R_lower (Kd.R_new' (Kd.R_new' (Kd.R_new' (Kd.R_new' ho58 (Kd.R_lt (by (with_reducible repeat (first | apply Kd.R_alloc | apply Kd.R_drewN | apply Kd.R_drew)); exact HO132.out))) (Kd.R_lt (by (with_reducible repeat (first | apply Kd.R_alloc | apply Kd.R_drewN | apply Kd.R_drew)); exact HO142.out))) (Kd.R_lt (by (with_reducible repeat (first | apply Kd.R_alloc | apply Kd.R_drewN | apply Kd.R_drew)); exact HO152.out))) (Kd.R_lt (by (with_reducible repeat (first | apply Kd.R_alloc | apply Kd.R_drewN | apply Kd.R_drew)); exact HO159.out))) (below_size (by repeat (first | (with_reducible first | exact HB.out | apply below_alloc | apply pw_below_drewN | apply below_drew1) | exact HB.out)))); have n13_ := Aside0.mk (below_step (by repeat (first | (with_reducible first | exact HB.out | apply below_alloc | apply pw_below_drewN | apply below_drew1) | exact HB.out)) hb); clear HO129; clear HO132; clear HO136; clear HO139; clear HO142; clear HO146; clear HO149; clear HO152; clear HO156; clear HO159; clear HO163; clear HO167; clear HB; have HO129 := n0_; have HO132 := n1_; have HO136 := n2_; have HO139 := n3_; have HO142 := n4_; have HO146 := n5_; have HO149 := n6_; have HO152 := n7_; have HO156 := n8_; have HO159 := n9_; have HO163 := n10_; have HO167 := n11_; have HO170 := n12_; have HB := n13_; clear n0_ n1_ n2_ n3_ n4_ n5_ n6_ n7_ n8_ n9_ n10_ n11_ n12_ n13_; clear hb ho58; obtain ⟨Ao59, co59, eo59⟩ := Kd.R_slice HO170.out; subst eo59) | ((with_reducible refine gate_callee (f := 18) rfl ?_); refine goesL_ (some 47) rfl rfl Try.func18 (by kernel_rfl) rfl #[.slice Ao59 y168.length co59] rfl (by (try simp only [List.map_toArray, List.map_cons, List.map_nil]); first | done | rfl | (simp only [List.length_drop, List.length_take]; rfl)) ?_; (with_reducible refine (bits_Invert.calls k _ _ y168 t171 t172 _ ?side1 ?side2 A9.out).mono ?_); (case side1 => repeat (first | exact (Kd.R_reads' HO170.out).2.2 | (with_reducible refine Kd.C_alloc ?_ _) | (with_reducible refine Kd.C_drewN ?_ _) | (with_reducible refine Kd.C_drew ?_))); (case side2 => exact (Kd.R_reads' HO170.out).2.1); rintro e w60 ⟨v173, rfl, ho0, hb⟩; refine ⟨_, rfl, ?_⟩; have n0_ := Aside0.mk (Kd.R_below (by (with_reducible repeat (first | apply Kd.R_alloc | apply Kd.R_drewN | apply Kd.R_drew)); exact HO129.out) hb); have n1_ := Aside0.mk (Kd.R_elder' (by (with_reducible repeat (first | apply Kd.R_alloc | apply Kd.R_drewN | apply Kd.R_drew)); exact HO132.out) (Kd.R_base ho0) hb); have n2_ := Aside0.mk (Kd.R_below (by (with_reducible repeat (first | apply Kd.R_alloc | apply Kd.R_drewN | apply Kd.R_drew)); exact HO136.out) hb); have n3_ := Aside0.mk (Kd.R_below (by (with_reducible repeat (first | apply Kd.R_alloc | apply Kd.R_drewN | apply Kd.R_drew)); exact HO139.out) hb); have n4_ := Aside0.mk (Kd.R_elder' (by (with_reducible repeat (first | apply Kd.R_alloc | apply Kd.R_drewN | apply Kd.R_drew)); exact HO142.out) (Kd.R_base ho0) hb); have n5_ := Aside0.mk (Kd.R_below (by (with_reducible repeat (first | apply Kd.R_alloc | apply Kd.R_drewN | apply Kd.R_drew)); exact HO146.out) hb); have n6_ := Aside0.mk (Kd.R_below (by (with_reducible repeat (first | apply Kd.R_alloc | apply Kd.R_drewN | apply Kd.R_drew)); exact HO149.out) hb); have n7_ := Aside0.mk (Kd.R_elder' (by (with_reducible repeat (first | apply Kd.R_alloc | apply Kd.R_drewN | apply Kd.R_drew)); exact HO152.out) (Kd.R_base ho0) hb); have n8_ := Aside0.mk (Kd.R_below (by (with_reducible repeat (first | apply Kd.R_alloc | apply Kd.R_drewN | apply Kd.R_drew)); exact HO156.out) hb); have n9_ := Aside0.mk (Kd.R_elder' (by (with_reducible repeat (first | apply Kd.R_alloc | apply Kd.R_drewN | apply Kd.R_drew)); exact HO159.out) (Kd.R_base ho0) hb); have n10_ := Aside0.mk (Kd.R_below (by (with_reducible repeat (first | apply Kd.R_alloc | apply Kd.R_drewN | apply Kd.R_drew)); exact HO163.out) hb); have n11_ := Aside0.mk (Kd.R_below (by (with_reducible repeat (first | apply Kd.R_alloc | apply Kd.R_drewN | apply Kd.R_drew)); exact HO167.out) hb); have n12_ := Aside0.mk (Kd.R_elder' (by (with_reducible repeat (first | apply Kd.R_alloc | apply Kd.R_drewN | apply Kd.R_drew)); exact HO170.out) (Kd.R_base ho0) hb); have n13_ := Aside0.mk (Kd.R_lower (Kd.R_new' (Kd.R_new' (Kd.R_new' (Kd.R_new' (Kd.R_new' ho0 (Kd.R_lt (by (with_reducible repeat (first | apply Kd.R_alloc | apply Kd.R_drewN | apply Kd.R_drew)); exact HO132.out))) (Kd.R_lt (by (with_reducible repeat (first | apply Kd.R_alloc | apply Kd.R_drewN | apply Kd.R_drew)); exact HO142.out))) (Kd.R_lt (by (with_reducible repeat (first | apply Kd.R_alloc | apply Kd.R_drewN | apply Kd.R_drew)); exact HO152.out))) (Kd.R_lt (by (with_reducible repeat (first | apply Kd.R_alloc | apply Kd.R_drewN | apply Kd.R_drew)); exact HO159.out))) (Kd.R_lt (by (with_reducible repeat (first | apply Kd.R_alloc | apply Kd.R_drewN | apply Kd.R_drew)); exact HO170.out))) (below_size (by repeat (first | (with_reducible first | exact HB.out | apply below_alloc | apply pw_below_drewN | apply below_drew1) | exact HB.out)))); have n14_ := Aside0.mk (below_step (by repeat (first | (with_reducible first | exact HB.out | apply below_alloc | apply pw_below_drewN | apply below_drew1) | exact HB.out)) hb); clear HO129; clear HO132; clear HO136; clear HO139; clear HO142; clear HO146; clear HO149; clear HO152; clear HO156; clear HO159; clear HO163; clear HO167; clear HO170; clear HB; have HO129 := n0_; have HO132 := n1_; have HO136 := n2_; have HO139 := n3_; have HO142 := n4_; have HO146 := n5_; have HO149 := n6_; have HO152 := n7_; have HO156 := n8_; have HO159 := n9_; have HO163 := n10_; have HO167 := n11_; have HO170 := n12_; have HO174 := n13_; have HB := n14_; clear n0_ n1_ n2_ n3_ n4_ n5_ n6_ n7_ n8_ n9_ n10_ n11_ n12_ n13_ n14_; (try clear hb); (try clear hb2); (try clear hk); (try clear hi); (try clear ho0)))
                                    have n0_ := Aside0.mk (Kd.R_drew HO129.out)
                                    have n1_ := Aside0.mk (Kd.R_drew HO132.out)
                                    have n2_ := Aside0.mk (Kd.R_drew HO136.out)
                                    have n3_ := Aside0.mk (Kd.R_drew HO139.out)
                                    have n4_ := Aside0.mk (Kd.R_drew HO142.out)
                                    have n5_ := Aside0.mk (Kd.R_drew HO146.out)
                                    have n6_ := Aside0.mk (Kd.R_drew HO149.out)
                                    have n7_ := Aside0.mk (Kd.R_drew HO152.out)
                                    have n8_ := Aside0.mk (Kd.R_drew HO156.out)
                                    have n9_ := Aside0.mk (Kd.R_drew HO159.out)
                                    have n10_ := Aside0.mk (Kd.R_drew HO163.out)
                                    have n11_ := Aside0.mk (Kd.R_drew HO167.out)
                                    have n12_ := Aside0.mk (Kd.R_drew HO170.out)
                                    have n13_ := Aside0.mk (Kd.R_drew HO174.out)
                                    have n14_ := Aside0.mk (below_drew1 HB.out)
                                    clear HO129
                                    clear HO132
                                    clear HO136
                                    clear HO139
                                    clear HO142
                                    clear HO146
                                    clear HO149
                                    clear HO152
                                    clear HO156
                                    clear HO159
                                    clear HO163
                                    clear HO167
                                    clear HO170
                                    clear HO174
                                    clear HB
                                    have HO129 := n0_
                                    have HO132 := n1_
                                    have HO136 := n2_
                                    have HO139 := n3_
                                    have HO142 := n4_
                                    have HO146 := n5_
                                    have HO149 := n6_
                                    have HO152 := n7_
                                    have HO156 := n8_
                                    have HO159 := n9_
                                    have HO163 := n10_
                                    have HO167 := n11_
                                    have HO170 := n12_
                                    have HO174 := n13_
                                    have HB := n14_
                                    clear n0_ n1_ n2_ n3_ n4_ n5_ n6_ n7_ n8_ n9_ n10_ n11_ n12_ n13_ n14_
                                    obtain ⟨Ao62, co62, eo62⟩ := Kd.R_slice HO136.out
                                    (first | subst eo62 | (injection eo62 with f1_ f2_ f3_; have f4_ := f1_.symm; have f5_ := f3_.symm; clear f1_ f2_ f3_; subst f4_; subst f5_))
                                    have p175 : 0 ≤ (0 : Int) := (by omega)
                                    have q175 : 0 < (t133.length : Int) := of_decide_eq_true (by first | (with_reducible assumption) | assumption)
                                    obtain ⟨ad175, e175, hx175_0⟩ := Kd.at_int (Kd.R_reads' HO136.out).2.2 0 p175 q175
                                    cases e175
                                    have qi175 : (0 < t133.length) = True := eq_true (by omega)
                                    (try rw [show ((0 : Int)).toNat = 0 from rfl] at hx175_0)
                                    (try rw [Addr.add_zero'] at hx175_0)
                                    replace p175 := eq_true p175
                                    replace q175 := eq_true q175
                                    obtain ⟨Ao63, co63, eo63⟩ := Kd.R_slice HO146.out
                                    (first | subst eo63 | (injection eo63 with f1_ f2_ f3_; have f4_ := f1_.symm; have f5_ := f3_.symm; clear f1_ f2_ f3_; subst f4_; subst f5_))
                                    have p176 : 0 ≤ (0 : Int) := (by omega)
                                    have q176 : 0 < (t143.length : Int) := of_decide_eq_true (by first | (with_reducible assumption) | assumption)
                                    obtain ⟨ad176, e176, hx176_0⟩ := Kd.at_int (Kd.R_reads' HO146.out).2.2 0 p176 q176
                                    cases e176
                                    have qi176 : (0 < t143.length) = True := eq_true (by omega)
                                    (try rw [show ((0 : Int)).toNat = 0 from rfl] at hx176_0)
                                    (try rw [Addr.add_zero'] at hx176_0)
                                    replace p176 := eq_true p176
                                    replace q176 := eq_true q176
                                    obtain ⟨Ao64, co64, eo64⟩ := Kd.R_slice HO167.out
                                    (first | subst eo64 | (injection eo64 with f1_ f2_ f3_; have f4_ := f1_.symm; have f5_ := f3_.symm; clear f1_ f2_ f3_; subst f4_; subst f5_))
                                    obtain ⟨Ao65, co65, eo65⟩ := Kd.R_slice HO174.out
                                    (first | subst eo65 | (injection eo65 with f1_ f2_ f3_; have f4_ := f1_.symm; have f5_ := f3_.symm; clear f1_ f2_ f3_; subst f4_; subst f5_))
                                    have p177 : 0 ≤ (0 : Int) := (by omega)
                                    have q177 : 0 < (t171.length : Int) := of_decide_eq_true (by first | (with_reducible assumption) | assumption)
                                    obtain ⟨ad177, e177, hx177_0⟩ := Kd.at_int (Kd.R_reads' HO174.out).2.2 0 p177 q177
                                    cases e177
                                    have qi177 : (0 < t171.length) = True := eq_true (by omega)
                                    (try rw [show ((0 : Int)).toNat = 0 from rfl] at hx177_0)
                                    (try rw [Addr.add_zero'] at hx177_0)
                                    replace p177 := eq_true p177
                                    replace q177 := eq_true q177
                                    have p178 : 0 ≤ (1 : Int) := (by omega)
                                    have q178 : 1 < (t171.length : Int) := of_decide_eq_true (by first | (with_reducible assumption) | assumption)
                                    obtain ⟨ad178, e178, hx178_0⟩ := Kd.at_int (Kd.R_reads' HO174.out).2.2 1 p178 q178
                                    obtain rfl : ad177 = ad178 := (by injection e178)
                                    (try simp only [show (1 : Int).toNat = 1 from rfl, Nat.reduceMul, Nat.reduceEqDiff, Go.Addr.add, ↓reduceIte] at hx178_0)
                                    have qi178 : (1 < t171.length) = True := eq_true (by omega)
                                    (try rw [show ((1 : Int)).toNat = 1 from rfl] at hx178_0)
                                    replace p178 := eq_true p178
                                    replace q178 := eq_true q178
                                    have p179 : 0 ≤ (2 : Int) := (by omega)
                                    have q179 : 2 < (t171.length : Int) := of_decide_eq_true (by first | (with_reducible assumption) | assumption)
                                    obtain ⟨ad179, e179, hx179_0⟩ := Kd.at_int (Kd.R_reads' HO174.out).2.2 2 p179 q179
                                    obtain rfl : ad177 = ad179 := (by injection e179)
                                    (try simp only [show (2 : Int).toNat = 2 from rfl, Nat.reduceMul, Nat.reduceEqDiff, Go.Addr.add, ↓reduceIte] at hx179_0)
                                    have qi179 : (2 < t171.length) = True := eq_true (by omega)
                                    (try rw [show ((2 : Int)).toNat = 2 from rfl] at hx179_0)
                                    replace p179 := eq_true p179
                                    replace q179 := eq_true q179
                                    refine start_ (n := 66) (S := fun w' => w'.cell? ad175 = some (.int .u8 (rd t133 0)) ∧ w'.cell? ad176 = some (.int .u8 (rd t143 0)) ∧ w'.cell? ad177 = some (.int .i64 (rd t171 0)) ∧ w'.cell? ⟨ad177.block, ad177.off + 1, none⟩ = some (.int .i64 (rd t171 1)) ∧ w'.cell? ⟨ad177.block, ad177.off + 2, none⟩ = some (.int .i64 (rd t171 2))) (ds := []) #[false, false, false, false, false, false, false, false, false, false, false, false, false, false, false, false, false, false, false, false, false, false, false, false, false, false, false, false, false, false, false, false, false, false, false, false, false, false, false, false, false, false, false, false, false, false, false, false, false, false, false, false, false, false, false, false, false, false, false, false, false, false, false, false, false, false] (by kernel_rfl) rfl rfl ⟨hx175_0, hx176_0, hx177_0, hx178_0, hx179_0⟩ (fun hHeld => ?_); refine with_tabW scrimlaw2_BitsKnown.tab9 scrimlaw2_BitsKnown.bits9 (fun HT_ HW_ => ?_)
                                    generalize w60.drew = w61 at HO129 HO132 HO136 HO139 HO142 HO146 HO149 HO152 HO156 HO159 HO163 HO167 HO170 HO174 HB hx175_0 hx176_0 hx177_0 hx178_0 hx179_0 hHeld ⊢
                                    refine pure_ (i := 0) (N := some 50) (v := ?_) (a' := ?_) #[true, false, false, false, false, false, false, false, false, false, false, false, false, false, false, false, false, false, false, false, false, false, false, false, false, false, false, false, false, false, false, false, false, false, false, false, false, false, false, false, false, false, false, false, false, false, false, false, false, false, false, false, false, false, false, false, false, false, false, false, false, false, false, false, false, false] rfl rfl (any_of HT_.out (by kernel_rfl)) (fun _ _ _ h => h) (Or.inl ⟨by rfl, ?_⟩) ?_ ?_
                                    rotate_left
                                    · intro w'
                                      go_simp
                                      with_reducible rfl
                                    rotate_left
                                    · simp only [Act.put, List.setIfInBounds_toArray, List.set_cons_zero, List.set_cons_succ, i64_w, i32_w]
                                      rfl
                                    refine pure_ (i := 1) (N := some 51) (v := ?_) (a' := ?_) #[true, true, false, false, false, false, false, false, false, false, false, false, false, false, false, false, false, false, false, false, false, false, false, false, false, false, false, false, false, false, false, false, false, false, false, false, false, false, false, false, false, false, false, false, false, false, false, false, false, false, false, false, false, false, false, false, false, false, false, false, false, false, false, false, false, false] rfl rfl (any_of HT_.out (by kernel_rfl)) (fun _ _ _ h => h) (Or.inl ⟨by rfl, ?_⟩) ?_ ?_
                                    rotate_left
                                    · intro w'
                                      go_simp
                                      with_reducible rfl
                                    rotate_left
                                    · simp only [Act.put, List.setIfInBounds_toArray, List.set_cons_zero, List.set_cons_succ, i64_w, i32_w]
                                      rfl
                                    refine pure_ (i := 2) (N := some 52) (v := ?_) (a' := ?_) #[true, true, true, false, false, false, false, false, false, false, false, false, false, false, false, false, false, false, false, false, false, false, false, false, false, false, false, false, false, false, false, false, false, false, false, false, false, false, false, false, false, false, false, false, false, false, false, false, false, false, false, false, false, false, false, false, false, false, false, false, false, false, false, false, false, false] rfl rfl (any_of HT_.out (by kernel_rfl)) (fun _ _ _ h => h) (Or.inl ⟨by rfl, ?_⟩) ?_ ?_
                                    rotate_left
                                    · intro w'
                                      go_simp
                                      with_reducible rfl
                                    rotate_left
                                    · simp only [Act.put, List.setIfInBounds_toArray, List.set_cons_zero, List.set_cons_succ, i64_w, i32_w]
                                      rfl
                                    refine pure_ (i := 3) (N := some 53) (v := ?_) (a' := ?_) #[true, true, true, true, false, false, false, false, false, false, false, false, false, false, false, false, false, false, false, false, false, false, false, false, false, false, false, false, false, false, false, false, false, false, false, false, false, false, false, false, false, false, false, false, false, false, false, false, false, false, false, false, false, false, false, false, false, false, false, false, false, false, false, false, false, false] rfl rfl (any_of HT_.out (by kernel_rfl)) (fun _ _ _ h => h) (Or.inl ⟨by rfl, ?_⟩) ?_ ?_
                                    rotate_left
                                    · intro w'
                                      go_simp
                                      with_reducible rfl
                                    rotate_left
                                    · simp only [Act.put, List.setIfInBounds_toArray, List.set_cons_zero, List.set_cons_succ, i64_w, i32_w]
                                      rfl
                                    refine pure_ (i := 4) (N := some 54) (v := ?_) (a' := ?_) #[true, true, true, true, true, false, false, false, false, false, false, false, false, false, false, false, false, false, false, false, false, false, false, false, false, false, false, false, false, false, false, false, false, false, false, false, false, false, false, false, false, false, false, false, false, false, false, false, false, false, false, false, false, false, false, false, false, false, false, false, false, false, false, false, false, false] rfl rfl (any_of HT_.out (by kernel_rfl)) (fun _ _ _ h => h) (Or.inl ⟨by rfl, ?_⟩) ?_ ?_
                                    rotate_left
                                    · intro w'
                                      go_simp
                                      with_reducible rfl
                                    rotate_left
                                    · simp only [Act.put, List.setIfInBounds_toArray, List.set_cons_zero, List.set_cons_succ, i64_w, i32_w]
                                      rfl
                                    refine pure_ (i := 5) (N := some 55) (v := ?_) (a' := ?_) #[true, true, true, true, true, true, false, false, false, false, false, false, false, false, false, false, false, false, false, false, false, false, false, false, false, false, false, false, false, false, false, false, false, false, false, false, false, false, false, false, false, false, false, false, false, false, false, false, false, false, false, false, false, false, false, false, false, false, false, false, false, false, false, false, false, false] rfl rfl (any_of HT_.out (by kernel_rfl)) (fun _ _ _ h => h) (Or.inl ⟨by rfl, ?_⟩) ?_ ?_
                                    rotate_left
                                    · intro w'
                                      go_simp
                                      with_reducible rfl
                                    rotate_left
                                    · simp only [Act.put, List.setIfInBounds_toArray, List.set_cons_zero, List.set_cons_succ, i64_w, i32_w]
                                      rfl
                                    refine pure_ (i := 9) (N := some 59) (v := ?_) (a' := ?_) #[true, true, true, true, true, true, false, false, false, true, false, false, false, false, false, false, false, false, false, false, false, false, false, false, false, false, false, false, false, false, false, false, false, false, false, false, false, false, false, false, false, false, false, false, false, false, false, false, false, false, false, false, false, false, false, false, false, false, false, false, false, false, false, false, false, false] rfl rfl (any_of HT_.out (by kernel_rfl)) (fun _ _ _ h => h) (Or.inl ⟨by rfl, ?_⟩) ?_ ?_
                                    rotate_left
                                    · intro w'
                                      go_simp
                                      with_reducible rfl
                                    rotate_left
                                    · simp only [Act.put, List.setIfInBounds_toArray, List.set_cons_zero, List.set_cons_succ, i64_w, i32_w]
                                      rfl
                                    refine pure_ (i := 10) (N := some 60) (v := ?_) (a' := ?_) #[true, true, true, true, true, true, false, false, false, true, true, false, false, false, false, false, false, false, false, false, false, false, false, false, false, false, false, false, false, false, false, false, false, false, false, false, false, false, false, false, false, false, false, false, false, false, false, false, false, false, false, false, false, false, false, false, false, false, false, false, false, false, false, false, false, false] rfl rfl (any_of HT_.out (by kernel_rfl)) (fun _ _ _ h => h) (Or.inl ⟨by rfl, ?_⟩) ?_ ?_
                                    rotate_left
                                    · intro w'
                                      go_simp
                                      with_reducible rfl
                                    rotate_left
                                    · simp only [Act.put, List.setIfInBounds_toArray, List.set_cons_zero, List.set_cons_succ, i64_w, i32_w]
                                      rfl
                                    refine pure_ (i := 11) (N := some 61) (v := ?_) (a' := ?_) #[true, true, true, true, true, true, false, false, false, true, true, true, false, false, false, false, false, false, false, false, false, false, false, false, false, false, false, false, false, false, false, false, false, false, false, false, false, false, false, false, false, false, false, false, false, false, false, false, false, false, false, false, false, false, false, false, false, false, false, false, false, false, false, false, false, false] rfl rfl (any_of HT_.out (by kernel_rfl)) (fun _ _ _ h => h) (Or.inl ⟨by rfl, ?_⟩) ?_ ?_
                                    rotate_left
                                    · intro w'
                                      go_simp
                                      with_reducible rfl
                                    rotate_left
                                    · simp only [Act.put, List.setIfInBounds_toArray, List.set_cons_zero, List.set_cons_succ, i64_w, i32_w]
                                      rfl
                                    refine pure_ (i := 12) (N := some 62) (v := ?_) (a' := ?_) #[true, true, true, true, true, true, false, false, false, true, true, true, true, false, false, false, false, false, false, false, false, false, false, false, false, false, false, false, false, false, false, false, false, false, false, false, false, false, false, false, false, false, false, false, false, false, false, false, false, false, false, false, false, false, false, false, false, false, false, false, false, false, false, false, false, false] rfl rfl (any_of HT_.out (by kernel_rfl)) (fun _ _ _ h => h) (Or.inl ⟨by rfl, ?_⟩) ?_ ?_
                                    rotate_left
                                    · intro w'
                                      go_simp
                                      with_reducible rfl
                                    rotate_left
                                    · simp only [Act.put, List.setIfInBounds_toArray, List.set_cons_zero, List.set_cons_succ, i64_w, i32_w]
                                      rfl
                                    refine pure_ (i := 13) (N := some 63) (v := ?_) (a' := ?_) #[true, true, true, true, true, true, false, false, false, true, true, true, true, true, false, false, false, false, false, false, false, false, false, false, false, false, false, false, false, false, false, false, false, false, false, false, false, false, false, false, false, false, false, false, false, false, false, false, false, false, false, false, false, false, false, false, false, false, false, false, false, false, false, false, false, false] rfl rfl (any_of HT_.out (by kernel_rfl)) (fun _ _ _ h => h) (Or.inl ⟨by rfl, ?_⟩) ?_ ?_
                                    rotate_left
                                    · intro w'
                                      go_simp
                                      with_reducible rfl
                                    rotate_left
                                    · simp only [Act.put, List.setIfInBounds_toArray, List.set_cons_zero, List.set_cons_succ, i64_w, i32_w]
                                      rfl
                                    refine pure_ (i := 14) (N := some 64) (v := ?_) (a' := ?_) #[true, true, true, true, true, true, false, false, false, true, true, true, true, true, true, false, false, false, false, false, false, false, false, false, false, false, false, false, false, false, false, false, false, false, false, false, false, false, false, false, false, false, false, false, false, false, false, false, false, false, false, false, false, false, false, false, false, false, false, false, false, false, false, false, false, false] rfl rfl (any_of HT_.out (by kernel_rfl)) (fun _ _ _ h => h) (Or.inl ⟨by rfl, ?_⟩) ?_ ?_
                                    rotate_left
                                    · intro w'
                                      go_simp
                                      with_reducible rfl
                                    rotate_left
                                    · simp only [Act.put, List.setIfInBounds_toArray, List.set_cons_zero, List.set_cons_succ, i64_w, i32_w]
                                      rfl
                                    refine pure_ (i := 18) (N := some 68) (v := ?_) (a' := ?_) #[true, true, true, true, true, true, false, false, false, true, true, true, true, true, true, false, false, false, true, false, false, false, false, false, false, false, false, false, false, false, false, false, false, false, false, false, false, false, false, false, false, false, false, false, false, false, false, false, false, false, false, false, false, false, false, false, false, false, false, false, false, false, false, false, false, false] rfl rfl (any_of HT_.out (by kernel_rfl)) (fun _ _ _ h => h) (Or.inl ⟨by rfl, ?_⟩) ?_ ?_
                                    rotate_left
                                    · intro w'
                                      go_simp
                                      with_reducible rfl
                                    rotate_left
                                    · simp only [Act.put, List.setIfInBounds_toArray, List.set_cons_zero, List.set_cons_succ, i64_w, i32_w]
                                      rfl
                                    refine pure_ (i := 19) (N := some 69) (v := ?_) (a' := ?_) #[true, true, true, true, true, true, false, false, false, true, true, true, true, true, true, false, false, false, true, true, false, false, false, false, false, false, false, false, false, false, false, false, false, false, false, false, false, false, false, false, false, false, false, false, false, false, false, false, false, false, false, false, false, false, false, false, false, false, false, false, false, false, false, false, false, false] rfl rfl (any_of HT_.out (by kernel_rfl)) (fun _ _ _ h => h) (Or.inl ⟨by rfl, ?_⟩) ?_ ?_
                                    rotate_left
                                    · intro w'
                                      go_simp
                                      with_reducible rfl
                                    rotate_left
                                    · simp only [Act.put, List.setIfInBounds_toArray, List.set_cons_zero, List.set_cons_succ, i64_w, i32_w]
                                      rfl
                                    refine pure_ (i := 20) (N := some 70) (v := ?_) (a' := ?_) #[true, true, true, true, true, true, false, false, false, true, true, true, true, true, true, false, false, false, true, true, true, false, false, false, false, false, false, false, false, false, false, false, false, false, false, false, false, false, false, false, false, false, false, false, false, false, false, false, false, false, false, false, false, false, false, false, false, false, false, false, false, false, false, false, false, false] rfl rfl (any_of HT_.out (by kernel_rfl)) (fun _ _ _ h => h) (Or.inl ⟨by rfl, ?_⟩) ?_ ?_
                                    rotate_left
                                    · intro w'
                                      go_simp
                                      with_reducible rfl
                                    rotate_left
                                    · simp only [Act.put, List.setIfInBounds_toArray, List.set_cons_zero, List.set_cons_succ, i64_w, i32_w]
                                      rfl
                                    refine pure_ (i := 21) (N := some 71) (v := ?_) (a' := ?_) #[true, true, true, true, true, true, false, false, false, true, true, true, true, true, true, false, false, false, true, true, true, true, false, false, false, false, false, false, false, false, false, false, false, false, false, false, false, false, false, false, false, false, false, false, false, false, false, false, false, false, false, false, false, false, false, false, false, false, false, false, false, false, false, false, false, false] rfl rfl (any_of HT_.out (by kernel_rfl)) (fun _ _ _ h => h) (Or.inl ⟨by rfl, ?_⟩) ?_ ?_
                                    rotate_left
                                    · intro w'
                                      go_simp
                                      with_reducible rfl
                                    rotate_left
                                    · simp only [Act.put, List.setIfInBounds_toArray, List.set_cons_zero, List.set_cons_succ, i64_w, i32_w]
                                      rfl
                                    refine pure_ (i := 22) (N := some 72) (v := ?_) (a' := ?_) #[true, true, true, true, true, true, false, false, false, true, true, true, true, true, true, false, false, false, true, true, true, true, true, false, false, false, false, false, false, false, false, false, false, false, false, false, false, false, false, false, false, false, false, false, false, false, false, false, false, false, false, false, false, false, false, false, false, false, false, false, false, false, false, false, false, false] rfl rfl (any_of HT_.out (by kernel_rfl)) (fun _ _ _ h => h) (Or.inl ⟨by rfl, ?_⟩) ?_ ?_
                                    rotate_left
                                    · intro w'
                                      go_simp
                                      with_reducible rfl
                                    rotate_left
                                    · simp only [Act.put, List.setIfInBounds_toArray, List.set_cons_zero, List.set_cons_succ, i64_w, i32_w]
                                      rfl
                                    refine pure_ (i := 23) (N := some 73) (v := ?_) (a' := ?_) #[true, true, true, true, true, true, false, false, false, true, true, true, true, true, true, false, false, false, true, true, true, true, true, true, false, false, false, false, false, false, false, false, false, false, false, false, false, false, false, false, false, false, false, false, false, false, false, false, false, false, false, false, false, false, false, false, false, false, false, false, false, false, false, false, false, false] rfl rfl (any_of HT_.out (by kernel_rfl)) (fun _ _ _ h => h) (Or.inl ⟨by rfl, ?_⟩) ?_ ?_
                                    rotate_left
                                    · intro w'
                                      go_simp
                                      with_reducible rfl
                                    rotate_left
                                    · simp only [Act.put, List.setIfInBounds_toArray, List.set_cons_zero, List.set_cons_succ, i64_w, i32_w]
                                      rfl
                                    refine pure_ (i := 24) (N := some 74) (v := ?_) (a' := ?_) #[true, true, true, true, true, true, false, false, false, true, true, true, true, true, true, false, false, false, true, true, true, true, true, true, true, false, false, false, false, false, false, false, false, false, false, false, false, false, false, false, false, false, false, false, false, false, false, false, false, false, false, false, false, false, false, false, false, false, false, false, false, false, false, false, false, false] rfl rfl (any_of HT_.out (by kernel_rfl)) (fun _ _ _ h => h) (Or.inl ⟨by rfl, ?_⟩) ?_ ?_
                                    rotate_left
                                    · intro w'
                                      go_simp
                                      with_reducible rfl
                                    rotate_left
                                    · simp only [Act.put, List.setIfInBounds_toArray, List.set_cons_zero, List.set_cons_succ, i64_w, i32_w]
                                      rfl
                                    refine pure_ (i := 25) (N := some 75) (v := ?_) (a' := ?_) #[true, true, true, true, true, true, false, false, false, true, true, true, true, true, true, false, false, false, true, true, true, true, true, true, true, true, false, false, false, false, false, false, false, false, false, false, false, false, false, false, false, false, false, false, false, false, false, false, false, false, false, false, false, false, false, false, false, false, false, false, false, false, false, false, false, false] rfl rfl (any_of HT_.out (by kernel_rfl)) (fun _ _ _ h => h) (Or.inl ⟨by rfl, ?_⟩) ?_ ?_
                                    rotate_left
                                    · intro w'
                                      go_simp
                                      with_reducible rfl
                                    rotate_left
                                    · simp only [Act.put, List.setIfInBounds_toArray, List.set_cons_zero, List.set_cons_succ, i64_w, i32_w]
                                      rfl
                                    refine pure_ (i := 26) (N := some 76) (v := ?_) (a' := ?_) #[true, true, true, true, true, true, false, false, false, true, true, true, true, true, true, false, false, false, true, true, true, true, true, true, true, true, true, false, false, false, false, false, false, false, false, false, false, false, false, false, false, false, false, false, false, false, false, false, false, false, false, false, false, false, false, false, false, false, false, false, false, false, false, false, false, false] rfl rfl (any_of HT_.out (by kernel_rfl)) (fun _ _ _ h => h) (Or.inl ⟨by rfl, ?_⟩) ?_ ?_
                                    rotate_left
                                    · intro w'
                                      go_simp
                                      with_reducible rfl
                                    rotate_left
                                    · simp only [Act.put, List.setIfInBounds_toArray, List.set_cons_zero, List.set_cons_succ, i64_w, i32_w]
                                      rfl
                                    refine pure_ (i := 27) (N := some 77) (v := ?_) (a' := ?_) #[true, true, true, true, true, true, false, false, false, true, true, true, true, true, true, false, false, false, true, true, true, true, true, true, true, true, true, true, false, false, false, false, false, false, false, false, false, false, false, false, false, false, false, false, false, false, false, false, false, false, false, false, false, false, false, false, false, false, false, false, false, false, false, false, false, false] rfl rfl (any_of HT_.out (by kernel_rfl)) (fun _ _ _ h => h) (Or.inl ⟨by rfl, ?_⟩) ?_ ?_
                                    rotate_left
                                    · intro w'
                                      go_simp
                                      with_reducible rfl
                                    rotate_left
                                    · simp only [Act.put, List.setIfInBounds_toArray, List.set_cons_zero, List.set_cons_succ, i64_w, i32_w]
                                      rfl
                                    refine pure_ (i := 28) (N := some 78) (v := ?_) (a' := ?_) #[true, true, true, true, true, true, false, false, false, true, true, true, true, true, true, false, false, false, true, true, true, true, true, true, true, true, true, true, true, false, false, false, false, false, false, false, false, false, false, false, false, false, false, false, false, false, false, false, false, false, false, false, false, false, false, false, false, false, false, false, false, false, false, false, false, false] rfl rfl (any_of HT_.out (by kernel_rfl)) (fun _ _ _ h => h) (Or.inl ⟨by rfl, ?_⟩) ?_ ?_
                                    rotate_left
                                    · intro w'
                                      go_simp
                                      with_reducible rfl
                                    rotate_left
                                    · simp only [Act.put, List.setIfInBounds_toArray, List.set_cons_zero, List.set_cons_succ, i64_w, i32_w]
                                      rfl
                                    refine pure_ (i := 29) (N := some 79) (v := ?_) (a' := ?_) #[true, true, true, true, true, true, false, false, false, true, true, true, true, true, true, false, false, false, true, true, true, true, true, true, true, true, true, true, true, true, false, false, false, false, false, false, false, false, false, false, false, false, false, false, false, false, false, false, false, false, false, false, false, false, false, false, false, false, false, false, false, false, false, false, false, false] rfl rfl (any_of HT_.out (by kernel_rfl)) (fun _ _ _ h => h) (Or.inl ⟨by rfl, ?_⟩) ?_ ?_
                                    rotate_left
                                    · intro w'
                                      go_simp
                                      with_reducible rfl
                                    rotate_left
                                    · simp only [Act.put, List.setIfInBounds_toArray, List.set_cons_zero, List.set_cons_succ, i64_w, i32_w]
                                      rfl
                                    refine pure_ (i := 30) (N := some 80) (v := ?_) (a' := ?_) #[true, true, true, true, true, true, false, false, false, true, true, true, true, true, true, false, false, false, true, true, true, true, true, true, true, true, true, true, true, true, true, false, false, false, false, false, false, false, false, false, false, false, false, false, false, false, false, false, false, false, false, false, false, false, false, false, false, false, false, false, false, false, false, false, false, false] rfl rfl (any_of HT_.out (by kernel_rfl)) (fun _ _ _ h => h) (Or.inl ⟨by rfl, ?_⟩) ?_ ?_
                                    rotate_left
                                    · intro w'
                                      go_simp
                                      with_reducible rfl
                                    rotate_left
                                    · simp only [Act.put, List.setIfInBounds_toArray, List.set_cons_zero, List.set_cons_succ, i64_w, i32_w]
                                      rfl
                                    refine pure_ (i := 31) (N := some 81) (v := ?_) (a' := ?_) #[true, true, true, true, true, true, false, false, false, true, true, true, true, true, true, false, false, false, true, true, true, true, true, true, true, true, true, true, true, true, true, true, false, false, false, false, false, false, false, false, false, false, false, false, false, false, false, false, false, false, false, false, false, false, false, false, false, false, false, false, false, false, false, false, false, false] rfl rfl (any_of HT_.out (by kernel_rfl)) (fun _ _ _ h => h) (Or.inl ⟨by rfl, ?_⟩) ?_ ?_
                                    rotate_left
                                    · intro w'
                                      go_simp
                                      with_reducible rfl
                                    rotate_left
                                    · simp only [Act.put, List.setIfInBounds_toArray, List.set_cons_zero, List.set_cons_succ, i64_w, i32_w]
                                      rfl
                                    refine pure_ (i := 32) (N := some 82) (v := ?_) (a' := ?_) #[true, true, true, true, true, true, false, false, false, true, true, true, true, true, true, false, false, false, true, true, true, true, true, true, true, true, true, true, true, true, true, true, true, false, false, false, false, false, false, false, false, false, false, false, false, false, false, false, false, false, false, false, false, false, false, false, false, false, false, false, false, false, false, false, false, false] rfl rfl (any_of HT_.out (by kernel_rfl)) (fun _ _ _ h => h) (Or.inl ⟨by rfl, ?_⟩) ?_ ?_
                                    rotate_left
                                    · intro w'
                                      go_simp
                                      with_reducible rfl
                                    rotate_left
                                    · simp only [Act.put, List.setIfInBounds_toArray, List.set_cons_zero, List.set_cons_succ, i64_w, i32_w]
                                      rfl
                                    refine pure_ (i := 33) (N := some 83) (v := ?_) (a' := ?_) #[true, true, true, true, true, true, false, false, false, true, true, true, true, true, true, false, false, false, true, true, true, true, true, true, true, true, true, true, true, true, true, true, true, true, false, false, false, false, false, false, false, false, false, false, false, false, false, false, false, false, false, false, false, false, false, false, false, false, false, false, false, false, false, false, false, false] rfl rfl (any_of HT_.out (by kernel_rfl)) (fun _ _ _ h => h) (Or.inl ⟨by rfl, ?_⟩) ?_ ?_
                                    rotate_left
                                    · intro w'
                                      go_simp
                                      with_reducible rfl
                                    rotate_left
                                    · simp only [Act.put, List.setIfInBounds_toArray, List.set_cons_zero, List.set_cons_succ, i64_w, i32_w]
                                      rfl
                                    refine pure_ (i := 34) (N := some 84) (v := ?_) (a' := ?_) #[true, true, true, true, true, true, false, false, false, true, true, true, true, true, true, false, false, false, true, true, true, true, true, true, true, true, true, true, true, true, true, true, true, true, true, false, false, false, false, false, false, false, false, false, false, false, false, false, false, false, false, false, false, false, false, false, false, false, false, false, false, false, false, false, false, false] rfl rfl (any_of HT_.out (by kernel_rfl)) (fun _ _ _ h => h) (Or.inl ⟨by rfl, ?_⟩) ?_ ?_
                                    rotate_left
                                    · intro w'
                                      go_simp
                                      with_reducible rfl
                                    rotate_left
                                    · simp only [Act.put, List.setIfInBounds_toArray, List.set_cons_zero, List.set_cons_succ, i64_w, i32_w]
                                      rfl
                                    refine pure_ (i := 35) (N := some 85) (v := ?_) (a' := ?_) #[true, true, true, true, true, true, false, false, false, true, true, true, true, true, true, false, false, false, true, true, true, true, true, true, true, true, true, true, true, true, true, true, true, true, true, true, false, false, false, false, false, false, false, false, false, false, false, false, false, false, false, false, false, false, false, false, false, false, false, false, false, false, false, false, false, false] rfl rfl (any_of HT_.out (by kernel_rfl)) (fun _ _ _ h => h) (Or.inl ⟨by rfl, ?_⟩) ?_ ?_
                                    rotate_left
                                    · intro w'
                                      go_simp
                                      with_reducible rfl
                                    rotate_left
                                    · simp only [Act.put, List.setIfInBounds_toArray, List.set_cons_zero, List.set_cons_succ, i64_w, i32_w]
                                      rfl
                                    refine take_ (i := 6) (N := some 56) (v := ?_) (a' := ?_) #[true, true, true, true, true, true, true, false, false, true, true, true, true, true, true, false, false, false, true, true, true, true, true, true, true, true, true, true, true, true, true, true, true, true, true, true, false, false, false, false, false, false, false, false, false, false, false, false, false, false, false, false, false, false, false, false, false, false, false, false, false, false, false, false, false, false] rfl rfl (take_ofW HT_.out HW_.out (by kernel_rfl)) (fun _ _ _ h => h) (Or.inl ⟨by rfl, ?_⟩) hHeld ?_ ?_
                                    rotate_left
                                    · rintro w' ⟨s0, s1, s2, s3, s4⟩
                                      go_simp
                                      with_reducible rfl
                                    rotate_left
                                    · simp only [Act.put, List.setIfInBounds_toArray, List.set_cons_zero, List.set_cons_succ, i64_w, i32_w]
                                      rfl
                                    refine pure_ (i := 7) (N := some 57) (v := ?_) (a' := ?_) #[true, true, true, true, true, true, true, true, false, true, true, true, true, true, true, false, false, false, true, true, true, true, true, true, true, true, true, true, true, true, true, true, true, true, true, true, false, false, false, false, false, false, false, false, false, false, false, false, false, false, false, false, false, false, false, false, false, false, false, false, false, false, false, false, false, false] rfl rfl (any_of HT_.out (by kernel_rfl)) (fun _ _ _ h => h) (Or.inl ⟨by rfl, ?_⟩) ?_ ?_
                                    rotate_left
                                    · intro w'
                                      go_simp
                                      with_reducible rfl
                                    rotate_left
                                    · simp only [Act.put, List.setIfInBounds_toArray, List.set_cons_zero, List.set_cons_succ, i64_w, i32_w]
                                      rfl
                                    refine pure_ (i := 8) (N := some 58) (v := ?_) (a' := ?_) #[true, true, true, true, true, true, true, true, true, true, true, true, true, true, true, false, false, false, true, true, true, true, true, true, true, true, true, true, true, true, true, true, true, true, true, true, false, false, false, false, false, false, false, false, false, false, false, false, false, false, false, false, false, false, false, false, false, false, false, false, false, false, false, false, false, false] rfl rfl (any_of HT_.out (by kernel_rfl)) (fun _ _ _ h => h) (Or.inl ⟨by rfl, ?_⟩) ?_ ?_
                                    rotate_left
                                    · intro w'
                                      go_simp
                                      with_reducible rfl
                                    rotate_left
                                    · simp only [Act.put, List.setIfInBounds_toArray, List.set_cons_zero, List.set_cons_succ, i64_w, i32_w]
                                      rfl
                                    refine take_ (i := 15) (N := some 65) (v := ?_) (a' := ?_) #[true, true, true, true, true, true, true, true, true, true, true, true, true, true, true, true, false, false, true, true, true, true, true, true, true, true, true, true, true, true, true, true, true, true, true, true, false, false, false, false, false, false, false, false, false, false, false, false, false, false, false, false, false, false, false, false, false, false, false, false, false, false, false, false, false, false] rfl rfl (take_ofW HT_.out HW_.out (by kernel_rfl)) (fun _ _ _ h => h) (Or.inl ⟨by rfl, ?_⟩) hHeld ?_ ?_
                                    rotate_left
                                    · rintro w' ⟨s0, s1, s2, s3, s4⟩
                                      go_simp
                                      with_reducible rfl
                                    rotate_left
                                    · simp only [Act.put, List.setIfInBounds_toArray, List.set_cons_zero, List.set_cons_succ, i64_w, i32_w]
                                      rfl
                                    refine pure_ (i := 16) (N := some 66) (v := ?_) (a' := ?_) #[true, true, true, true, true, true, true, true, true, true, true, true, true, true, true, true, true, false, true, true, true, true, true, true, true, true, true, true, true, true, true, true, true, true, true, true, false, false, false, false, false, false, false, false, false, false, false, false, false, false, false, false, false, false, false, false, false, false, false, false, false, false, false, false, false, false] rfl rfl (any_of HT_.out (by kernel_rfl)) (fun _ _ _ h => h) (Or.inl ⟨by rfl, ?_⟩) ?_ ?_
                                    rotate_left
                                    · intro w'
                                      go_simp
                                      with_reducible rfl
                                    rotate_left
                                    · simp only [Act.put, List.setIfInBounds_toArray, List.set_cons_zero, List.set_cons_succ, i64_w, i32_w]
                                      rfl
                                    refine pure_ (i := 17) (N := some 67) (v := ?_) (a' := ?_) #[true, true, true, true, true, true, true, true, true, true, true, true, true, true, true, true, true, true, true, true, true, true, true, true, true, true, true, true, true, true, true, true, true, true, true, true, false, false, false, false, false, false, false, false, false, false, false, false, false, false, false, false, false, false, false, false, false, false, false, false, false, false, false, false, false, false] rfl rfl (any_of HT_.out (by kernel_rfl)) (fun _ _ _ h => h) (Or.inl ⟨by rfl, ?_⟩) ?_ ?_
                                    rotate_left
                                    · intro w'
                                      go_simp
                                      with_reducible rfl
                                    rotate_left
                                    · simp only [Act.put, List.setIfInBounds_toArray, List.set_cons_zero, List.set_cons_succ, i64_w, i32_w]
                                      rfl
                                    refine take_ (i := 36) (N := some 86) (v := ?_) (a' := ?_) #[true, true, true, true, true, true, true, true, true, true, true, true, true, true, true, true, true, true, true, true, true, true, true, true, true, true, true, true, true, true, true, true, true, true, true, true, true, false, false, false, false, false, false, false, false, false, false, false, false, false, false, false, false, false, false, false, false, false, false, false, false, false, false, false, false, false] rfl rfl (take_ofW HT_.out HW_.out (by kernel_rfl)) (fun _ _ _ h => h) (Or.inl ⟨by rfl, ?_⟩) hHeld ?_ ?_
                                    rotate_left
                                    · rintro w' ⟨s0, s1, s2, s3, s4⟩
                                      go_simp
                                      with_reducible rfl
                                    rotate_left
                                    · simp only [Act.put, List.setIfInBounds_toArray, List.set_cons_zero, List.set_cons_succ, i64_w, i32_w]
                                      rfl
                                    refine pure_ (i := 37) (N := some 87) (v := ?_) (a' := ?_) #[true, true, true, true, true, true, true, true, true, true, true, true, true, true, true, true, true, true, true, true, true, true, true, true, true, true, true, true, true, true, true, true, true, true, true, true, true, true, false, false, false, false, false, false, false, false, false, false, false, false, false, false, false, false, false, false, false, false, false, false, false, false, false, false, false, false] rfl rfl (any_of HT_.out (by kernel_rfl)) (fun _ _ _ h => h) (Or.inl ⟨by rfl, ?_⟩) ?_ ?_
                                    rotate_left
                                    · intro w'
                                      go_simp
                                      with_reducible rfl
                                    rotate_left
                                    · simp only [Act.put, List.setIfInBounds_toArray, List.set_cons_zero, List.set_cons_succ, i64_w, i32_w]
                                      rfl
                                    refine pure_ (i := 38) (N := some 88) (v := ?_) (a' := ?_) #[true, true, true, true, true, true, true, true, true, true, true, true, true, true, true, true, true, true, true, true, true, true, true, true, true, true, true, true, true, true, true, true, true, true, true, true, true, true, true, false, false, false, false, false, false, false, false, false, false, false, false, false, false, false, false, false, false, false, false, false, false, false, false, false, false, false] rfl rfl (any_of HT_.out (by kernel_rfl)) (fun _ _ _ h => h) (Or.inl ⟨by rfl, ?_⟩) ?_ ?_
                                    rotate_left
                                    · intro w'
                                      go_simp
                                      with_reducible rfl
                                    rotate_left
                                    · simp only [Act.put, List.setIfInBounds_toArray, List.set_cons_zero, List.set_cons_succ, i64_w, i32_w]
                                      rfl
                                    refine pure_ (i := 39) (N := some 89) (v := ?_) (a' := ?_) #[true, true, true, true, true, true, true, true, true, true, true, true, true, true, true, true, true, true, true, true, true, true, true, true, true, true, true, true, true, true, true, true, true, true, true, true, true, true, true, true, false, false, false, false, false, false, false, false, false, false, false, false, false, false, false, false, false, false, false, false, false, false, false, false, false, false] rfl rfl (any_of HT_.out (by kernel_rfl)) (fun _ _ _ h => h) (Or.inl ⟨by rfl, ?_⟩) ?_ ?_
                                    rotate_left
                                    · intro w'
                                      go_simp
                                      with_reducible rfl
                                    rotate_left
                                    · simp only [Act.put, List.setIfInBounds_toArray, List.set_cons_zero, List.set_cons_succ, i64_w, i32_w]
                                      rfl
                                    refine pure_ (i := 40) (N := some 90) (v := ?_) (a' := ?_) #[true, true, true, true, true, true, true, true, true, true, true, true, true, true, true, true, true, true, true, true, true, true, true, true, true, true, true, true, true, true, true, true, true, true, true, true, true, true, true, true, true, false, false, false, false, false, false, false, false, false, false, false, false, false, false, false, false, false, false, false, false, false, false, false, false, false] rfl rfl (any_of HT_.out (by kernel_rfl)) (fun _ _ _ h => h) (Or.inl ⟨by rfl, ?_⟩) ?_ ?_
                                    rotate_left
                                    · intro w'
                                      go_simp
                                      with_reducible rfl
                                    rotate_left
                                    · simp only [Act.put, List.setIfInBounds_toArray, List.set_cons_zero, List.set_cons_succ, i64_w, i32_w]
                                      rfl
                                    refine pure_ (i := 41) (N := some 91) (v := ?_) (a' := ?_) #[true, true, true, true, true, true, true, true, true, true, true, true, true, true, true, true, true, true, true, true, true, true, true, true, true, true, true, true, true, true, true, true, true, true, true, true, true, true, true, true, true, true, false, false, false, false, false, false, false, false, false, false, false, false, false, false, false, false, false, false, false, false, false, false, false, false] rfl rfl (any_of HT_.out (by kernel_rfl)) (fun _ _ _ h => h) (Or.inl ⟨by rfl, ?_⟩) ?_ ?_
                                    rotate_left
                                    · intro w'
                                      go_simp
                                      with_reducible rfl
                                    rotate_left
                                    · simp only [Act.put, List.setIfInBounds_toArray, List.set_cons_zero, List.set_cons_succ, i64_w, i32_w]
                                      rfl
                                    refine take_ (i := 42) (N := some 92) (v := ?_) (a' := ?_) #[true, true, true, true, true, true, true, true, true, true, true, true, true, true, true, true, true, true, true, true, true, true, true, true, true, true, true, true, true, true, true, true, true, true, true, true, true, true, true, true, true, true, true, false, false, false, false, false, false, false, false, false, false, false, false, false, false, false, false, false, false, false, false, false, false, false] rfl rfl (take_ofW HT_.out HW_.out (by kernel_rfl)) (fun _ _ _ h => h) (Or.inl ⟨by rfl, ?_⟩) hHeld ?_ ?_
                                    rotate_left
                                    · rintro w' ⟨s0, s1, s2, s3, s4⟩
                                      go_simp
                                      with_reducible rfl
                                    rotate_left
                                    · simp only [Act.put, List.setIfInBounds_toArray, List.set_cons_zero, List.set_cons_succ, i64_w, i32_w]
                                      rfl
                                    refine pure_ (i := 43) (N := some 93) (v := ?_) (a' := ?_) #[true, true, true, true, true, true, true, true, true, true, true, true, true, true, true, true, true, true, true, true, true, true, true, true, true, true, true, true, true, true, true, true, true, true, true, true, true, true, true, true, true, true, true, true, false, false, false, false, false, false, false, false, false, false, false, false, false, false, false, false, false, false, false, false, false, false] rfl rfl (any_of HT_.out (by kernel_rfl)) (fun _ _ _ h => h) (Or.inl ⟨by rfl, ?_⟩) ?_ ?_
                                    rotate_left
                                    · intro w'
                                      go_simp
                                      with_reducible rfl
                                    rotate_left
                                    · simp only [Act.put, List.setIfInBounds_toArray, List.set_cons_zero, List.set_cons_succ, i64_w, i32_w]
                                      rfl
                                    refine pure_ (i := 44) (N := some 94) (v := ?_) (a' := ?_) #[true, true, true, true, true, true, true, true, true, true, true, true, true, true, true, true, true, true, true, true, true, true, true, true, true, true, true, true, true, true, true, true, true, true, true, true, true, true, true, true, true, true, true, true, true, false, false, false, false, false, false, false, false, false, false, false, false, false, false, false, false, false, false, false, false, false] rfl rfl (any_of HT_.out (by kernel_rfl)) (fun _ _ _ h => h) (Or.inl ⟨by rfl, ?_⟩) ?_ ?_
                                    rotate_left
                                    · intro w'
                                      go_simp
                                      with_reducible rfl
                                    rotate_left
                                    · simp only [Act.put, List.setIfInBounds_toArray, List.set_cons_zero, List.set_cons_succ, i64_w, i32_w]
                                      rfl
                                    refine pure_ (i := 45) (N := some 95) (v := ?_) (a' := ?_) #[true, true, true, true, true, true, true, true, true, true, true, true, true, true, true, true, true, true, true, true, true, true, true, true, true, true, true, true, true, true, true, true, true, true, true, true, true, true, true, true, true, true, true, true, true, true, false, false, false, false, false, false, false, false, false, false, false, false, false, false, false, false, false, false, false, false] rfl rfl (any_of HT_.out (by kernel_rfl)) (fun _ _ _ h => h) (Or.inl ⟨by rfl, ?_⟩) ?_ ?_
                                    rotate_left
                                    · intro w'
                                      go_simp
                                      with_reducible rfl
                                    rotate_left
                                    · simp only [Act.put, List.setIfInBounds_toArray, List.set_cons_zero, List.set_cons_succ, i64_w, i32_w]
                                      rfl
                                    refine pure_ (i := 46) (N := some 96) (v := ?_) (a' := ?_) #[true, true, true, true, true, true, true, true, true, true, true, true, true, true, true, true, true, true, true, true, true, true, true, true, true, true, true, true, true, true, true, true, true, true, true, true, true, true, true, true, true, true, true, true, true, true, true, false, false, false, false, false, false, false, false, false, false, false, false, false, false, false, false, false, false, false] rfl rfl (any_of HT_.out (by kernel_rfl)) (fun _ _ _ h => h) (Or.inl ⟨by rfl, ?_⟩) ?_ ?_
                                    rotate_left
                                    · intro w'
                                      go_simp
                                      with_reducible rfl
                                    rotate_left
                                    · simp only [Act.put, List.setIfInBounds_toArray, List.set_cons_zero, List.set_cons_succ, i64_w, i32_w]
                                      rfl
                                    refine pure_ (i := 47) (N := some 97) (v := ?_) (a' := ?_) #[true, true, true, true, true, true, true, true, true, true, true, true, true, true, true, true, true, true, true, true, true, true, true, true, true, true, true, true, true, true, true, true, true, true, true, true, true, true, true, true, true, true, true, true, true, true, true, true, false, false, false, false, false, false, false, false, false, false, false, false, false, false, false, false, false, false] rfl rfl (any_of HT_.out (by kernel_rfl)) (fun _ _ _ h => h) (Or.inl ⟨by rfl, ?_⟩) ?_ ?_
                                    rotate_left
                                    · intro w'
                                      go_simp
                                      with_reducible rfl
                                    rotate_left
                                    · simp only [Act.put, List.setIfInBounds_toArray, List.set_cons_zero, List.set_cons_succ, i64_w, i32_w]
                                      rfl
                                    refine take_ (i := 48) (N := some 98) (v := ?_) (a' := ?_) #[true, true, true, true, true, true, true, true, true, true, true, true, true, true, true, true, true, true, true, true, true, true, true, true, true, true, true, true, true, true, true, true, true, true, true, true, true, true, true, true, true, true, true, true, true, true, true, true, true, false, false, false, false, false, false, false, false, false, false, false, false, false, false, false, false, false] rfl rfl (take_ofW HT_.out HW_.out (by kernel_rfl)) (fun _ _ _ h => h) (Or.inl ⟨by rfl, ?_⟩) hHeld ?_ ?_
                                    rotate_left
                                    · rintro w' ⟨s0, s1, s2, s3, s4⟩
                                      go_simp
                                      with_reducible rfl
                                    rotate_left
                                    · simp only [Act.put, List.setIfInBounds_toArray, List.set_cons_zero, List.set_cons_succ, i64_w, i32_w]
                                      rfl
                                    refine pure_ (i := 49) (N := some 99) (v := ?_) (a' := ?_) #[true, true, true, true, true, true, true, true, true, true, true, true, true, true, true, true, true, true, true, true, true, true, true, true, true, true, true, true, true, true, true, true, true, true, true, true, true, true, true, true, true, true, true, true, true, true, true, true, true, true, false, false, false, false, false, false, false, false, false, false, false, false, false, false, false, false] rfl rfl (any_of HT_.out (by kernel_rfl)) (fun _ _ _ h => h) (Or.inl ⟨by rfl, ?_⟩) ?_ ?_
                                    rotate_left
                                    · intro w'
                                      go_simp
                                      with_reducible rfl
                                    rotate_left
                                    · simp only [Act.put, List.setIfInBounds_toArray, List.set_cons_zero, List.set_cons_succ, i64_w, i32_w]
                                      rfl
                                    refine pure_ (i := 50) (N := some 100) (v := ?_) (a' := ?_) #[true, true, true, true, true, true, true, true, true, true, true, true, true, true, true, true, true, true, true, true, true, true, true, true, true, true, true, true, true, true, true, true, true, true, true, true, true, true, true, true, true, true, true, true, true, true, true, true, true, true, true, false, false, false, false, false, false, false, false, false, false, false, false, false, false, false] rfl rfl (any_of HT_.out (by kernel_rfl)) (fun _ _ _ h => h) (Or.inl ⟨by rfl, ?_⟩) ?_ ?_
                                    rotate_left
                                    · intro w'
                                      go_simp
                                      with_reducible rfl
                                    rotate_left
                                    · simp only [Act.put, List.setIfInBounds_toArray, List.set_cons_zero, List.set_cons_succ, i64_w, i32_w]
                                      rfl
                                    refine one_ (i := 51) (N := some 101) #[true, true, true, true, true, true, true, true, true, true, true, true, true, true, true, true, true, true, true, true, true, true, true, true, true, true, true, true, true, true, true, true, true, true, true, true, true, true, true, true, true, true, true, true, true, true, true, true, true, true, true, true, false, false, false, false, false, false, false, false, false, false, false, false, false, false] rfl rfl (one_of HT_.out (by kernel_rfl)) (by decide) (fun K hK => ?_)
                                    refine Kd.R_lit_step (Kd.int .u8) _ 5 ?hg (N := 101) ?hd (xs := ([1] : List Int)) (inner := [.int .u8 1]) (ok := fun _ => True) (okp := fun _ => True) ?hr ?hp (fun _ hk => hk) trivial (Below.refl _ _) (Nat.le_refl _) (by simp) ?_; (case hd => rfl); (case hg => rfl); (case hr => first | (go_simp; done) | (go_simp; rfl)); (case hp => exact (Reps.one (show Kd.M (Kd.int .u8) _ _ _ 1 [.int .u8 1] from rfl) (Reps.none _ _)))
                                    intro v181 w66 ho67 hb hg_ hnew_
                                    have HS0_ := (hb.cell (World.block_lt_of_cell? _ _ (hHeld.1))).trans (hHeld.1)
                                    have HS1_ := (hb.cell (World.block_lt_of_cell? _ _ (hHeld.2.1))).trans (hHeld.2.1)
                                    have HS2_ := (hb.cell (World.block_lt_of_cell? _ _ (hHeld.2.2.1))).trans (hHeld.2.2.1)
                                    have HS3_ := (hb.cell (World.block_lt_of_cell? _ _ (hHeld.2.2.2.1))).trans (hHeld.2.2.2.1)
                                    have HS4_ := (hb.cell (World.block_lt_of_cell? _ _ (hHeld.2.2.2.2))).trans (hHeld.2.2.2.2)
                                    clear hg_ hnew_
                                    (first | rw [← Ny180.out] at ho67 | (simp only [Int.reduceToNat] at ho67; rw [← Ny180.out] at ho67))
                                    have n0_ := Aside0.mk (Kd.R_elder' (by (with_reducible repeat (first | apply Kd.R_alloc | apply Kd.R_drewN | apply Kd.R_drew)); exact HO129.out) (Kd.R_base ho67) hb)
                                    have n1_ := Aside0.mk (Kd.R_below (by (with_reducible repeat (first | apply Kd.R_alloc | apply Kd.R_drewN | apply Kd.R_drew)); exact HO132.out) hb)
                                    have n2_ := Aside0.mk (Kd.R_elder' (by (with_reducible repeat (first | apply Kd.R_alloc | apply Kd.R_drewN | apply Kd.R_drew)); exact HO136.out) (Kd.R_base ho67) hb)
                                    have n3_ := Aside0.mk (Kd.R_elder' (by (with_reducible repeat (first | apply Kd.R_alloc | apply Kd.R_drewN | apply Kd.R_drew)); exact HO139.out) (Kd.R_base ho67) hb)
                                    have n4_ := Aside0.mk (Kd.R_below (by (with_reducible repeat (first | apply Kd.R_alloc | apply Kd.R_drewN | apply Kd.R_drew)); exact HO142.out) hb)
                                    have n5_ := Aside0.mk (Kd.R_elder' (by (with_reducible repeat (first | apply Kd.R_alloc | apply Kd.R_drewN | apply Kd.R_drew)); exact HO146.out) (Kd.R_base ho67) hb)
                                    have n6_ := Aside0.mk (Kd.R_elder' (by (with_reducible repeat (first | apply Kd.R_alloc | apply Kd.R_drewN | apply Kd.R_drew)); exact HO149.out) (Kd.R_base ho67) hb)
                                    have n7_ := Aside0.mk (Kd.R_below (by (with_reducible repeat (first | apply Kd.R_alloc | apply Kd.R_drewN | apply Kd.R_drew)); exact HO152.out) hb)
                                    have n8_ := Aside0.mk (Kd.R_elder' (by (with_reducible repeat (first | apply Kd.R_alloc | apply Kd.R_drewN | apply Kd.R_drew)); exact HO156.out) (Kd.R_base ho67) hb)
                                    have n9_ := Aside0.mk (Kd.R_below (by (with_reducible repeat (first | apply Kd.R_alloc | apply Kd.R_drewN | apply Kd.R_drew)); exact HO159.out) hb)
                                    have n10_ := Aside0.mk (Kd.R_elder' (by (with_reducible repeat (first | apply Kd.R_alloc | apply Kd.R_drewN | apply Kd.R_drew)); exact HO163.out) (Kd.R_base ho67) hb)
                                    have n11_ := Aside0.mk (Kd.R_elder' (by (with_reducible repeat (first | apply Kd.R_alloc | apply Kd.R_drewN | apply Kd.R_drew)); exact HO167.out) (Kd.R_base ho67) hb)
                                    have n12_ := Aside0.mk (Kd.R_below (by (with_reducible repeat (first | apply Kd.R_alloc | apply Kd.R_drewN | apply Kd.R_drew)); exact HO170.out) hb)
                                    have n13_ := Aside0.mk (Kd.R_below (by (with_reducible repeat (first | apply Kd.R_alloc | apply Kd.R_drewN | apply Kd.R_drew)); exact HO174.out) hb)
                                    have n14_ := Aside0.mk (Kd.R_lower (Kd.R_new' (Kd.R_new' (Kd.R_new' (Kd.R_new' (Kd.R_new' (Kd.R_new' (Kd.R_new' (Kd.R_new' ho67 (Kd.R_lt (by (with_reducible repeat (first | apply Kd.R_alloc | apply Kd.R_drewN | apply Kd.R_drew)); exact HO129.out))) (Kd.R_lt (by (with_reducible repeat (first | apply Kd.R_alloc | apply Kd.R_drewN | apply Kd.R_drew)); exact HO136.out))) (Kd.R_lt (by (with_reducible repeat (first | apply Kd.R_alloc | apply Kd.R_drewN | apply Kd.R_drew)); exact HO139.out))) (Kd.R_lt (by (with_reducible repeat (first | apply Kd.R_alloc | apply Kd.R_drewN | apply Kd.R_drew)); exact HO146.out))) (Kd.R_lt (by (with_reducible repeat (first | apply Kd.R_alloc | apply Kd.R_drewN | apply Kd.R_drew)); exact HO149.out))) (Kd.R_lt (by (with_reducible repeat (first | apply Kd.R_alloc | apply Kd.R_drewN | apply Kd.R_drew)); exact HO156.out))) (Kd.R_lt (by (with_reducible repeat (first | apply Kd.R_alloc | apply Kd.R_drewN | apply Kd.R_drew)); exact HO163.out))) (Kd.R_lt (by (with_reducible repeat (first | apply Kd.R_alloc | apply Kd.R_drewN | apply Kd.R_drew)); exact HO167.out))) (below_size (by repeat (first | (with_reducible first | exact HB.out | apply below_alloc | apply pw_below_drewN | apply below_drew1) | exact HB.out))))
                                    have n15_ := Aside0.mk (below_step (by repeat (first | (with_reducible first | exact HB.out | apply below_alloc | apply pw_below_drewN | apply below_drew1) | exact HB.out)) hb)
                                    clear HO129
                                    clear HO132
                                    clear HO136
                                    clear HO139
                                    clear HO142
                                    clear HO146
                                    clear HO149
                                    clear HO152
                                    clear HO156
                                    clear HO159
                                    clear HO163
                                    clear HO167
                                    clear HO170
                                    clear HO174
                                    clear HB
                                    have HO129 := n0_
                                    have HO132 := n1_
                                    have HO136 := n2_
                                    have HO139 := n3_
                                    have HO142 := n4_
                                    have HO146 := n5_
                                    have HO149 := n6_
                                    have HO152 := n7_
                                    have HO156 := n8_
                                    have HO159 := n9_
                                    have HO163 := n10_
                                    have HO167 := n11_
                                    have HO170 := n12_
                                    have HO174 := n13_
                                    have HO182 := n14_
                                    have HB := n15_
                                    clear n0_ n1_ n2_ n3_ n4_ n5_ n6_ n7_ n8_ n9_ n10_ n11_ n12_ n13_ n14_ n15_
                                    clear hb ho67
                                    obtain ⟨Ao68, co68, eo68⟩ := Kd.R_slice HO182.out
                                    (first | subst eo68 | (injection eo68 with f1_ f2_ f3_; have f4_ := f1_.symm; have f5_ := f3_.symm; clear f1_ f2_ f3_; subst f4_; subst f5_))
                                    refine hK.out _ _ ⟨HS0_, HS1_, HS2_, HS3_, HS4_⟩ (fun hHeld => ?_)
                                    clear hK K
                                    refine norm_ (a' := ?_) ?_ ?_
                                    rotate_left
                                    · show Act.put _ (some 101) _ = _
                                      simp only [Act.put, List.setIfInBounds_toArray, List.set_cons_zero, List.set_cons_succ, i64_w, i32_w]
                                      rfl
                                    refine one_ (i := 52) (N := some 102) #[true, true, true, true, true, true, true, true, true, true, true, true, true, true, true, true, true, true, true, true, true, true, true, true, true, true, true, true, true, true, true, true, true, true, true, true, true, true, true, true, true, true, true, true, true, true, true, true, true, true, true, true, true, false, false, false, false, false, false, false, false, false, false, false, false, false] rfl rfl (one_of HT_.out (by kernel_rfl)) (by decide) (fun K hK => ?_)
                                    refine goes_ Try.func12 (by kernel_rfl) rfl #[.slice Ao68 y180.length co68, .int .i64 8] (by rfl) rfl rfl (by (try simp only [List.map_toArray, List.map_cons, List.map_nil]); first | done | rfl | (simp only [List.length_drop, List.length_take]; rfl)) ?_
                                    with_reducible refine (bits_Bit.calls _ _ y180 8 t183 _ ?side1 ?side2 A22.out).mono ?_
                                    (case side1 => repeat (first | exact (Kd.R_reads' HO182.out).2.2 | (with_reducible refine Kd.C_alloc ?_ _) | (with_reducible refine Kd.C_drewN ?_ _) | (with_reducible refine Kd.C_drew ?_)))
                                    (case side2 => exact (Kd.R_reads' HO182.out).2.1)
                                    rintro e w' ⟨rfl, ⟨nd, rfl⟩⟩
                                    refine ⟨_, rfl, ?_⟩
                                    refine hK.out _ _ ⟨hHeld.1, hHeld.2.1, hHeld.2.2.1, hHeld.2.2.2.1, hHeld.2.2.2.2⟩ (fun hHeld => ?_)
                                    clear hK K
                                    refine norm_ (a' := ?_) ?_ ?_
                                    rotate_left
                                    · show Act.put _ (some 102) _ = _
                                      simp only [Act.put, List.setIfInBounds_toArray, List.set_cons_zero, List.set_cons_succ, i64_w, i32_w]
                                      rfl
                                    refine pure_ (i := 53) (N := some 103) (v := ?_) (a' := ?_) #[true, true, true, true, true, true, true, true, true, true, true, true, true, true, true, true, true, true, true, true, true, true, true, true, true, true, true, true, true, true, true, true, true, true, true, true, true, true, true, true, true, true, true, true, true, true, true, true, true, true, true, true, true, true, false, false, false, false, false, false, false, false, false, false, false, false] rfl rfl (any_of HT_.out (by kernel_rfl)) (fun _ _ _ h => h) (Or.inl ⟨by rfl, ?_⟩) ?_ ?_
                                    rotate_left
                                    · intro w'
                                      go_simp
                                      with_reducible rfl
                                    rotate_left
                                    · simp only [Act.put, List.setIfInBounds_toArray, List.set_cons_zero, List.set_cons_succ, i64_w, i32_w]
                                      rfl
                                    refine pure_ (i := 54) (N := some 104) (v := ?_) (a' := ?_) #[true, true, true, true, true, true, true, true, true, true, true, true, true, true, true, true, true, true, true, true, true, true, true, true, true, true, true, true, true, true, true, true, true, true, true, true, true, true, true, true, true, true, true, true, true, true, true, true, true, true, true, true, true, true, true, false, false, false, false, false, false, false, false, false, false, false] rfl rfl (any_of HT_.out (by kernel_rfl)) (fun _ _ _ h => h) (Or.inl ⟨by rfl, ?_⟩) ?_ ?_
                                    rotate_left
                                    · intro w'
                                      go_simp
                                      with_reducible rfl
                                    rotate_left
                                    · simp only [Act.put, List.setIfInBounds_toArray, List.set_cons_zero, List.set_cons_succ, i64_w, i32_w]
                                      rfl
                                    refine one_ (i := 55) (N := some 105) #[true, true, true, true, true, true, true, true, true, true, true, true, true, true, true, true, true, true, true, true, true, true, true, true, true, true, true, true, true, true, true, true, true, true, true, true, true, true, true, true, true, true, true, true, true, true, true, true, true, true, true, true, true, true, true, true, false, false, false, false, false, false, false, false, false, false] rfl rfl (one_of HT_.out (by kernel_rfl)) (by decide) (fun K hK => ?_)
                                    refine Kd.R_lit_step (Kd.int .u8) _ 5 ?hg (N := 105) ?hd (xs := ([1] : List Int)) (inner := [.int .u8 1]) (ok := fun _ => True) (okp := fun _ => True) ?hr ?hp (fun _ hk => hk) trivial (Below.refl _ _) (Nat.le_refl _) (by simp) ?_; (case hd => rfl); (case hg => rfl); (case hr => first | (go_simp; done) | (go_simp; rfl)); (case hp => exact (Reps.one (show Kd.M (Kd.int .u8) _ _ _ 1 [.int .u8 1] from rfl) (Reps.none _ _)))
                                    intro v185 w69 ho70 hb hg_ hnew_
                                    have HS0_ := (hb.cell (World.block_lt_of_cell? _ _ (hHeld.1))).trans (hHeld.1)
                                    have HS1_ := (hb.cell (World.block_lt_of_cell? _ _ (hHeld.2.1))).trans (hHeld.2.1)
                                    have HS2_ := (hb.cell (World.block_lt_of_cell? _ _ (hHeld.2.2.1))).trans (hHeld.2.2.1)
                                    have HS3_ := (hb.cell (World.block_lt_of_cell? _ _ (hHeld.2.2.2.1))).trans (hHeld.2.2.2.1)
                                    have HS4_ := (hb.cell (World.block_lt_of_cell? _ _ (hHeld.2.2.2.2))).trans (hHeld.2.2.2.2)
                                    clear hg_ hnew_
                                    (first | rw [← Ny184.out] at ho70 | (simp only [Int.reduceToNat] at ho70; rw [← Ny184.out] at ho70))
                                    have n0_ := Aside0.mk (Kd.R_elder' (by (with_reducible repeat (first | apply Kd.R_alloc | apply Kd.R_drewN | apply Kd.R_drew)); exact HO129.out) (Kd.R_base ho70) hb)
                                    have n1_ := Aside0.mk (Kd.R_below (by (with_reducible repeat (first | apply Kd.R_alloc | apply Kd.R_drewN | apply Kd.R_drew)); exact HO132.out) hb)
                                    have n2_ := Aside0.mk (Kd.R_elder' (by (with_reducible repeat (first | apply Kd.R_alloc | apply Kd.R_drewN | apply Kd.R_drew)); exact HO136.out) (Kd.R_base ho70) hb)
                                    have n3_ := Aside0.mk (Kd.R_elder' (by (with_reducible repeat (first | apply Kd.R_alloc | apply Kd.R_drewN | apply Kd.R_drew)); exact HO139.out) (Kd.R_base ho70) hb)
                                    have n4_ := Aside0.mk (Kd.R_below (by (with_reducible repeat (first | apply Kd.R_alloc | apply Kd.R_drewN | apply Kd.R_drew)); exact HO142.out) hb)
                                    have n5_ := Aside0.mk (Kd.R_elder' (by (with_reducible repeat (first | apply Kd.R_alloc | apply Kd.R_drewN | apply Kd.R_drew)); exact HO146.out) (Kd.R_base ho70) hb)
                                    have n6_ := Aside0.mk (Kd.R_elder' (by (with_reducible repeat (first | apply Kd.R_alloc | apply Kd.R_drewN | apply Kd.R_drew)); exact HO149.out) (Kd.R_base ho70) hb)
                                    have n7_ := Aside0.mk (Kd.R_below (by (with_reducible repeat (first | apply Kd.R_alloc | apply Kd.R_drewN | apply Kd.R_drew)); exact HO152.out) hb)
                                    have n8_ := Aside0.mk (Kd.R_elder' (by (with_reducible repeat (first | apply Kd.R_alloc | apply Kd.R_drewN | apply Kd.R_drew)); exact HO156.out) (Kd.R_base ho70) hb)
                                    have n9_ := Aside0.mk (Kd.R_below (by (with_reducible repeat (first | apply Kd.R_alloc | apply Kd.R_drewN | apply Kd.R_drew)); exact HO159.out) hb)
                                    have n10_ := Aside0.mk (Kd.R_elder' (by (with_reducible repeat (first | apply Kd.R_alloc | apply Kd.R_drewN | apply Kd.R_drew)); exact HO163.out) (Kd.R_base ho70) hb)
                                    have n11_ := Aside0.mk (Kd.R_elder' (by (with_reducible repeat (first | apply Kd.R_alloc | apply Kd.R_drewN | apply Kd.R_drew)); exact HO167.out) (Kd.R_base ho70) hb)
                                    have n12_ := Aside0.mk (Kd.R_below (by (with_reducible repeat (first | apply Kd.R_alloc | apply Kd.R_drewN | apply Kd.R_drew)); exact HO170.out) hb)
                                    have n13_ := Aside0.mk (Kd.R_below (by (with_reducible repeat (first | apply Kd.R_alloc | apply Kd.R_drewN | apply Kd.R_drew)); exact HO174.out) hb)
                                    have n14_ := Aside0.mk (Kd.R_elder' (by (with_reducible repeat (first | apply Kd.R_alloc | apply Kd.R_drewN | apply Kd.R_drew)); exact HO182.out) (Kd.R_base ho70) hb)
                                    have n15_ := Aside0.mk (Kd.R_lower (Kd.R_new' (Kd.R_new' (Kd.R_new' (Kd.R_new' (Kd.R_new' (Kd.R_new' (Kd.R_new' (Kd.R_new' (Kd.R_new' ho70 (Kd.R_lt (by (with_reducible repeat (first | apply Kd.R_alloc | apply Kd.R_drewN | apply Kd.R_drew)); exact HO129.out))) (Kd.R_lt (by (with_reducible repeat (first | apply Kd.R_alloc | apply Kd.R_drewN | apply Kd.R_drew)); exact HO136.out))) (Kd.R_lt (by (with_reducible repeat (first | apply Kd.R_alloc | apply Kd.R_drewN | apply Kd.R_drew)); exact HO139.out))) (Kd.R_lt (by (with_reducible repeat (first | apply Kd.R_alloc | apply Kd.R_drewN | apply Kd.R_drew)); exact HO146.out))) (Kd.R_lt (by (with_reducible repeat (first | apply Kd.R_alloc | apply Kd.R_drewN | apply Kd.R_drew)); exact HO149.out))) (Kd.R_lt (by (with_reducible repeat (first | apply Kd.R_alloc | apply Kd.R_drewN | apply Kd.R_drew)); exact HO156.out))) (Kd.R_lt (by (with_reducible repeat (first | apply Kd.R_alloc | apply Kd.R_drewN | apply Kd.R_drew)); exact HO163.out))) (Kd.R_lt (by (with_reducible repeat (first | apply Kd.R_alloc | apply Kd.R_drewN | apply Kd.R_drew)); exact HO167.out))) (Kd.R_lt (by (with_reducible repeat (first | apply Kd.R_alloc | apply Kd.R_drewN | apply Kd.R_drew)); exact HO182.out))) (below_size (by repeat (first | (with_reducible first | exact HB.out | apply below_alloc | apply pw_below_drewN | apply below_drew1) | exact HB.out))))
                                    have n16_ := Aside0.mk (below_step (by repeat (first | (with_reducible first | exact HB.out | apply below_alloc | apply pw_below_drewN | apply below_drew1) | exact HB.out)) hb)
                                    clear HO129
                                    clear HO132
                                    clear HO136
                                    clear HO139
                                    clear HO142
                                    clear HO146
                                    clear HO149
                                    clear HO152
                                    clear HO156
                                    clear HO159
                                    clear HO163
                                    clear HO167
                                    clear HO170
                                    clear HO174
                                    clear HO182
                                    clear HB
                                    have HO129 := n0_
                                    have HO132 := n1_
                                    have HO136 := n2_
                                    have HO139 := n3_
                                    have HO142 := n4_
                                    have HO146 := n5_
                                    have HO149 := n6_
                                    have HO152 := n7_
                                    have HO156 := n8_
                                    have HO159 := n9_
                                    have HO163 := n10_
                                    have HO167 := n11_
                                    have HO170 := n12_
                                    have HO174 := n13_
                                    have HO182 := n14_
                                    have HO186 := n15_
                                    have HB := n16_
                                    clear n0_ n1_ n2_ n3_ n4_ n5_ n6_ n7_ n8_ n9_ n10_ n11_ n12_ n13_ n14_ n15_ n16_
                                    clear hb ho70
                                    obtain ⟨Ao71, co71, eo71⟩ := Kd.R_slice HO186.out
                                    (first | subst eo71 | (injection eo71 with f1_ f2_ f3_; have f4_ := f1_.symm; have f5_ := f3_.symm; clear f1_ f2_ f3_; subst f4_; subst f5_))
                                    refine hK.out _ _ ⟨HS0_, HS1_, HS2_, HS3_, HS4_⟩ (fun hHeld => ?_)
                                    clear hK K
                                    refine norm_ (a' := ?_) ?_ ?_
                                    rotate_left
                                    · show Act.put _ (some 105) _ = _
                                      simp only [Act.put, List.setIfInBounds_toArray, List.set_cons_zero, List.set_cons_succ, i64_w, i32_w]
                                      rfl
                                    refine one_ (i := 56) (N := some 106) #[true, true, true, true, true, true, true, true, true, true, true, true, true, true, true, true, true, true, true, true, true, true, true, true, true, true, true, true, true, true, true, true, true, true, true, true, true, true, true, true, true, true, true, true, true, true, true, true, true, true, true, true, true, true, true, true, true, false, false, false, false, false, false, false, false, false] rfl rfl (one_of HT_.out (by kernel_rfl)) (by decide) (fun K hK => ?_)
                                    refine goes_ Try.func12 (by kernel_rfl) rfl #[.slice Ao71 y184.length co71, .int .i64 7] (by rfl) rfl rfl (by (try simp only [List.map_toArray, List.map_cons, List.map_nil]); first | done | rfl | (simp only [List.length_drop, List.length_take]; rfl)) ?_
                                    with_reducible refine (bits_Bit.calls _ _ y184 7 t187 _ ?side1 ?side2 A24.out).mono ?_
                                    (case side1 => repeat (first | exact (Kd.R_reads' HO186.out).2.2 | (with_reducible refine Kd.C_alloc ?_ _) | (with_reducible refine Kd.C_drewN ?_ _) | (with_reducible refine Kd.C_drew ?_)))
                                    (case side2 => exact (Kd.R_reads' HO186.out).2.1)
                                    rintro e w' ⟨rfl, ⟨nd, rfl⟩⟩
                                    refine ⟨_, rfl, ?_⟩
                                    refine hK.out _ _ ⟨hHeld.1, hHeld.2.1, hHeld.2.2.1, hHeld.2.2.2.1, hHeld.2.2.2.2⟩ (fun hHeld => ?_)
                                    clear hK K
                                    refine norm_ (a' := ?_) ?_ ?_
                                    rotate_left
                                    · show Act.put _ (some 106) _ = _
                                      simp only [Act.put, List.setIfInBounds_toArray, List.set_cons_zero, List.set_cons_succ, i64_w, i32_w]
                                      rfl
                                    refine pure_ (i := 57) (N := some 107) (v := ?_) (a' := ?_) #[true, true, true, true, true, true, true, true, true, true, true, true, true, true, true, true, true, true, true, true, true, true, true, true, true, true, true, true, true, true, true, true, true, true, true, true, true, true, true, true, true, true, true, true, true, true, true, true, true, true, true, true, true, true, true, true, true, true, false, false, false, false, false, false, false, false] rfl rfl (any_of HT_.out (by kernel_rfl)) (fun _ _ _ h => h) (Or.inl ⟨by rfl, ?_⟩) ?_ ?_
                                    rotate_left
                                    · intro w'
                                      go_simp
                                      with_reducible rfl
                                    rotate_left
                                    · simp only [Act.put, List.setIfInBounds_toArray, List.set_cons_zero, List.set_cons_succ, i64_w, i32_w]
                                      rfl
                                    refine pure_ (i := 58) (N := some 108) (v := ?_) (a' := ?_) #[true, true, true, true, true, true, true, true, true, true, true, true, true, true, true, true, true, true, true, true, true, true, true, true, true, true, true, true, true, true, true, true, true, true, true, true, true, true, true, true, true, true, true, true, true, true, true, true, true, true, true, true, true, true, true, true, true, true, true, false, false, false, false, false, false, false] rfl rfl (any_of HT_.out (by kernel_rfl)) (fun _ _ _ h => h) (Or.inl ⟨by rfl, ?_⟩) ?_ ?_
                                    rotate_left
                                    · intro w'
                                      go_simp
                                      with_reducible rfl
                                    rotate_left
                                    · simp only [Act.put, List.setIfInBounds_toArray, List.set_cons_zero, List.set_cons_succ, i64_w, i32_w]
                                      rfl
                                    refine pure_ (i := 59) (N := some 109) (v := ?_) (a' := ?_) #[true, true, true, true, true, true, true, true, true, true, true, true, true, true, true, true, true, true, true, true, true, true, true, true, true, true, true, true, true, true, true, true, true, true, true, true, true, true, true, true, true, true, true, true, true, true, true, true, true, true, true, true, true, true, true, true, true, true, true, true, false, false, false, false, false, false] rfl rfl (any_of HT_.out (by kernel_rfl)) (fun _ _ _ h => h) (Or.inl ⟨by rfl, ?_⟩) ?_ ?_
                                    rotate_left
                                    · intro w'
                                      go_simp
                                      with_reducible rfl
                                    rotate_left
                                    · simp only [Act.put, List.setIfInBounds_toArray, List.set_cons_zero, List.set_cons_succ, i64_w, i32_w]
                                      rfl
                                    refine one_ (i := 60) (N := some 110) #[true, true, true, true, true, true, true, true, true, true, true, true, true, true, true, true, true, true, true, true, true, true, true, true, true, true, true, true, true, true, true, true, true, true, true, true, true, true, true, true, true, true, true, true, true, true, true, true, true, true, true, true, true, true, true, true, true, true, true, true, true, false, false, false, false, false] rfl rfl (one_of HT_.out (by kernel_rfl)) (by decide) (fun K hK => ?_)
                                    refine Kd.R_lit_step (Kd.int .u8) _ 5 ?hg (N := 110) ?hd (xs := ([0, 128] : List Int)) (inner := [.int .u8 0, .int .u8 128]) (ok := fun _ => True) (okp := fun _ => True) ?hr ?hp (fun _ hk => hk) trivial (Below.refl _ _) (Nat.le_refl _) (by simp) ?_; (case hd => rfl); (case hg => rfl); (case hr => first | (go_simp; done) | (go_simp; rfl)); (case hp => exact (Reps.one (show Kd.M (Kd.int .u8) _ _ _ 0 [.int .u8 0] from rfl) (Reps.one (show Kd.M (Kd.int .u8) _ _ _ 128 [.int .u8 128] from rfl) (Reps.none _ _))))
                                    intro v189 w72 ho73 hb hg_ hnew_
                                    have HS0_ := (hb.cell (World.block_lt_of_cell? _ _ (hHeld.1))).trans (hHeld.1)
                                    have HS1_ := (hb.cell (World.block_lt_of_cell? _ _ (hHeld.2.1))).trans (hHeld.2.1)
                                    have HS2_ := (hb.cell (World.block_lt_of_cell? _ _ (hHeld.2.2.1))).trans (hHeld.2.2.1)
                                    have HS3_ := (hb.cell (World.block_lt_of_cell? _ _ (hHeld.2.2.2.1))).trans (hHeld.2.2.2.1)
                                    have HS4_ := (hb.cell (World.block_lt_of_cell? _ _ (hHeld.2.2.2.2))).trans (hHeld.2.2.2.2)
                                    clear hg_ hnew_
                                    (first | rw [← Ny188.out] at ho73 | (simp only [Int.reduceToNat] at ho73; rw [← Ny188.out] at ho73))
                                    have n0_ := Aside0.mk (Kd.R_elder' (by (with_reducible repeat (first | apply Kd.R_alloc | apply Kd.R_drewN | apply Kd.R_drew)); exact HO129.out) (Kd.R_base ho73) hb)
                                    have n1_ := Aside0.mk (Kd.R_below (by (with_reducible repeat (first | apply Kd.R_alloc | apply Kd.R_drewN | apply Kd.R_drew)); exact HO132.out) hb)
                                    have n2_ := Aside0.mk (Kd.R_elder' (by (with_reducible repeat (first | apply Kd.R_alloc | apply Kd.R_drewN | apply Kd.R_drew)); exact HO136.out) (Kd.R_base ho73) hb)
                                    have n3_ := Aside0.mk (Kd.R_elder' (by (with_reducible repeat (first | apply Kd.R_alloc | apply Kd.R_drewN | apply Kd.R_drew)); exact HO139.out) (Kd.R_base ho73) hb)
                                    have n4_ := Aside0.mk (Kd.R_below (by (with_reducible repeat (first | apply Kd.R_alloc | apply Kd.R_drewN | apply Kd.R_drew)); exact HO142.out) hb)
                                    have n5_ := Aside0.mk (Kd.R_elder' (by (with_reducible repeat (first | apply Kd.R_alloc | apply Kd.R_drewN | apply Kd.R_drew)); exact HO146.out) (Kd.R_base ho73) hb)
                                    have n6_ := Aside0.mk (Kd.R_elder' (by (with_reducible repeat (first | apply Kd.R_alloc | apply Kd.R_drewN | apply Kd.R_drew)); exact HO149.out) (Kd.R_base ho73) hb)
                                    have n7_ := Aside0.mk (Kd.R_below (by (with_reducible repeat (first | apply Kd.R_alloc | apply Kd.R_drewN | apply Kd.R_drew)); exact HO152.out) hb)
                                    have n8_ := Aside0.mk (Kd.R_elder' (by (with_reducible repeat (first | apply Kd.R_alloc | apply Kd.R_drewN | apply Kd.R_drew)); exact HO156.out) (Kd.R_base ho73) hb)
                                    have n9_ := Aside0.mk (Kd.R_below (by (with_reducible repeat (first | apply Kd.R_alloc | apply Kd.R_drewN | apply Kd.R_drew)); exact HO159.out) hb)
                                    have n10_ := Aside0.mk (Kd.R_elder' (by (with_reducible repeat (first | apply Kd.R_alloc | apply Kd.R_drewN | apply Kd.R_drew)); exact HO163.out) (Kd.R_base ho73) hb)
                                    have n11_ := Aside0.mk (Kd.R_elder' (by (with_reducible repeat (first | apply Kd.R_alloc | apply Kd.R_drewN | apply Kd.R_drew)); exact HO167.out) (Kd.R_base ho73) hb)
                                    have n12_ := Aside0.mk (Kd.R_below (by (with_reducible repeat (first | apply Kd.R_alloc | apply Kd.R_drewN | apply Kd.R_drew)); exact HO170.out) hb)
                                    have n13_ := Aside0.mk (Kd.R_below (by (with_reducible repeat (first | apply Kd.R_alloc | apply Kd.R_drewN | apply Kd.R_drew)); exact HO174.out) hb)
                                    have n14_ := Aside0.mk (Kd.R_elder' (by (with_reducible repeat (first | apply Kd.R_alloc | apply Kd.R_drewN | apply Kd.R_drew)); exact HO182.out) (Kd.R_base ho73) hb)
                                    have n15_ := Aside0.mk (Kd.R_elder' (by (with_reducible repeat (first | apply Kd.R_alloc | apply Kd.R_drewN | apply Kd.R_drew)); exact HO186.out) (Kd.R_base ho73) hb)
                                    have n16_ := Aside0.mk (Kd.R_lower (Kd.R_new' (Kd.R_new' (Kd.R_new' (Kd.R_new' (Kd.R_new' (Kd.R_new' (Kd.R_new' (Kd.R_new' (Kd.R_new' (Kd.R_new' ho73 (Kd.R_lt (by (with_reducible repeat (first | apply Kd.R_alloc | apply Kd.R_drewN | apply Kd.R_drew)); exact HO129.out))) (Kd.R_lt (by (with_reducible repeat (first | apply Kd.R_alloc | apply Kd.R_drewN | apply Kd.R_drew)); exact HO136.out))) (Kd.R_lt (by (with_reducible repeat (first | apply Kd.R_alloc | apply Kd.R_drewN | apply Kd.R_drew)); exact HO139.out))) (Kd.R_lt (by (with_reducible repeat (first | apply Kd.R_alloc | apply Kd.R_drewN | apply Kd.R_drew)); exact HO146.out))) (Kd.R_lt (by (with_reducible repeat (first | apply Kd.R_alloc | apply Kd.R_drewN | apply Kd.R_drew)); exact HO149.out))) (Kd.R_lt (by (with_reducible repeat (first | apply Kd.R_alloc | apply Kd.R_drewN | apply Kd.R_drew)); exact HO156.out))) (Kd.R_lt (by (with_reducible repeat (first | apply Kd.R_alloc | apply Kd.R_drewN | apply Kd.R_drew)); exact HO163.out))) (Kd.R_lt (by (with_reducible repeat (first | apply Kd.R_alloc | apply Kd.R_drewN | apply Kd.R_drew)); exact HO167.out))) (Kd.R_lt (by (with_reducible repeat (first | apply Kd.R_alloc | apply Kd.R_drewN | apply Kd.R_drew)); exact HO182.out))) (Kd.R_lt (by (with_reducible repeat (first | apply Kd.R_alloc | apply Kd.R_drewN | apply Kd.R_drew)); exact HO186.out))) (below_size (by repeat (first | (with_reducible first | exact HB.out | apply below_alloc | apply pw_below_drewN | apply below_drew1) | exact HB.out))))
                                    have n17_ := Aside0.mk (below_step (by repeat (first | (with_reducible first | exact HB.out | apply below_alloc | apply pw_below_drewN | apply below_drew1) | exact HB.out)) hb)
                                    clear HO129
                                    clear HO132
                                    clear HO136
                                    clear HO139
                                    clear HO142
                                    clear HO146
                                    clear HO149
                                    clear HO152
                                    clear HO156
                                    clear HO159
                                    clear HO163
                                    clear HO167
                                    clear HO170
                                    clear HO174
                                    clear HO182
                                    clear HO186
                                    clear HB
                                    have HO129 := n0_
                                    have HO132 := n1_
                                    have HO136 := n2_
                                    have HO139 := n3_
                                    have HO142 := n4_
                                    have HO146 := n5_
                                    have HO149 := n6_
                                    have HO152 := n7_
                                    have HO156 := n8_
                                    have HO159 := n9_
                                    have HO163 := n10_
                                    have HO167 := n11_
                                    have HO170 := n12_
                                    have HO174 := n13_
                                    have HO182 := n14_
                                    have HO186 := n15_
                                    have HO190 := n16_
                                    have HB := n17_
                                    clear n0_ n1_ n2_ n3_ n4_ n5_ n6_ n7_ n8_ n9_ n10_ n11_ n12_ n13_ n14_ n15_ n16_ n17_
                                    clear hb ho73
                                    obtain ⟨Ao74, co74, eo74⟩ := Kd.R_slice HO190.out
                                    (first | subst eo74 | (injection eo74 with f1_ f2_ f3_; have f4_ := f1_.symm; have f5_ := f3_.symm; clear f1_ f2_ f3_; subst f4_; subst f5_))
                                    refine hK.out _ _ ⟨HS0_, HS1_, HS2_, HS3_, HS4_⟩ (fun hHeld => ?_)
                                    clear hK K
                                    refine norm_ (a' := ?_) ?_ ?_
                                    rotate_left
                                    · show Act.put _ (some 110) _ = _
                                      simp only [Act.put, List.setIfInBounds_toArray, List.set_cons_zero, List.set_cons_succ, i64_w, i32_w]
                                      rfl
                                    refine one_ (i := 61) (N := some 111) #[true, true, true, true, true, true, true, true, true, true, true, true, true, true, true, true, true, true, true, true, true, true, true, true, true, true, true, true, true, true, true, true, true, true, true, true, true, true, true, true, true, true, true, true, true, true, true, true, true, true, true, true, true, true, true, true, true, true, true, true, true, true, false, false, false, false] rfl rfl (one_of HT_.out (by kernel_rfl)) (by decide) (fun K hK => ?_)
                                    refine goes_ Try.func12 (by kernel_rfl) rfl #[.slice Ao74 y188.length co74, .int .i64 9] (by rfl) rfl rfl (by (try simp only [List.map_toArray, List.map_cons, List.map_nil]); first | done | rfl | (simp only [List.length_drop, List.length_take]; rfl)) ?_
                                    with_reducible refine (bits_Bit.calls _ _ y188 9 t191 _ ?side1 ?side2 A26.out).mono ?_
                                    (case side1 => repeat (first | exact (Kd.R_reads' HO190.out).2.2 | (with_reducible refine Kd.C_alloc ?_ _) | (with_reducible refine Kd.C_drewN ?_ _) | (with_reducible refine Kd.C_drew ?_)))
                                    (case side2 => exact (Kd.R_reads' HO190.out).2.1)
                                    rintro e w' ⟨rfl, ⟨nd, rfl⟩⟩
                                    refine ⟨_, rfl, ?_⟩
                                    refine hK.out _ _ ⟨hHeld.1, hHeld.2.1, hHeld.2.2.1, hHeld.2.2.2.1, hHeld.2.2.2.2⟩ (fun hHeld => ?_)
                                    clear hK K
                                    refine norm_ (a' := ?_) ?_ ?_
                                    rotate_left
                                    · show Act.put _ (some 111) _ = _
                                      simp only [Act.put, List.setIfInBounds_toArray, List.set_cons_zero, List.set_cons_succ, i64_w, i32_w]
                                      rfl
                                    refine pure_ (i := 62) (N := some 112) (v := ?_) (a' := ?_) #[true, true, true, true, true, true, true, true, true, true, true, true, true, true, true, true, true, true, true, true, true, true, true, true, true, true, true, true, true, true, true, true, true, true, true, true, true, true, true, true, true, true, true, true, true, true, true, true, true, true, true, true, true, true, true, true, true, true, true, true, true, true, true, false, false, false] rfl rfl (any_of HT_.out (by kernel_rfl)) (fun _ _ _ h => h) (Or.inl ⟨by rfl, ?_⟩) ?_ ?_
                                    rotate_left
                                    · intro w'
                                      go_simp
                                      with_reducible rfl
                                    rotate_left
                                    · simp only [Act.put, List.setIfInBounds_toArray, List.set_cons_zero, List.set_cons_succ, i64_w, i32_w]
                                      rfl
                                    refine pure_ (i := 63) (N := some 113) (v := ?_) (a' := ?_) #[true, true, true, true, true, true, true, true, true, true, true, true, true, true, true, true, true, true, true, true, true, true, true, true, true, true, true, true, true, true, true, true, true, true, true, true, true, true, true, true, true, true, true, true, true, true, true, true, true, true, true, true, true, true, true, true, true, true, true, true, true, true, true, true, false, false] rfl rfl (any_of HT_.out (by kernel_rfl)) (fun _ _ _ h => h) (Or.inl ⟨by rfl, ?_⟩) ?_ ?_
                                    rotate_left
                                    · intro w'
                                      go_simp
                                      with_reducible rfl
                                    rotate_left
                                    · simp only [Act.put, List.setIfInBounds_toArray, List.set_cons_zero, List.set_cons_succ, i64_w, i32_w]
                                      rfl
                                    refine one_ (i := 64) (N := some 114) #[true, true, true, true, true, true, true, true, true, true, true, true, true, true, true, true, true, true, true, true, true, true, true, true, true, true, true, true, true, true, true, true, true, true, true, true, true, true, true, true, true, true, true, true, true, true, true, true, true, true, true, true, true, true, true, true, true, true, true, true, true, true, true, true, true, false] rfl rfl (one_of HT_.out (by kernel_rfl)) (by decide) (fun K hK => ?_)
                                    refine Kd.R_lit_step Kd.bool _ 4 ?hg (N := 114) ?hd (xs := ([((rd t133 0) == 255), ((rd t143 0) == 160), !t161, ((t164.length : Int) == 0), ((rd t171 2) == 2), (t191 == 1)] : List Bool)) (inner := [.bool ((rd t133 0) == 255), .bool ((rd t143 0) == 160), .bool (!t161), .bool ((t164.length : Int) == 0), .bool ((rd t171 2) == 2), .bool (t191 == 1)]) (ok := fun _ => True) (okp := fun _ => True) ?hr ?hp (fun _ hk => hk) trivial (Below.refl _ _) (Nat.le_refl _) (by simp) ?_; (case hd => rfl); (case hg => rfl); (case hr => first | (go_simp; done) | (go_simp; rfl)); (case hp => exact (Reps.one (show Kd.M Kd.bool _ _ _ ((rd t133 0) == 255) [.bool ((rd t133 0) == 255)] from rfl) (Reps.one (show Kd.M Kd.bool _ _ _ ((rd t143 0) == 160) [.bool ((rd t143 0) == 160)] from rfl) (Reps.one (show Kd.M Kd.bool _ _ _ (!t161) [.bool (!t161)] from rfl) (Reps.one (show Kd.M Kd.bool _ _ _ ((t164.length : Int) == 0) [.bool ((t164.length : Int) == 0)] from rfl) (Reps.one (show Kd.M Kd.bool _ _ _ ((rd t171 2) == 2) [.bool ((rd t171 2) == 2)] from rfl) (Reps.one (show Kd.M Kd.bool _ _ _ (t191 == 1) [.bool (t191 == 1)] from rfl) (Reps.none _ _))))))))
                                    intro v193 w75 ho76 hb hg_ hnew_
                                    have HS0_ := (hb.cell (World.block_lt_of_cell? _ _ (hHeld.1))).trans (hHeld.1)
                                    have HS1_ := (hb.cell (World.block_lt_of_cell? _ _ (hHeld.2.1))).trans (hHeld.2.1)
                                    have HS2_ := (hb.cell (World.block_lt_of_cell? _ _ (hHeld.2.2.1))).trans (hHeld.2.2.1)
                                    have HS3_ := (hb.cell (World.block_lt_of_cell? _ _ (hHeld.2.2.2.1))).trans (hHeld.2.2.2.1)
                                    have HS4_ := (hb.cell (World.block_lt_of_cell? _ _ (hHeld.2.2.2.2))).trans (hHeld.2.2.2.2)
                                    clear hg_ hnew_
                                    (first | rw [← Ny192.out] at ho76 | (simp only [Int.reduceToNat] at ho76; rw [← Ny192.out] at ho76))
                                    have n0_ := Aside0.mk (Kd.R_below (by (with_reducible repeat (first | apply Kd.R_alloc | apply Kd.R_drewN | apply Kd.R_drew)); exact HO129.out) hb)
                                    have n1_ := Aside0.mk (Kd.R_below (by (with_reducible repeat (first | apply Kd.R_alloc | apply Kd.R_drewN | apply Kd.R_drew)); exact HO132.out) hb)
                                    have n2_ := Aside0.mk (Kd.R_below (by (with_reducible repeat (first | apply Kd.R_alloc | apply Kd.R_drewN | apply Kd.R_drew)); exact HO136.out) hb)
                                    have n3_ := Aside0.mk (Kd.R_below (by (with_reducible repeat (first | apply Kd.R_alloc | apply Kd.R_drewN | apply Kd.R_drew)); exact HO139.out) hb)
                                    have n4_ := Aside0.mk (Kd.R_below (by (with_reducible repeat (first | apply Kd.R_alloc | apply Kd.R_drewN | apply Kd.R_drew)); exact HO142.out) hb)
                                    have n5_ := Aside0.mk (Kd.R_below (by (with_reducible repeat (first | apply Kd.R_alloc | apply Kd.R_drewN | apply Kd.R_drew)); exact HO146.out) hb)
                                    have n6_ := Aside0.mk (Kd.R_below (by (with_reducible repeat (first | apply Kd.R_alloc | apply Kd.R_drewN | apply Kd.R_drew)); exact HO149.out) hb)
                                    have n7_ := Aside0.mk (Kd.R_below (by (with_reducible repeat (first | apply Kd.R_alloc | apply Kd.R_drewN | apply Kd.R_drew)); exact HO152.out) hb)
                                    have n8_ := Aside0.mk (Kd.R_below (by (with_reducible repeat (first | apply Kd.R_alloc | apply Kd.R_drewN | apply Kd.R_drew)); exact HO156.out) hb)
                                    have n9_ := Aside0.mk (Kd.R_below (by (with_reducible repeat (first | apply Kd.R_alloc | apply Kd.R_drewN | apply Kd.R_drew)); exact HO159.out) hb)
                                    have n10_ := Aside0.mk (Kd.R_below (by (with_reducible repeat (first | apply Kd.R_alloc | apply Kd.R_drewN | apply Kd.R_drew)); exact HO163.out) hb)
                                    have n11_ := Aside0.mk (Kd.R_below (by (with_reducible repeat (first | apply Kd.R_alloc | apply Kd.R_drewN | apply Kd.R_drew)); exact HO167.out) hb)
                                    have n12_ := Aside0.mk (Kd.R_below (by (with_reducible repeat (first | apply Kd.R_alloc | apply Kd.R_drewN | apply Kd.R_drew)); exact HO170.out) hb)
                                    have n13_ := Aside0.mk (Kd.R_below (by (with_reducible repeat (first | apply Kd.R_alloc | apply Kd.R_drewN | apply Kd.R_drew)); exact HO174.out) hb)
                                    have n14_ := Aside0.mk (Kd.R_below (by (with_reducible repeat (first | apply Kd.R_alloc | apply Kd.R_drewN | apply Kd.R_drew)); exact HO182.out) hb)
                                    have n15_ := Aside0.mk (Kd.R_below (by (with_reducible repeat (first | apply Kd.R_alloc | apply Kd.R_drewN | apply Kd.R_drew)); exact HO186.out) hb)
                                    have n16_ := Aside0.mk (Kd.R_below (by (with_reducible repeat (first | apply Kd.R_alloc | apply Kd.R_drewN | apply Kd.R_drew)); exact HO190.out) hb)
                                    have n17_ := Aside0.mk (Kd.R_lower ho76 (below_size (by repeat (first | (with_reducible first | exact HB.out | apply below_alloc | apply pw_below_drewN | apply below_drew1) | exact HB.out))))
                                    have n18_ := Aside0.mk (below_step (by repeat (first | (with_reducible first | exact HB.out | apply below_alloc | apply pw_below_drewN | apply below_drew1) | exact HB.out)) hb)
                                    clear HO129
                                    clear HO132
                                    clear HO136
                                    clear HO139
                                    clear HO142
                                    clear HO146
                                    clear HO149
                                    clear HO152
                                    clear HO156
                                    clear HO159
                                    clear HO163
                                    clear HO167
                                    clear HO170
                                    clear HO174
                                    clear HO182
                                    clear HO186
                                    clear HO190
                                    clear HB
                                    have HO129 := n0_
                                    have HO132 := n1_
                                    have HO136 := n2_
                                    have HO139 := n3_
                                    have HO142 := n4_
                                    have HO146 := n5_
                                    have HO149 := n6_
                                    have HO152 := n7_
                                    have HO156 := n8_
                                    have HO159 := n9_
                                    have HO163 := n10_
                                    have HO167 := n11_
                                    have HO170 := n12_
                                    have HO174 := n13_
                                    have HO182 := n14_
                                    have HO186 := n15_
                                    have HO190 := n16_
                                    have HO194 := n17_
                                    have HB := n18_
                                    clear n0_ n1_ n2_ n3_ n4_ n5_ n6_ n7_ n8_ n9_ n10_ n11_ n12_ n13_ n14_ n15_ n16_ n17_ n18_
                                    clear hb ho76
                                    refine hK.out _ _ ⟨HS0_, HS1_, HS2_, HS3_, HS4_⟩ (fun hHeld => ?_)
                                    clear hK K
                                    refine norm_ (a' := ?_) ?_ ?_
                                    rotate_left
                                    · show Act.put _ (some 114) _ = _
                                      simp only [Act.put, List.setIfInBounds_toArray, List.set_cons_zero, List.set_cons_succ, i64_w, i32_w]
                                      rfl
                                    refine pure_ (i := 65) (N := some 15) (v := ?_) (a' := ?_) #[true, true, true, true, true, true, true, true, true, true, true, true, true, true, true, true, true, true, true, true, true, true, true, true, true, true, true, true, true, true, true, true, true, true, true, true, true, true, true, true, true, true, true, true, true, true, true, true, true, true, true, true, true, true, true, true, true, true, true, true, true, true, true, true, true, true] rfl rfl (any_of HT_.out (by kernel_rfl)) (fun _ _ _ h => h) (Or.inl ⟨by rfl, ?_⟩) ?_ ?_
                                    rotate_left
                                    · intro w'
                                      go_simp
                                      with_reducible rfl
                                    rotate_left
                                    · simp only [Act.put, List.setIfInBounds_toArray, List.set_cons_zero, List.set_cons_succ, i64_w, i32_w]
                                      rfl
                                    refine done_ (done_of HT_.out (by kernel_rfl)) ?_
                                    obtain ⟨Ao77, co77, eo77⟩ := Kd.R_slice HO194.out
                                    subst eo77
                                    try go_wp2_with (first | ((with_reducible refine gate_callee (f := 14) rfl ?_); refine goesL_ (some 119) rfl rfl Try.func14 (by kernel_rfl) rfl #[.int .i64 a0, .int .i64 (y192.length : Int)] rfl (by (try simp only [List.map_toArray, List.map_cons, List.map_nil]); first | done | rfl | (simp only [List.length_drop, List.length_take]; rfl)) ?_; (with_reducible refine (scrimlaw2_within.calls a0 (y192.length : Int) t195 _ A27.out).mono ?_); rintro e w' ⟨rfl, ⟨nd, rfl⟩⟩; refine ⟨_, rfl, ?_⟩; have p196 : 0 ≤ (t195 : Int) := of_decide_eq_true (by first | (with_reducible assumption) | assumption); have q196 : t195 < (y192.length : Int) := of_decide_eq_true (by first | (with_reducible assumption) | assumption); obtain ⟨ad196, e196, hx196_0⟩ := Kd.at_bool (Kd.R_reads' HO194.out).2.2 t195 p196 q196; cases e196; replace p196 := eq_true p196; replace q196 := eq_true q196))
                                    go_ret
                                    exact ⟨by first | rfl | (simp [errW_none, errW_some] <;> rfl) | (simp [*, errW_none, errW_some] <;> rfl), by repeat (first | (with_reducible first | exact HB.out | apply below_alloc | apply pw_below_drewN | apply below_drew1) | exact HB.out)⟩
                                  · rw [if_neg c29] at H
                                    exact absurd H (by simp)
                                · rw [if_neg c28] at H
                                  exact absurd H (by simp)
                              · rw [if_neg c25] at H
                                exact absurd H (by simp)
                            · rw [if_neg c23] at H
                              exact absurd H (by simp)
                          · rw [if_neg c21] at H
                            exact absurd H (by simp)
                        · rw [if_neg c20] at H
                          exact absurd H (by simp)
                      · rw [if_neg c19] at H
                        exact absurd H (by simp)
                    · rw [if_neg c18] at H
                      exact absurd H (by simp)
                  · rw [if_neg c17] at H
                    exact absurd H (by simp)
                · rw [if_neg c16] at H
                  exact absurd H (by simp)
              · replace c15 := Bool.eq_false_iff.mpr c15
                subst c15
                have H1 : (none) = some r := by rw [if_neg (show ¬ (false = true) by decide)] at H; exact H
                clear H
                have H := H1
                clear H1
                exact absurd H (by simp)
          · rw [if_neg c13] at H
            exact absurd H (by simp)
        · rw [if_neg c12] at H
          exact absurd H (by simp)
      · rw [if_neg c11] at H
        exact absurd H (by simp)
    · rw [if_neg c10] at H
      exact absurd H (by simp)
  · replace c3 := Bool.eq_false_iff.mpr c3
    subst c3
    have H1 : (none) = some r := by rw [if_neg (show ¬ (false = true) by decide)] at H; exact H
    clear H
    have H := H1
    clear H1
    exact absurd H (by simp)

/-- THE ONE PURE STATEMENT of scrimlaw2_BitsKnown: yours. -/
def scrimlaw2_BitsKnown.Pure : Prop := ∀ (a0 : Int), (Lit.int .i64 a0).wf = true → ∃ k, scrimlaw2_BitsKnown.f k a0 = some true
theorem scrimlaw2_BitsKnown.walk (P : scrimlaw2_BitsKnown.Pure) (a0 : Int) (w : World) (w0 : (Lit.int .i64 a0).wf = true) :
    Calls Try.prog 10 #[.int .i64 a0] w fun e w' => e = .returned (.bool true) ∧ Below w.heap.size w w' := by
  obtain ⟨k, h⟩ := P a0 w0
  refine (scrimlaw2_BitsKnown.calls k a0 true w h).mono ?_
  rintro e w' ⟨rfl, hd⟩
  exact ⟨rfl, hd⟩

end Go.Proofs.Ytmlkacglddnneaa.MBitsKnown
