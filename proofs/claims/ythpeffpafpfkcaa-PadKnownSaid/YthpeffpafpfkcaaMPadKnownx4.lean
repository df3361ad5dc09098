/- A walk: each Go function that is named here answers what its plain function answers. Conditions: its arguments are read as lists and numbers. -/
import Derived.Test.YthpeffpafpfkcaaMPadKnownx0
import Derived.Test.YthpeffpafpfkcaaMPadKnownx3
namespace Go.Proofs.Ythpeffpafpfkcaa.MPadKnown
open Go.RowKit Go.Proofs.YthpeffpafpfkcaaW.PrintWords Go.Proofs.YthpeffpafpfkcaaW.PrintLast Go.Proofs.YthpeffpafpfkcaaW.PrintMore
attribute [local go_sem] max2_int min2_int max_two min_two max_three min_three max_four min_four   -- for this text's walks alone
set_option linter.unusedVariables false
set_option linter.unusedSimpArgs false

/-! ### scrimlaw14_PadKnown: function 7 -/
def scrimlaw14_PadKnown.l0 : Nat → List ByteArray → Int → List ByteArray → Int → Option (Bool)
  | 0, _, _, _, _ => none
  | k + 1, x3, x7, x8, x9 => if x9 < 3 then (if 0 ≤ x7 then (if x7 < (x3.length : Int) then (if (rdOf ByteArray.empty x3 x7).size ≤ 140737488351232 then ((pad_Strip.f k (wrap64 (1 + x9)) 8 (bytesOf (rdOf ByteArray.empty x3 x7))).bind fun bt148 => (if 0 ≤ x9 then (if x9 < (x8.length : Int) then (if (rdOf ByteArray.empty x8 x9).toList = ([45] : List UInt8) then (if bt148.2 = 8 then (if (bt148.1.length : Int) = 0 then (scrimlaw14_PadKnown.l0 k x3 x7 x8 (wrap64 (x9 + 1))) else (none)) else (none)) else (if bt148.2 = 0 then (if (strOfNums bt148.1).toList = (rdOf ByteArray.empty x8 x9).toList then (scrimlaw14_PadKnown.l0 k x3 x7 x8 (wrap64 (x9 + 1))) else (none)) else (none))) else (none)) else (none))) else (none)) else (none)) else (none)) else (some true)
def scrimlaw14_PadKnown.f (k : Nat) (a0 : Int) : Option (Bool) := (scrimlaw14_known.f k).bind fun t124 => (if t124 = true then ((some (([(⟨#[97, 98, 99, 100, 101, 102, 103, 1]⟩ : ByteArray), (⟨#[8, 8, 8, 8, 8, 8, 8, 8]⟩ : ByteArray), (⟨#[97, 98, 99, 100, 101, 102, 103, 2]⟩ : ByteArray), (⟨#[97, 98, 99, 100, 101, 102, 103, 0]⟩ : ByteArray), (⟨#[97, 98, 99, 100, 101, 102, 103, 9]⟩ : ByteArray), (⟨#[97, 98, 99, 100, 4, 4, 3, 4]⟩ : ByteArray), (⟨#[97, 98, 99, 100, 128, 0, 0, 0]⟩ : ByteArray), (⟨#[97, 98, 99, 100, 101, 102, 103, 128]⟩ : ByteArray), (⟨#[128, 0, 0, 0, 0, 0, 0, 0]⟩ : ByteArray), (⟨#[97, 98, 99, 100, 129, 0, 0, 0]⟩ : ByteArray), (⟨#[128, 0, 0, 0, 0, 0, 0, 1]⟩ : ByteArray), (⟨#[97, 98, 99, 100, 120, 121, 122, 4]⟩ : ByteArray), (⟨#[97, 98, 99, 100, 0, 0, 0, 4]⟩ : ByteArray), (⟨#[97, 98, 99, 100, 101, 102, 103, 255]⟩ : ByteArray)] : List ByteArray) : List ByteArray)).bind fun y125 => ((some (([(⟨#[97, 98, 99, 100, 101, 102, 103]⟩ : ByteArray), (⟨#[]⟩ : ByteArray), (⟨#[45]⟩ : ByteArray), (⟨#[45]⟩ : ByteArray), (⟨#[45]⟩ : ByteArray), (⟨#[45]⟩ : ByteArray), (⟨#[45]⟩ : ByteArray), (⟨#[45]⟩ : ByteArray), (⟨#[45]⟩ : ByteArray), (⟨#[45]⟩ : ByteArray), (⟨#[128, 0, 0, 0, 0, 0, 0]⟩ : ByteArray), (⟨#[45]⟩ : ByteArray), (⟨#[45]⟩ : ByteArray), (⟨#[45]⟩ : ByteArray)] : List ByteArray) : List ByteArray)).bind fun y128 => ((some (([(⟨#[45]⟩ : ByteArray), (⟨#[45]⟩ : ByteArray), (⟨#[45]⟩ : ByteArray), (⟨#[45]⟩ : ByteArray), (⟨#[45]⟩ : ByteArray), (⟨#[45]⟩ : ByteArray), (⟨#[97, 98, 99, 100]⟩ : ByteArray), (⟨#[97, 98, 99, 100, 101, 102, 103]⟩ : ByteArray), (⟨#[]⟩ : ByteArray), (⟨#[45]⟩ : ByteArray), (⟨#[45]⟩ : ByteArray), (⟨#[45]⟩ : ByteArray), (⟨#[45]⟩ : ByteArray), (⟨#[45]⟩ : ByteArray)] : List ByteArray) : List ByteArray)).bind fun y131 => ((some (([(⟨#[97, 98, 99, 100, 101, 102, 103]⟩ : ByteArray), (⟨#[]⟩ : ByteArray), (⟨#[97, 98, 99, 100, 101, 102]⟩ : ByteArray), (⟨#[45]⟩ : ByteArray), (⟨#[45]⟩ : ByteArray), (⟨#[97, 98, 99, 100]⟩ : ByteArray), (⟨#[45]⟩ : ByteArray), (⟨#[45]⟩ : ByteArray), (⟨#[45]⟩ : ByteArray), (⟨#[45]⟩ : ByteArray), (⟨#[128, 0, 0, 0, 0, 0, 0]⟩ : ByteArray), (⟨#[97, 98, 99, 100]⟩ : ByteArray), (⟨#[97, 98, 99, 100]⟩ : ByteArray), (⟨#[45]⟩ : ByteArray)] : List ByteArray) : List ByteArray)).bind fun y134 => ((scrimlaw14_within.f a0 (y125.length : Int)).bind fun t137 => (if 0 ≤ t137 then (if t137 < (y128.length : Int) then (if t137 < (y131.length : Int) then (if t137 < (y134.length : Int) then (scrimlaw14_PadKnown.l0 k y125 t137 (([rdOf ByteArray.empty y128 t137, rdOf ByteArray.empty y131 t137, rdOf ByteArray.empty y134 t137] : List ByteArray)) 0) else (none)) else (none)) else (none)) else (none))))))) else (some false))
theorem scrimlaw14_PadKnown.mono_l : ∀ k, (∀ y0 y1 y2 y3, LeO (scrimlaw14_PadKnown.l0 k y0 y1 y2 y3) (scrimlaw14_PadKnown.l0 (k + 1) y0 y1 y2 y3))
  | 0 => fun _ _ _ _ r h => by simp [scrimlaw14_PadKnown.l0] at h
  | k + 1 => by
    have ih0 := scrimlaw14_PadKnown.mono_l k
    · intro y0 y1 y2 y3
      unfold scrimlaw14_PadKnown.l0
      repeat' first
      | (with_reducible exact ih0 _ _ _ _)
      | (with_reducible exact pad_Strip.mono _ _ _ _)
      | (with_reducible exact scrimlaw14_known.mono _)
      | (with_reducible exact LeO.refl _)
      | (with_reducible exact LeO.none _)
      | (with_reducible refine LeO.ite ?_ ?_)
      | (with_reducible refine LeO.bind ?_ (fun _ => ?_))
      | exact ih0 _ _ _ _
      | exact pad_Strip.mono _ _ _ _
      | exact scrimlaw14_known.mono _
      | exact LeO.none _
      | refine LeO.ite ?_ ?_
      | refine LeO.bind ?_ (fun _ => ?_)
theorem scrimlaw14_PadKnown.mono : ∀ a0 k, LeO (scrimlaw14_PadKnown.f k a0) (scrimlaw14_PadKnown.f (k + 1) a0) := by
  intro a0 k
  have ih0 := scrimlaw14_PadKnown.mono_l k
  unfold scrimlaw14_PadKnown.f
  repeat' first
      | (with_reducible exact ih0 _ _ _ _)
      | (with_reducible exact pad_Strip.mono _ _ _ _)
      | (with_reducible exact scrimlaw14_known.mono _)
      | (with_reducible exact LeO.refl _)
      | (with_reducible exact LeO.none _)
      | (with_reducible refine LeO.ite ?_ ?_)
      | (with_reducible refine LeO.bind ?_ (fun _ => ?_))
      | exact ih0 _ _ _ _
      | exact pad_Strip.mono _ _ _ _
      | exact scrimlaw14_known.mono _
      | exact LeO.none _
      | refine LeO.ite ?_ ?_
      | refine LeO.bind ?_ (fun _ => ?_)
def scrimlaw14_PadKnown.T8 : Bool × List (List Nat × List Nat) := (true, [([], []), ([], []), ([0, 1], [0, 1]), ([2], [2]), ([], []), ([], []), ([4, 5], [4, 5]), ([6], [6]), ([], []), ([], []), ([8, 9], [8, 9]), ([10], [10]), ([3, 7, 11], [3, 7, 11]), ([12, 0, 1, 2, 3, 4, 5, 6, 7, 8, 9, 10, 11, 12], [12])])
def scrimlaw14_PadKnown.B8 : List Nat := [0, 0, 3, 7, 0, 0, 48, 112, 0, 0, 768, 1792, 4095, 8191]
theorem scrimlaw14_PadKnown.tab8 : rtab .any (opsOf Try.f7 8) = scrimlaw14_PadKnown.T8 := by kernel_rfl
theorem scrimlaw14_PadKnown.bits8 : waitsOk scrimlaw14_PadKnown.T8.2 scrimlaw14_PadKnown.B8 = true := by kernel_rfl
def scrimlaw14_PadKnown.T13 : Bool × List (List Nat × List Nat) := (true, [([], []), ([], []), ([0, 1], [0, 1]), ([2], [2]), ([3], [3]), ([4], [4]), ([5], [5]), ([6, 5], [5, 6]), ([7, 5, 5], [5, 7]), ([8], [8]), ([9, 8], [8, 9]), ([10, 8], [8, 10]), ([8, 11, 5], [5, 8, 11]), ([5, 12], [5, 12]), ([13, 8], [13]), ([14], [14]), ([14], [14]), ([15, 16, 14], [14, 15, 16]), ([17, 14], [14, 17]), ([18, 14], [14, 18]), ([19, 14, 14], [14, 19]), ([20], [20]), ([21, 20], [20, 21]), ([22, 20, 20], [20, 22]), ([23], [23]), ([24, 23], [23, 24]), ([23], [23]), ([23], [23]), ([26, 27, 23], [23, 26, 27]), ([28, 23], [23, 28]), ([25, 29, 23], [23, 25, 29]), ([23, 30, 20], [20, 23, 30]), ([20, 31, 14], [14, 20, 31]), ([14, 32], [14, 32])])
def scrimlaw14_PadKnown.B13 : List Nat := [0, 0, 3, 7, 15, 31, 63, 127, 255, 511, 1023, 2047, 4095, 8191, 16383, 32767, 32767, 131071, 262143, 524287, 1048575, 2097151, 4194303, 8388607, 16777215, 33554431, 16777215, 16777215, 218103807, 486539263, 1073741823, 2147483647, 4294967295, 8589934591]
theorem scrimlaw14_PadKnown.tab13 : rtab .any (opsOf Try.f7 13) = scrimlaw14_PadKnown.T13 := by kernel_rfl
theorem scrimlaw14_PadKnown.bits13 : waitsOk scrimlaw14_PadKnown.T13.2 scrimlaw14_PadKnown.B13 = true := by kernel_rfl
set_option maxHeartbeats 8000000 in
set_option maxRecDepth 100000 in
theorem scrimlaw14_PadKnown.calls (k : Nat) (a0 : Int) (r : Bool) (w : World) (h : scrimlaw14_PadKnown.f k a0 = some r) :
    Calls Try.prog 7 #[.int .i64 a0] w fun e w' => e = .returned (.bool r) ∧ Below w.heap.size w w' := by
  have HB := Aside0.mk (Below.refl w.heap.size w)
  have H : ((scrimlaw14_known.f k).bind fun t124 => (if t124 = true then ((some (([(⟨#[97, 98, 99, 100, 101, 102, 103, 1]⟩ : ByteArray), (⟨#[8, 8, 8, 8, 8, 8, 8, 8]⟩ : ByteArray), (⟨#[97, 98, 99, 100, 101, 102, 103, 2]⟩ : ByteArray), (⟨#[97, 98, 99, 100, 101, 102, 103, 0]⟩ : ByteArray), (⟨#[97, 98, 99, 100, 101, 102, 103, 9]⟩ : ByteArray), (⟨#[97, 98, 99, 100, 4, 4, 3, 4]⟩ : ByteArray), (⟨#[97, 98, 99, 100, 128, 0, 0, 0]⟩ : ByteArray), (⟨#[97, 98, 99, 100, 101, 102, 103, 128]⟩ : ByteArray), (⟨#[128, 0, 0, 0, 0, 0, 0, 0]⟩ : ByteArray), (⟨#[97, 98, 99, 100, 129, 0, 0, 0]⟩ : ByteArray), (⟨#[128, 0, 0, 0, 0, 0, 0, 1]⟩ : ByteArray), (⟨#[97, 98, 99, 100, 120, 121, 122, 4]⟩ : ByteArray), (⟨#[97, 98, 99, 100, 0, 0, 0, 4]⟩ : ByteArray), (⟨#[97, 98, 99, 100, 101, 102, 103, 255]⟩ : ByteArray)] : List ByteArray) : List ByteArray)).bind fun y125 => ((some (([(⟨#[97, 98, 99, 100, 101, 102, 103]⟩ : ByteArray), (⟨#[]⟩ : ByteArray), (⟨#[45]⟩ : ByteArray), (⟨#[45]⟩ : ByteArray), (⟨#[45]⟩ : ByteArray), (⟨#[45]⟩ : ByteArray), (⟨#[45]⟩ : ByteArray), (⟨#[45]⟩ : ByteArray), (⟨#[45]⟩ : ByteArray), (⟨#[45]⟩ : ByteArray), (⟨#[128, 0, 0, 0, 0, 0, 0]⟩ : ByteArray), (⟨#[45]⟩ : ByteArray), (⟨#[45]⟩ : ByteArray), (⟨#[45]⟩ : ByteArray)] : List ByteArray) : List ByteArray)).bind fun y128 => ((some (([(⟨#[45]⟩ : ByteArray), (⟨#[45]⟩ : ByteArray), (⟨#[45]⟩ : ByteArray), (⟨#[45]⟩ : ByteArray), (⟨#[45]⟩ : ByteArray), (⟨#[45]⟩ : ByteArray), (⟨#[97, 98, 99, 100]⟩ : ByteArray), (⟨#[97, 98, 99, 100, 101, 102, 103]⟩ : ByteArray), (⟨#[]⟩ : ByteArray), (⟨#[45]⟩ : ByteArray), (⟨#[45]⟩ : ByteArray), (⟨#[45]⟩ : ByteArray), (⟨#[45]⟩ : ByteArray), (⟨#[45]⟩ : ByteArray)] : List ByteArray) : List ByteArray)).bind fun y131 => ((some (([(⟨#[97, 98, 99, 100, 101, 102, 103]⟩ : ByteArray), (⟨#[]⟩ : ByteArray), (⟨#[97, 98, 99, 100, 101, 102]⟩ : ByteArray), (⟨#[45]⟩ : ByteArray), (⟨#[45]⟩ : ByteArray), (⟨#[97, 98, 99, 100]⟩ : ByteArray), (⟨#[45]⟩ : ByteArray), (⟨#[45]⟩ : ByteArray), (⟨#[45]⟩ : ByteArray), (⟨#[45]⟩ : ByteArray), (⟨#[128, 0, 0, 0, 0, 0, 0]⟩ : ByteArray), (⟨#[97, 98, 99, 100]⟩ : ByteArray), (⟨#[97, 98, 99, 100]⟩ : ByteArray), (⟨#[45]⟩ : ByteArray)] : List ByteArray) : List ByteArray)).bind fun y134 => ((scrimlaw14_within.f a0 (y125.length : Int)).bind fun t137 => (if 0 ≤ t137 then (if t137 < (y128.length : Int) then (if t137 < (y131.length : Int) then (if t137 < (y134.length : Int) then (scrimlaw14_PadKnown.l0 k y125 t137 (([rdOf ByteArray.empty y128 t137, rdOf ByteArray.empty y131 t137, rdOf ByteArray.empty y134 t137] : List ByteArray)) 0) else (none)) else (none)) else (none)) else (none))))))) else (some false))) = some r := h
  clear h
  replace H := Option.bind_eq_some_iff.mp H
  obtain ⟨t124, A20, H⟩ := H
  replace H : (if t124 = true then ((some (([(⟨#[97, 98, 99, 100, 101, 102, 103, 1]⟩ : ByteArray), (⟨#[8, 8, 8, 8, 8, 8, 8, 8]⟩ : ByteArray), (⟨#[97, 98, 99, 100, 101, 102, 103, 2]⟩ : ByteArray), (⟨#[97, 98, 99, 100, 101, 102, 103, 0]⟩ : ByteArray), (⟨#[97, 98, 99, 100, 101, 102, 103, 9]⟩ : ByteArray), (⟨#[97, 98, 99, 100, 4, 4, 3, 4]⟩ : ByteArray), (⟨#[97, 98, 99, 100, 128, 0, 0, 0]⟩ : ByteArray), (⟨#[97, 98, 99, 100, 101, 102, 103, 128]⟩ : ByteArray), (⟨#[128, 0, 0, 0, 0, 0, 0, 0]⟩ : ByteArray), (⟨#[97, 98, 99, 100, 129, 0, 0, 0]⟩ : ByteArray), (⟨#[128, 0, 0, 0, 0, 0, 0, 1]⟩ : ByteArray), (⟨#[97, 98, 99, 100, 120, 121, 122, 4]⟩ : ByteArray), (⟨#[97, 98, 99, 100, 0, 0, 0, 4]⟩ : ByteArray), (⟨#[97, 98, 99, 100, 101, 102, 103, 255]⟩ : ByteArray)] : List ByteArray) : List ByteArray)).bind fun y125 => ((some (([(⟨#[97, 98, 99, 100, 101, 102, 103]⟩ : ByteArray), (⟨#[]⟩ : ByteArray), (⟨#[45]⟩ : ByteArray), (⟨#[45]⟩ : ByteArray), (⟨#[45]⟩ : ByteArray), (⟨#[45]⟩ : ByteArray), (⟨#[45]⟩ : ByteArray), (⟨#[45]⟩ : ByteArray), (⟨#[45]⟩ : ByteArray), (⟨#[45]⟩ : ByteArray), (⟨#[128, 0, 0, 0, 0, 0, 0]⟩ : ByteArray), (⟨#[45]⟩ : ByteArray), (⟨#[45]⟩ : ByteArray), (⟨#[45]⟩ : ByteArray)] : List ByteArray) : List ByteArray)).bind fun y128 => ((some (([(⟨#[45]⟩ : ByteArray), (⟨#[45]⟩ : ByteArray), (⟨#[45]⟩ : ByteArray), (⟨#[45]⟩ : ByteArray), (⟨#[45]⟩ : ByteArray), (⟨#[45]⟩ : ByteArray), (⟨#[97, 98, 99, 100]⟩ : ByteArray), (⟨#[97, 98, 99, 100, 101, 102, 103]⟩ : ByteArray), (⟨#[]⟩ : ByteArray), (⟨#[45]⟩ : ByteArray), (⟨#[45]⟩ : ByteArray), (⟨#[45]⟩ : ByteArray), (⟨#[45]⟩ : ByteArray), (⟨#[45]⟩ : ByteArray)] : List ByteArray) : List ByteArray)).bind fun y131 => ((some (([(⟨#[97, 98, 99, 100, 101, 102, 103]⟩ : ByteArray), (⟨#[]⟩ : ByteArray), (⟨#[97, 98, 99, 100, 101, 102]⟩ : ByteArray), (⟨#[45]⟩ : ByteArray), (⟨#[45]⟩ : ByteArray), (⟨#[97, 98, 99, 100]⟩ : ByteArray), (⟨#[45]⟩ : ByteArray), (⟨#[45]⟩ : ByteArray), (⟨#[45]⟩ : ByteArray), (⟨#[45]⟩ : ByteArray), (⟨#[128, 0, 0, 0, 0, 0, 0]⟩ : ByteArray), (⟨#[97, 98, 99, 100]⟩ : ByteArray), (⟨#[97, 98, 99, 100]⟩ : ByteArray), (⟨#[45]⟩ : ByteArray)] : List ByteArray) : List ByteArray)).bind fun y134 => ((scrimlaw14_within.f a0 (y125.length : Int)).bind fun t137 => (if 0 ≤ t137 then (if t137 < (y128.length : Int) then (if t137 < (y131.length : Int) then (if t137 < (y134.length : Int) then (scrimlaw14_PadKnown.l0 k y125 t137 (([rdOf ByteArray.empty y128 t137, rdOf ByteArray.empty y131 t137, rdOf ByteArray.empty y134 t137] : List ByteArray)) 0) else (none)) else (none)) else (none)) else (none))))))) else (some false)) = some r := H
  have A2 := Aside0.mk A20
  clear A20
  by_cases c3 : t124 = true
  · subst c3
    have H1 : ((some (([(⟨#[97, 98, 99, 100, 101, 102, 103, 1]⟩ : ByteArray), (⟨#[8, 8, 8, 8, 8, 8, 8, 8]⟩ : ByteArray), (⟨#[97, 98, 99, 100, 101, 102, 103, 2]⟩ : ByteArray), (⟨#[97, 98, 99, 100, 101, 102, 103, 0]⟩ : ByteArray), (⟨#[97, 98, 99, 100, 101, 102, 103, 9]⟩ : ByteArray), (⟨#[97, 98, 99, 100, 4, 4, 3, 4]⟩ : ByteArray), (⟨#[97, 98, 99, 100, 128, 0, 0, 0]⟩ : ByteArray), (⟨#[97, 98, 99, 100, 101, 102, 103, 128]⟩ : ByteArray), (⟨#[128, 0, 0, 0, 0, 0, 0, 0]⟩ : ByteArray), (⟨#[97, 98, 99, 100, 129, 0, 0, 0]⟩ : ByteArray), (⟨#[128, 0, 0, 0, 0, 0, 0, 1]⟩ : ByteArray), (⟨#[97, 98, 99, 100, 120, 121, 122, 4]⟩ : ByteArray), (⟨#[97, 98, 99, 100, 0, 0, 0, 4]⟩ : ByteArray), (⟨#[97, 98, 99, 100, 101, 102, 103, 255]⟩ : ByteArray)] : List ByteArray) : List ByteArray)).bind fun y125 => ((some (([(⟨#[97, 98, 99, 100, 101, 102, 103]⟩ : ByteArray), (⟨#[]⟩ : ByteArray), (⟨#[45]⟩ : ByteArray), (⟨#[45]⟩ : ByteArray), (⟨#[45]⟩ : ByteArray), (⟨#[45]⟩ : ByteArray), (⟨#[45]⟩ : ByteArray), (⟨#[45]⟩ : ByteArray), (⟨#[45]⟩ : ByteArray), (⟨#[45]⟩ : ByteArray), (⟨#[128, 0, 0, 0, 0, 0, 0]⟩ : ByteArray), (⟨#[45]⟩ : ByteArray), (⟨#[45]⟩ : ByteArray), (⟨#[45]⟩ : ByteArray)] : List ByteArray) : List ByteArray)).bind fun y128 => ((some (([(⟨#[45]⟩ : ByteArray), (⟨#[45]⟩ : ByteArray), (⟨#[45]⟩ : ByteArray), (⟨#[45]⟩ : ByteArray), (⟨#[45]⟩ : ByteArray), (⟨#[45]⟩ : ByteArray), (⟨#[97, 98, 99, 100]⟩ : ByteArray), (⟨#[97, 98, 99, 100, 101, 102, 103]⟩ : ByteArray), (⟨#[]⟩ : ByteArray), (⟨#[45]⟩ : ByteArray), (⟨#[45]⟩ : ByteArray), (⟨#[45]⟩ : ByteArray), (⟨#[45]⟩ : ByteArray), (⟨#[45]⟩ : ByteArray)] : List ByteArray) : List ByteArray)).bind fun y131 => ((some (([(⟨#[97, 98, 99, 100, 101, 102, 103]⟩ : ByteArray), (⟨#[]⟩ : ByteArray), (⟨#[97, 98, 99, 100, 101, 102]⟩ : ByteArray), (⟨#[45]⟩ : ByteArray), (⟨#[45]⟩ : ByteArray), (⟨#[97, 98, 99, 100]⟩ : ByteArray), (⟨#[45]⟩ : ByteArray), (⟨#[45]⟩ : ByteArray), (⟨#[45]⟩ : ByteArray), (⟨#[45]⟩ : ByteArray), (⟨#[128, 0, 0, 0, 0, 0, 0]⟩ : ByteArray), (⟨#[97, 98, 99, 100]⟩ : ByteArray), (⟨#[97, 98, 99, 100]⟩ : ByteArray), (⟨#[45]⟩ : ByteArray)] : List ByteArray) : List ByteArray)).bind fun y134 => ((scrimlaw14_within.f a0 (y125.length : Int)).bind fun t137 => (if 0 ≤ t137 then (if t137 < (y128.length : Int) then (if t137 < (y131.length : Int) then (if t137 < (y134.length : Int) then (scrimlaw14_PadKnown.l0 k y125 t137 (([rdOf ByteArray.empty y128 t137, rdOf ByteArray.empty y131 t137, rdOf ByteArray.empty y134 t137] : List ByteArray)) 0) else (none)) else (none)) else (none)) else (none))))))) = some r := by rw [if_pos rfl] at H; exact H
    clear H
    have H := H1
    clear H1
    obtain ⟨y125, hy125⟩ : ∃ y_ : List ByteArray, y_ = (([(⟨#[97, 98, 99, 100, 101, 102, 103, 1]⟩ : ByteArray), (⟨#[8, 8, 8, 8, 8, 8, 8, 8]⟩ : ByteArray), (⟨#[97, 98, 99, 100, 101, 102, 103, 2]⟩ : ByteArray), (⟨#[97, 98, 99, 100, 101, 102, 103, 0]⟩ : ByteArray), (⟨#[97, 98, 99, 100, 101, 102, 103, 9]⟩ : ByteArray), (⟨#[97, 98, 99, 100, 4, 4, 3, 4]⟩ : ByteArray), (⟨#[97, 98, 99, 100, 128, 0, 0, 0]⟩ : ByteArray), (⟨#[97, 98, 99, 100, 101, 102, 103, 128]⟩ : ByteArray), (⟨#[128, 0, 0, 0, 0, 0, 0, 0]⟩ : ByteArray), (⟨#[97, 98, 99, 100, 129, 0, 0, 0]⟩ : ByteArray), (⟨#[128, 0, 0, 0, 0, 0, 0, 1]⟩ : ByteArray), (⟨#[97, 98, 99, 100, 120, 121, 122, 4]⟩ : ByteArray), (⟨#[97, 98, 99, 100, 0, 0, 0, 4]⟩ : ByteArray), (⟨#[97, 98, 99, 100, 101, 102, 103, 255]⟩ : ByteArray)] : List ByteArray)) := ⟨_, rfl⟩
    replace H : ((some (([(⟨#[97, 98, 99, 100, 101, 102, 103]⟩ : ByteArray), (⟨#[]⟩ : ByteArray), (⟨#[45]⟩ : ByteArray), (⟨#[45]⟩ : ByteArray), (⟨#[45]⟩ : ByteArray), (⟨#[45]⟩ : ByteArray), (⟨#[45]⟩ : ByteArray), (⟨#[45]⟩ : ByteArray), (⟨#[45]⟩ : ByteArray), (⟨#[45]⟩ : ByteArray), (⟨#[128, 0, 0, 0, 0, 0, 0]⟩ : ByteArray), (⟨#[45]⟩ : ByteArray), (⟨#[45]⟩ : ByteArray), (⟨#[45]⟩ : ByteArray)] : List ByteArray) : List ByteArray)).bind fun y128 => ((some (([(⟨#[45]⟩ : ByteArray), (⟨#[45]⟩ : ByteArray), (⟨#[45]⟩ : ByteArray), (⟨#[45]⟩ : ByteArray), (⟨#[45]⟩ : ByteArray), (⟨#[45]⟩ : ByteArray), (⟨#[97, 98, 99, 100]⟩ : ByteArray), (⟨#[97, 98, 99, 100, 101, 102, 103]⟩ : ByteArray), (⟨#[]⟩ : ByteArray), (⟨#[45]⟩ : ByteArray), (⟨#[45]⟩ : ByteArray), (⟨#[45]⟩ : ByteArray), (⟨#[45]⟩ : ByteArray), (⟨#[45]⟩ : ByteArray)] : List ByteArray) : List ByteArray)).bind fun y131 => ((some (([(⟨#[97, 98, 99, 100, 101, 102, 103]⟩ : ByteArray), (⟨#[]⟩ : ByteArray), (⟨#[97, 98, 99, 100, 101, 102]⟩ : ByteArray), (⟨#[45]⟩ : ByteArray), (⟨#[45]⟩ : ByteArray), (⟨#[97, 98, 99, 100]⟩ : ByteArray), (⟨#[45]⟩ : ByteArray), (⟨#[45]⟩ : ByteArray), (⟨#[45]⟩ : ByteArray), (⟨#[45]⟩ : ByteArray), (⟨#[128, 0, 0, 0, 0, 0, 0]⟩ : ByteArray), (⟨#[97, 98, 99, 100]⟩ : ByteArray), (⟨#[97, 98, 99, 100]⟩ : ByteArray), (⟨#[45]⟩ : ByteArray)] : List ByteArray) : List ByteArray)).bind fun y134 => ((scrimlaw14_within.f a0 (y125.length : Int)).bind fun t137 => (if 0 ≤ t137 then (if t137 < (y128.length : Int) then (if t137 < (y131.length : Int) then (if t137 < (y134.length : Int) then (scrimlaw14_PadKnown.l0 k y125 t137 (([rdOf ByteArray.empty y128 t137, rdOf ByteArray.empty y131 t137, rdOf ByteArray.empty y134 t137] : List ByteArray)) 0) else (none)) else (none)) else (none)) else (none)))))) = some r := by first | (rw [hy125]; with_reducible exact H) | (have H2_ := (Option.bind_some _ _).symm.trans H; rw [hy125]; with_reducible exact H2_) | (have H2_ := (Option.bind_some _ _).symm.trans H; with_reducible exact H2_) | with_reducible exact H | (rw [hy125]; exact H) | exact H
    have Ny125 := Aside0.mk hy125
    clear hy125
    obtain ⟨y128, hy128⟩ : ∃ y_ : List ByteArray, y_ = (([(⟨#[97, 98, 99, 100, 101, 102, 103]⟩ : ByteArray), (⟨#[]⟩ : ByteArray), (⟨#[45]⟩ : ByteArray), (⟨#[45]⟩ : ByteArray), (⟨#[45]⟩ : ByteArray), (⟨#[45]⟩ : ByteArray), (⟨#[45]⟩ : ByteArray), (⟨#[45]⟩ : ByteArray), (⟨#[45]⟩ : ByteArray), (⟨#[45]⟩ : ByteArray), (⟨#[128, 0, 0, 0, 0, 0, 0]⟩ : ByteArray), (⟨#[45]⟩ : ByteArray), (⟨#[45]⟩ : ByteArray), (⟨#[45]⟩ : ByteArray)] : List ByteArray)) := ⟨_, rfl⟩
    replace H : ((some (([(⟨#[45]⟩ : ByteArray), (⟨#[45]⟩ : ByteArray), (⟨#[45]⟩ : ByteArray), (⟨#[45]⟩ : ByteArray), (⟨#[45]⟩ : ByteArray), (⟨#[45]⟩ : ByteArray), (⟨#[97, 98, 99, 100]⟩ : ByteArray), (⟨#[97, 98, 99, 100, 101, 102, 103]⟩ : ByteArray), (⟨#[]⟩ : ByteArray), (⟨#[45]⟩ : ByteArray), (⟨#[45]⟩ : ByteArray), (⟨#[45]⟩ : ByteArray), (⟨#[45]⟩ : ByteArray), (⟨#[45]⟩ : ByteArray)] : List ByteArray) : List ByteArray)).bind fun y131 => ((some (([(⟨#[97, 98, 99, 100, 101, 102, 103]⟩ : ByteArray), (⟨#[]⟩ : ByteArray), (⟨#[97, 98, 99, 100, 101, 102]⟩ : ByteArray), (⟨#[45]⟩ : ByteArray), (⟨#[45]⟩ : ByteArray), (⟨#[97, 98, 99, 100]⟩ : ByteArray), (⟨#[45]⟩ : ByteArray), (⟨#[45]⟩ : ByteArray), (⟨#[45]⟩ : ByteArray), (⟨#[45]⟩ : ByteArray), (⟨#[128, 0, 0, 0, 0, 0, 0]⟩ : ByteArray), (⟨#[97, 98, 99, 100]⟩ : ByteArray), (⟨#[97, 98, 99, 100]⟩ : ByteArray), (⟨#[45]⟩ : ByteArray)] : List ByteArray) : List ByteArray)).bind fun y134 => ((scrimlaw14_within.f a0 (y125.length : Int)).bind fun t137 => (if 0 ≤ t137 then (if t137 < (y128.length : Int) then (if t137 < (y131.length : Int) then (if t137 < (y134.length : Int) then (scrimlaw14_PadKnown.l0 k y125 t137 (([rdOf ByteArray.empty y128 t137, rdOf ByteArray.empty y131 t137, rdOf ByteArray.empty y134 t137] : List ByteArray)) 0) else (none)) else (none)) else (none)) else (none))))) = some r := by first | (rw [hy128]; with_reducible exact H) | (have H2_ := (Option.bind_some _ _).symm.trans H; rw [hy128]; with_reducible exact H2_) | (have H2_ := (Option.bind_some _ _).symm.trans H; with_reducible exact H2_) | with_reducible exact H | (rw [hy128]; exact H) | exact H
    have Ny128 := Aside0.mk hy128
    clear hy128
    obtain ⟨y131, hy131⟩ : ∃ y_ : List ByteArray, y_ = (([(⟨#[45]⟩ : ByteArray), (⟨#[45]⟩ : ByteArray), (⟨#[45]⟩ : ByteArray), (⟨#[45]⟩ : ByteArray), (⟨#[45]⟩ : ByteArray), (⟨#[45]⟩ : ByteArray), (⟨#[97, 98, 99, 100]⟩ : ByteArray), (⟨#[97, 98, 99, 100, 101, 102, 103]⟩ : ByteArray), (⟨#[]⟩ : ByteArray), (⟨#[45]⟩ : ByteArray), (⟨#[45]⟩ : ByteArray), (⟨#[45]⟩ : ByteArray), (⟨#[45]⟩ : ByteArray), (⟨#[45]⟩ : ByteArray)] : List ByteArray)) := ⟨_, rfl⟩
    replace H : ((some (([(⟨#[97, 98, 99, 100, 101, 102, 103]⟩ : ByteArray), (⟨#[]⟩ : ByteArray), (⟨#[97, 98, 99, 100, 101, 102]⟩ : ByteArray), (⟨#[45]⟩ : ByteArray), (⟨#[45]⟩ : ByteArray), (⟨#[97, 98, 99, 100]⟩ : ByteArray), (⟨#[45]⟩ : ByteArray), (⟨#[45]⟩ : ByteArray), (⟨#[45]⟩ : ByteArray), (⟨#[45]⟩ : ByteArray), (⟨#[128, 0, 0, 0, 0, 0, 0]⟩ : ByteArray), (⟨#[97, 98, 99, 100]⟩ : ByteArray), (⟨#[97, 98, 99, 100]⟩ : ByteArray), (⟨#[45]⟩ : ByteArray)] : List ByteArray) : List ByteArray)).bind fun y134 => ((scrimlaw14_within.f a0 (y125.length : Int)).bind fun t137 => (if 0 ≤ t137 then (if t137 < (y128.length : Int) then (if t137 < (y131.length : Int) then (if t137 < (y134.length : Int) then (scrimlaw14_PadKnown.l0 k y125 t137 (([rdOf ByteArray.empty y128 t137, rdOf ByteArray.empty y131 t137, rdOf ByteArray.empty y134 t137] : List ByteArray)) 0) else (none)) else (none)) else (none)) else (none)))) = some r := by first | (rw [hy131]; with_reducible exact H) | (have H2_ := (Option.bind_some _ _).symm.trans H; rw [hy131]; with_reducible exact H2_) | (have H2_ := (Option.bind_some _ _).symm.trans H; with_reducible exact H2_) | with_reducible exact H | (rw [hy131]; exact H) | exact H
    have Ny131 := Aside0.mk hy131
    clear hy131
    obtain ⟨y134, hy134⟩ : ∃ y_ : List ByteArray, y_ = (([(⟨#[97, 98, 99, 100, 101, 102, 103]⟩ : ByteArray), (⟨#[]⟩ : ByteArray), (⟨#[97, 98, 99, 100, 101, 102]⟩ : ByteArray), (⟨#[45]⟩ : ByteArray), (⟨#[45]⟩ : ByteArray), (⟨#[97, 98, 99, 100]⟩ : ByteArray), (⟨#[45]⟩ : ByteArray), (⟨#[45]⟩ : ByteArray), (⟨#[45]⟩ : ByteArray), (⟨#[45]⟩ : ByteArray), (⟨#[128, 0, 0, 0, 0, 0, 0]⟩ : ByteArray), (⟨#[97, 98, 99, 100]⟩ : ByteArray), (⟨#[97, 98, 99, 100]⟩ : ByteArray), (⟨#[45]⟩ : ByteArray)] : List ByteArray)) := ⟨_, rfl⟩
    replace H : ((scrimlaw14_within.f a0 (y125.length : Int)).bind fun t137 => (if 0 ≤ t137 then (if t137 < (y128.length : Int) then (if t137 < (y131.length : Int) then (if t137 < (y134.length : Int) then (scrimlaw14_PadKnown.l0 k y125 t137 (([rdOf ByteArray.empty y128 t137, rdOf ByteArray.empty y131 t137, rdOf ByteArray.empty y134 t137] : List ByteArray)) 0) else (none)) else (none)) else (none)) else (none))) = some r := by first | (rw [hy134]; with_reducible exact H) | (have H2_ := (Option.bind_some _ _).symm.trans H; rw [hy134]; with_reducible exact H2_) | (have H2_ := (Option.bind_some _ _).symm.trans H; with_reducible exact H2_) | with_reducible exact H | (rw [hy134]; exact H) | exact H
    have Ny134 := Aside0.mk hy134
    clear hy134
    replace H := Option.bind_eq_some_iff.mp H
    obtain ⟨t137, A40, H⟩ := H
    replace H : (if 0 ≤ t137 then (if t137 < (y128.length : Int) then (if t137 < (y131.length : Int) then (if t137 < (y134.length : Int) then (scrimlaw14_PadKnown.l0 k y125 t137 (([rdOf ByteArray.empty y128 t137, rdOf ByteArray.empty y131 t137, rdOf ByteArray.empty y134 t137] : List ByteArray)) 0) else (none)) else (none)) else (none)) else (none)) = some r := H
    have A4 := Aside0.mk A40
    clear A40
    by_cases c5 : 0 ≤ t137
    · rw [if_pos c5] at H
      have c5b0 : decide (0 ≤ t137) = true := decide_eq_true c5
      clear c5
      by_cases c6 : t137 < (y128.length : Int)
      · rw [if_pos c6] at H
        have c6b0 : decide (t137 < (y128.length : Int)) = true := decide_eq_true c6
        clear c6
        by_cases c7 : t137 < (y131.length : Int)
        · rw [if_pos c7] at H
          have c7b0 : decide (t137 < (y131.length : Int)) = true := decide_eq_true c7
          clear c7
          by_cases c8 : t137 < (y134.length : Int)
          · rw [if_pos c8] at H
            have c8b0 : decide (t137 < (y134.length : Int)) = true := decide_eq_true c8
            clear c8
            obtain ⟨y141, hy141⟩ : ∃ y_ : List ByteArray, y_ = (([rdOf ByteArray.empty y128 t137, rdOf ByteArray.empty y131 t137, rdOf ByteArray.empty y134 t137] : List ByteArray)) := ⟨_, rfl⟩
            replace H : (scrimlaw14_PadKnown.l0 k y125 t137 y141 0) = some r := by first | (rw [hy141]; with_reducible exact H) | (have H2_ := (Option.bind_some _ _).symm.trans H; rw [hy141]; with_reducible exact H2_) | (have H2_ := (Option.bind_some _ _).symm.trans H; with_reducible exact H2_) | with_reducible exact H | (rw [hy141]; exact H) | exact H
            have Ny141 := Aside0.mk hy141
            clear hy141
            have H' := Aside0.mk H
            clear H
            go_enter Try.func7, Try.ntmps7
            try go_wp2_with (first | ((with_reducible refine gate_callee (f := 10) rfl ?_); refine goesL_ (some 12) rfl rfl Try.func10 (by kernel_rfl) rfl #[] rfl (by (try simp only [List.map_toArray, List.map_cons, List.map_nil]); first | done | rfl | (simp only [List.length_drop, List.length_take]; rfl)) ?_; (with_reducible refine (scrimlaw14_known.calls k  true _ A2.out).mono ?_); rintro e w9 ⟨rfl, hb⟩; refine ⟨_, rfl, ?_⟩; have n0_ := Aside0.mk (below_step (by repeat (first | (with_reducible first | exact HB.out | apply below_alloc | apply pw_below_drewN | apply below_drew1) | exact HB.out)) hb); clear HB; have HB := n0_; clear n0_; (try clear hb); (try clear hb2); (try clear hk); (try clear hi)) | ((with_reducible refine gate_dst (N := 14) rfl ?_); (try (refine gate_guard (by rfl) ?_; dsimp only)); refine Kd.R_lit Kd.string _ 9 ?hg (N := 14) ?hd (xs := ([(⟨#[97, 98, 99, 100, 101, 102, 103, 1]⟩ : ByteArray), (⟨#[8, 8, 8, 8, 8, 8, 8, 8]⟩ : ByteArray), (⟨#[97, 98, 99, 100, 101, 102, 103, 2]⟩ : ByteArray), (⟨#[97, 98, 99, 100, 101, 102, 103, 0]⟩ : ByteArray), (⟨#[97, 98, 99, 100, 101, 102, 103, 9]⟩ : ByteArray), (⟨#[97, 98, 99, 100, 4, 4, 3, 4]⟩ : ByteArray), (⟨#[97, 98, 99, 100, 128, 0, 0, 0]⟩ : ByteArray), (⟨#[97, 98, 99, 100, 101, 102, 103, 128]⟩ : ByteArray), (⟨#[128, 0, 0, 0, 0, 0, 0, 0]⟩ : ByteArray), (⟨#[97, 98, 99, 100, 129, 0, 0, 0]⟩ : ByteArray), (⟨#[128, 0, 0, 0, 0, 0, 0, 1]⟩ : ByteArray), (⟨#[97, 98, 99, 100, 120, 121, 122, 4]⟩ : ByteArray), (⟨#[97, 98, 99, 100, 0, 0, 0, 4]⟩ : ByteArray), (⟨#[97, 98, 99, 100, 101, 102, 103, 255]⟩ : ByteArray)] : List ByteArray)) (inner := [.string (⟨#[97, 98, 99, 100, 101, 102, 103, 1]⟩ : ByteArray), .string (⟨#[8, 8, 8, 8, 8, 8, 8, 8]⟩ : ByteArray), .string (⟨#[97, 98, 99, 100, 101, 102, 103, 2]⟩ : ByteArray), .string (⟨#[97, 98, 99, 100, 101, 102, 103, 0]⟩ : ByteArray), .string (⟨#[97, 98, 99, 100, 101, 102, 103, 9]⟩ : ByteArray), .string (⟨#[97, 98, 99, 100, 4, 4, 3, 4]⟩ : ByteArray), .string (⟨#[97, 98, 99, 100, 128, 0, 0, 0]⟩ : ByteArray), .string (⟨#[97, 98, 99, 100, 101, 102, 103, 128]⟩ : ByteArray), .string (⟨#[128, 0, 0, 0, 0, 0, 0, 0]⟩ : ByteArray), .string (⟨#[97, 98, 99, 100, 129, 0, 0, 0]⟩ : ByteArray), .string (⟨#[128, 0, 0, 0, 0, 0, 0, 1]⟩ : ByteArray), .string (⟨#[97, 98, 99, 100, 120, 121, 122, 4]⟩ : ByteArray), .string (⟨#[97, 98, 99, 100, 0, 0, 0, 4]⟩ : ByteArray), .string (⟨#[97, 98, 99, 100, 101, 102, 103, 255]⟩ : ByteArray)]) (ok := fun _ => True) (okp := fun _ => True) ?hr ?hp (fun _ hk => hk) trivial (Below.refl _ _) (Nat.le_refl _) (by simp) ?_; (case hd => rfl); (case hg => rfl); (case hr => first | (go_simp; done) | (go_simp; rfl)); (case hp => exact (Reps.one (show Kd.M Kd.string _ _ _ (⟨#[97, 98, 99, 100, 101, 102, 103, 1]⟩ : ByteArray) [.string (⟨#[97, 98, 99, 100, 101, 102, 103, 1]⟩ : ByteArray)] from rfl) (Reps.one (show Kd.M Kd.string _ _ _ (⟨#[8, 8, 8, 8, 8, 8, 8, 8]⟩ : ByteArray) [.string (⟨#[8, 8, 8, 8, 8, 8, 8, 8]⟩ : ByteArray)] from rfl) (Reps.one (show Kd.M Kd.string _ _ _ (⟨#[97, 98, 99, 100, 101, 102, 103, 2]⟩ : ByteArray) [.string (⟨#[97, 98, 99, 100, 101, 102, 103, 2]⟩ : ByteArray)] from rfl) (Reps.one (show Kd.M Kd.string _ _ _ (⟨#[97, 98, 99, 100, 101, 102, 103, 0]⟩ : ByteArray) [.string (⟨#[97, 98, 99, 100, 101, 102, 103, 0]⟩ : ByteArray)] from rfl) (Reps.one (show Kd.M Kd.string _ _ _ (⟨#[97, 98, 99, 100, 101, 102, 103, 9]⟩ : ByteArray) [.string (⟨#[97, 98, 99, 100, 101, 102, 103, 9]⟩ : ByteArray)] from rfl) (Reps.one (show Kd.M Kd.string _ _ _ (⟨#[97, 98, 99, 100, 4, 4, 3, 4]⟩ : ByteArray) [.string (⟨#[97, 98, 99, 100, 4, 4, 3, 4]⟩ : ByteArray)] from rfl) (Reps.one (show Kd.M Kd.string _ _ _ (⟨#[97, 98, 99, 100, 128, 0, 0, 0]⟩ : ByteArray) [.string (⟨#[97, 98, 99, 100, 128, 0, 0, 0]⟩ : ByteArray)] from rfl) (Reps.one (show Kd.M Kd.string _ _ _ (⟨#[97, 98, 99, 100, 101, 102, 103, 128]⟩ : ByteArray) [.string (⟨#[97, 98, 99, 100, 101, 102, 103, 128]⟩ : ByteArray)] from rfl) (Reps.one (show Kd.M Kd.string _ _ _ (⟨#[128, 0, 0, 0, 0, 0, 0, 0]⟩ : ByteArray) [.string (⟨#[128, 0, 0, 0, 0, 0, 0, 0]⟩ : ByteArray)] from rfl) (Reps.one (show Kd.M Kd.string _ _ _ (⟨#[97, 98, 99, 100, 129, 0, 0, 0]⟩ : ByteArray) [.string (⟨#[97, 98, 99, 100, 129, 0, 0, 0]⟩ : ByteArray)] from rfl) (Reps.one (show Kd.M Kd.string _ _ _ (⟨#[128, 0, 0, 0, 0, 0, 0, 1]⟩ : ByteArray) [.string (⟨#[128, 0, 0, 0, 0, 0, 0, 1]⟩ : ByteArray)] from rfl) (Reps.one (show Kd.M Kd.string _ _ _ (⟨#[97, 98, 99, 100, 120, 121, 122, 4]⟩ : ByteArray) [.string (⟨#[97, 98, 99, 100, 120, 121, 122, 4]⟩ : ByteArray)] from rfl) (Reps.one (show Kd.M Kd.string _ _ _ (⟨#[97, 98, 99, 100, 0, 0, 0, 4]⟩ : ByteArray) [.string (⟨#[97, 98, 99, 100, 0, 0, 0, 4]⟩ : ByteArray)] from rfl) (Reps.one (show Kd.M Kd.string _ _ _ (⟨#[97, 98, 99, 100, 101, 102, 103, 255]⟩ : ByteArray) [.string (⟨#[97, 98, 99, 100, 101, 102, 103, 255]⟩ : ByteArray)] from rfl) (Reps.none _ _)))))))))))))))); intro v126 w10 ho11 hb hg_ hnew_; clear hg_ hnew_; (first | rw [← Ny125.out] at ho11 | (simp only [Int.reduceToNat] at ho11; rw [← Ny125.out] at ho11)); have n0_ := Aside0.mk (Kd.R_lower ho11 (below_size (by repeat (first | (with_reducible first | exact HB.out | apply below_alloc | apply pw_below_drewN | apply below_drew1) | exact HB.out)))); have n1_ := Aside0.mk (below_step (by repeat (first | (with_reducible first | exact HB.out | apply below_alloc | apply pw_below_drewN | apply below_drew1) | exact HB.out)) hb); clear HB; have HO127 := n0_; have HB := n1_; clear n0_ n1_; clear hb ho11) | ((with_reducible refine gate_dst (N := 15) rfl ?_); (try (refine gate_guard (by rfl) ?_; dsimp only)); refine Kd.R_lit Kd.string _ 9 ?hg (N := 15) ?hd (xs := ([(⟨#[97, 98, 99, 100, 101, 102, 103]⟩ : ByteArray), (⟨#[]⟩ : ByteArray), (⟨#[45]⟩ : ByteArray), (⟨#[45]⟩ : ByteArray), (⟨#[45]⟩ : ByteArray), (⟨#[45]⟩ : ByteArray), (⟨#[45]⟩ : ByteArray), (⟨#[45]⟩ : ByteArray), (⟨#[45]⟩ : ByteArray), (⟨#[45]⟩ : ByteArray), (⟨#[128, 0, 0, 0, 0, 0, 0]⟩ : ByteArray), (⟨#[45]⟩ : ByteArray), (⟨#[45]⟩ : ByteArray), (⟨#[45]⟩ : ByteArray)] : List ByteArray)) (inner := [.string (⟨#[97, 98, 99, 100, 101, 102, 103]⟩ : ByteArray), .string (⟨#[]⟩ : ByteArray), .string (⟨#[45]⟩ : ByteArray), .string (⟨#[45]⟩ : ByteArray), .string (⟨#[45]⟩ : ByteArray), .string (⟨#[45]⟩ : ByteArray), .string (⟨#[45]⟩ : ByteArray), .string (⟨#[45]⟩ : ByteArray), .string (⟨#[45]⟩ : ByteArray), .string (⟨#[45]⟩ : ByteArray), .string (⟨#[128, 0, 0, 0, 0, 0, 0]⟩ : ByteArray), .string (⟨#[45]⟩ : ByteArray), .string (⟨#[45]⟩ : ByteArray), .string (⟨#[45]⟩ : ByteArray)]) (ok := fun _ => True) (okp := fun _ => True) ?hr ?hp (fun _ hk => hk) trivial (Below.refl _ _) (Nat.le_refl _) (by simp) ?_; (case hd => rfl); (case hg => rfl); (case hr => first | (go_simp; done) | (go_simp; rfl)); (case hp => exact (Reps.one (show Kd.M Kd.string _ _ _ (⟨#[97, 98, 99, 100, 101, 102, 103]⟩ : ByteArray) [.string (⟨#[97, 98, 99, 100, 101, 102, 103]⟩ : ByteArray)] from rfl) (Reps.one (show Kd.M Kd.string _ _ _ (⟨#[]⟩ : ByteArray) [.string (⟨#[]⟩ : ByteArray)] from rfl) (Reps.one (show Kd.M Kd.string _ _ _ (⟨#[45]⟩ : ByteArray) [.string (⟨#[45]⟩ : ByteArray)] from rfl) (Reps.one (show Kd.M Kd.string _ _ _ (⟨#[45]⟩ : ByteArray) [.string (⟨#[45]⟩ : ByteArray)] from rfl) (Reps.one (show Kd.M Kd.string _ _ _ (⟨#[45]⟩ : ByteArray) [.string (⟨#[45]⟩ : ByteArray)] from rfl) (Reps.one (show Kd.M Kd.string _ _ _ (⟨#[45]⟩ : ByteArray) [.string (⟨#[45]⟩ : ByteArray)] from rfl) (Reps.one (show Kd.M Kd.string _ _ _ (⟨#[45]⟩ : ByteArray) [.string (⟨#[45]⟩ : ByteArray)] from rfl) (Reps.one (show Kd.M Kd.string _ _ _ (⟨#[45]⟩ : ByteArray) [.string (⟨#[45]⟩ : ByteArray)] from rfl) (Reps.one (show Kd.M Kd.string _ _ _ (⟨#[45]⟩ : ByteArray) [.string (⟨#[45]⟩ : ByteArray)] from rfl) (Reps.one (show Kd.M Kd.string _ _ _ (⟨#[45]⟩ : ByteArray) [.string (⟨#[45]⟩ : ByteArray)] from rfl) (Reps.one (show Kd.M Kd.string _ _ _ (⟨#[128, 0, 0, 0, 0, 0, 0]⟩ : ByteArray) [.string (⟨#[128, 0, 0, 0, 0, 0, 0]⟩ : ByteArray)] from rfl) (Reps.one (show Kd.M Kd.string _ _ _ (⟨#[45]⟩ : ByteArray) [.string (⟨#[45]⟩ : ByteArray)] from rfl) (Reps.one (show Kd.M Kd.string _ _ _ (⟨#[45]⟩ : ByteArray) [.string (⟨#[45]⟩ : ByteArray)] from rfl) (Reps.one (show Kd.M Kd.string _ _ _ (⟨#[45]⟩ : ByteArray) [.string (⟨#[45]⟩ : ByteArray)] from rfl) (Reps.none _ _)))))))))))))))); intro v129 w12 ho13 hb hg_ hnew_; clear hg_ hnew_; (first | rw [← Ny128.out] at ho13 | (simp only [Int.reduceToNat] at ho13; rw [← Ny128.out] at ho13)); have n0_ := Aside0.mk (Kd.R_elder' (by (with_reducible repeat (first | apply Kd.R_alloc | apply Kd.R_drewN | apply Kd.R_drew)); exact HO127.out) (Kd.R_base ho13) hb); have n1_ := Aside0.mk (Kd.R_lower (Kd.R_new' ho13 (Kd.R_lt (by (with_reducible repeat (first | apply Kd.R_alloc | apply Kd.R_drewN | apply Kd.R_drew)); exact HO127.out))) (below_size (by repeat (first | (with_reducible first | exact HB.out | apply below_alloc | apply pw_below_drewN | apply below_drew1) | exact HB.out)))); have n2_ := Aside0.mk (below_step (by repeat (first | (with_reducible first | exact HB.out | apply below_alloc | apply pw_below_drewN | apply below_drew1) | exact HB.out)) hb); clear HO127; clear HB; have HO127 := n0_; have HO130 := n1_; have HB := n2_; clear n0_ n1_ n2_; clear hb ho13) | ((with_reducible refine gate_dst (N := 16) rfl ?_); (try (refine gate_guard (by rfl) ?_; dsimp only)); refine Kd.R_lit Kd.string _ 9 ?hg (N := 16) ?hd (xs := ([(⟨#[45]⟩ : ByteArray), (⟨#[45]⟩ : ByteArray), (⟨#[45]⟩ : ByteArray), (⟨#[45]⟩ : ByteArray), (⟨#[45]⟩ : ByteArray), (⟨#[45]⟩ : ByteArray), (⟨#[97, 98, 99, 100]⟩ : ByteArray), (⟨#[97, 98, 99, 100, 101, 102, 103]⟩ : ByteArray), (⟨#[]⟩ : ByteArray), (⟨#[45]⟩ : ByteArray), (⟨#[45]⟩ : ByteArray), (⟨#[45]⟩ : ByteArray), (⟨#[45]⟩ : ByteArray), (⟨#[45]⟩ : ByteArray)] : List ByteArray)) (inner := [.string (⟨#[45]⟩ : ByteArray), .string (⟨#[45]⟩ : ByteArray), .string (⟨#[45]⟩ : ByteArray), .string (⟨#[45]⟩ : ByteArray), .string (⟨#[45]⟩ : ByteArray), .string (⟨#[45]⟩ : ByteArray), .string (⟨#[97, 98, 99, 100]⟩ : ByteArray), .string (⟨#[97, 98, 99, 100, 101, 102, 103]⟩ : ByteArray), .string (⟨#[]⟩ : ByteArray), .string (⟨#[45]⟩ : ByteArray), .string (⟨#[45]⟩ : ByteArray), .string (⟨#[45]⟩ : ByteArray), .string (⟨#[45]⟩ : ByteArray), .string (⟨#[45]⟩ : ByteArray)]) (ok := fun _ => True) (okp := fun _ => True) ?hr ?hp (fun _ hk => hk) trivial (Below.refl _ _) (Nat.le_refl _) (by simp) ?_; (case hd => rfl); (case hg => rfl); (case hr => first | (go_simp; done) | (go_simp; rfl)); (case hp => exact (Reps.one (show Kd.M Kd.string _ _ _ (⟨#[45]⟩ : ByteArray) [.string (⟨#[45]⟩ : ByteArray)] from rfl) (Reps.one (show Kd.M Kd.string _ _ _ (⟨#[45]⟩ : ByteArray) [.string (⟨#[45]⟩ : ByteArray)] from rfl) (Reps.one (show Kd.M Kd.string _ _ _ (⟨#[45]⟩ : ByteArray) [.string (⟨#[45]⟩ : ByteArray)] from rfl) (Reps.one (show Kd.M Kd.string _ _ _ (⟨#[45]⟩ : ByteArray) [.string (⟨#[45]⟩ : ByteArray)] from rfl) (Reps.one (show Kd.M Kd.string _ _ _ (⟨#[45]⟩ : ByteArray) [.string (⟨#[45]⟩ : ByteArray)] from rfl) (Reps.one (show Kd.M Kd.string _ _ _ (⟨#[45]⟩ : ByteArray) [.string (⟨#[45]⟩ : ByteArray)] from rfl) (Reps.one (show Kd.M Kd.string _ _ _ (⟨#[97, 98, 99, 100]⟩ : ByteArray) [.string (⟨#[97, 98, 99, 100]⟩ : ByteArray)] from rfl) (Reps.one (show Kd.M Kd.string _ _ _ (⟨#[97, 98, 99, 100, 101, 102, 103]⟩ : ByteArray) [.string (⟨#[97, 98, 99, 100, 101, 102, 103]⟩ : ByteArray)] from rfl) (Reps.one (show Kd.M Kd.string _ _ _ (⟨#[]⟩ : ByteArray) [.string (⟨#[]⟩ : ByteArray)] from rfl) (Reps.one (show Kd.M Kd.string _ _ _ (⟨#[45]⟩ : ByteArray) [.string (⟨#[45]⟩ : ByteArray)] from rfl) (Reps.one (show Kd.M Kd.string _ _ _ (⟨#[45]⟩ : ByteArray) [.string (⟨#[45]⟩ : ByteArray)] from rfl) (Reps.one (show Kd.M Kd.string _ _ _ (⟨#[45]⟩ : ByteArray) [.string (⟨#[45]⟩ : ByteArray)] from rfl) (Reps.one (show Kd.M Kd.string _ _ _ (⟨#[45]⟩ : ByteArray) [.string (⟨#[45]⟩ : ByteArray)] from rfl) (Reps.one (show Kd.M Kd.string _ _ _ (⟨#[45]⟩ : ByteArray) [.string (⟨#[45]⟩ : ByteArray)] from rfl) (Reps.none _ _)))))))))))))))); intro v132 w14 ho15 hb hg_ hnew_; clear hg_ hnew_; (first | rw [← Ny131.out] at ho15 | (simp only [Int.reduceToNat] at ho15; rw [← Ny131.out] at ho15)); have n0_ := Aside0.mk (Kd.R_elder' (by (with_reducible repeat (first | apply Kd.R_alloc | apply Kd.R_drewN | apply Kd.R_drew)); exact HO127.out) (Kd.R_base ho15) hb); have n1_ := Aside0.mk (Kd.R_elder' (by (with_reducible repeat (first | apply Kd.R_alloc | apply Kd.R_drewN | apply Kd.R_drew)); exact HO130.out) (Kd.R_base ho15) hb); have n2_ := Aside0.mk (Kd.R_lower (Kd.R_new' (Kd.R_new' ho15 (Kd.R_lt (by (with_reducible repeat (first | apply Kd.R_alloc | apply Kd.R_drewN | apply Kd.R_drew)); exact HO127.out))) (Kd.R_lt (by (with_reducible repeat (first | apply Kd.R_alloc | apply Kd.R_drewN | apply Kd.R_drew)); exact HO130.out))) (below_size (by repeat (first | (with_reducible first | exact HB.out | apply below_alloc | apply pw_below_drewN | apply below_drew1) | exact HB.out)))); have n3_ := Aside0.mk (below_step (by repeat (first | (with_reducible first | exact HB.out | apply below_alloc | apply pw_below_drewN | apply below_drew1) | exact HB.out)) hb); clear HO127; clear HO130; clear HB; have HO127 := n0_; have HO130 := n1_; have HO133 := n2_; have HB := n3_; clear n0_ n1_ n2_ n3_; clear hb ho15) | ((with_reducible refine gate_dst (N := 17) rfl ?_); (try (refine gate_guard (by rfl) ?_; dsimp only)); refine Kd.R_lit Kd.string _ 9 ?hg (N := 17) ?hd (xs := ([(⟨#[97, 98, 99, 100, 101, 102, 103]⟩ : ByteArray), (⟨#[]⟩ : ByteArray), (⟨#[97, 98, 99, 100, 101, 102]⟩ : ByteArray), (⟨#[45]⟩ : ByteArray), (⟨#[45]⟩ : ByteArray), (⟨#[97, 98, 99, 100]⟩ : ByteArray), (⟨#[45]⟩ : ByteArray), (⟨#[45]⟩ : ByteArray), (⟨#[45]⟩ : ByteArray), (⟨#[45]⟩ : ByteArray), (⟨#[128, 0, 0, 0, 0, 0, 0]⟩ : ByteArray), (⟨#[97, 98, 99, 100]⟩ : ByteArray), (⟨#[97, 98, 99, 100]⟩ : ByteArray), (⟨#[45]⟩ : ByteArray)] : List ByteArray)) (inner := [.string (⟨#[97, 98, 99, 100, 101, 102, 103]⟩ : ByteArray), .string (⟨#[]⟩ : ByteArray), .string (⟨#[97, 98, 99, 100, 101, 102]⟩ : ByteArray), .string (⟨#[45]⟩ : ByteArray), .string (⟨#[45]⟩ : ByteArray), .string (⟨#[97, 98, 99, 100]⟩ : ByteArray), .string (⟨#[45]⟩ : ByteArray), .string (⟨#[45]⟩ : ByteArray), .string (⟨#[45]⟩ : ByteArray), .string (⟨#[45]⟩ : ByteArray), .string (⟨#[128, 0, 0, 0, 0, 0, 0]⟩ : ByteArray), .string (⟨#[97, 98, 99, 100]⟩ : ByteArray), .string (⟨#[97, 98, 99, 100]⟩ : ByteArray), .string (⟨#[45]⟩ : ByteArray)]) (ok := fun _ => True) (okp := fun _ => True) ?hr ?hp (fun _ hk => hk) trivial (Below.refl _ _) (Nat.le_refl _) (by simp) ?_; (case hd => rfl); (case hg => rfl); (case hr => first | (go_simp; done) | (go_simp; rfl)); (case hp => exact (Reps.one (show Kd.M Kd.string _ _ _ (⟨#[97, 98, 99, 100, 101, 102, 103]⟩ : ByteArray) [.string (⟨#[97, 98, 99, 100, 101, 102, 103]⟩ : ByteArray)] from rfl) (Reps.one (show Kd.M Kd.string _ _ _ (⟨#[]⟩ : ByteArray) [.string (⟨#[]⟩ : ByteArray)] from rfl) (Reps.one (show Kd.M Kd.string _ _ _ (⟨#[97, 98, 99, 100, 101, 102]⟩ : ByteArray) [.string (⟨#[97, 98, 99, 100, 101, 102]⟩ : ByteArray)] from rfl) (Reps.one (show Kd.M Kd.string _ _ _ (⟨#[45]⟩ : ByteArray) [.string (⟨#[45]⟩ : ByteArray)] from rfl) (Reps.one (show Kd.M Kd.string _ _ _ (⟨#[45]⟩ : ByteArray) [.string (⟨#[45]⟩ : ByteArray)] from rfl) (Reps.one (show Kd.M Kd.string _ _ _ (⟨#[97, 98, 99, 100]⟩ : ByteArray) [.string (⟨#[97, 98, 99, 100]⟩ : ByteArray)] from rfl) (Reps.one (show Kd.M Kd.string _ _ _ (⟨#[45]⟩ : ByteArray) [.string (⟨#[45]⟩ : ByteArray)] from rfl) (Reps.one (show Kd.M Kd.string _ _ _ (⟨#[45]⟩ : ByteArray) [.string (⟨#[45]⟩ : ByteArray)] from rfl) (Reps.one (show Kd.M Kd.string _ _ _ (⟨#[45]⟩ : ByteArray) [.string (⟨#[45]⟩ : ByteArray)] from rfl) (Reps.one (show Kd.M Kd.string _ _ _ (⟨#[45]⟩ : ByteArray) [.string (⟨#[45]⟩ : ByteArray)] from rfl) (Reps.one (show Kd.M Kd.string _ _ _ (⟨#[128, 0, 0, 0, 0, 0, 0]⟩ : ByteArray) [.string (⟨#[128, 0, 0, 0, 0, 0, 0]⟩ : ByteArray)] from rfl) (Reps.one (show Kd.M Kd.string _ _ _ (⟨#[97, 98, 99, 100]⟩ : ByteArray) [.string (⟨#[97, 98, 99, 100]⟩ : ByteArray)] from rfl) (Reps.one (show Kd.M Kd.string _ _ _ (⟨#[97, 98, 99, 100]⟩ : ByteArray) [.string (⟨#[97, 98, 99, 100]⟩ : ByteArray)] from rfl) (Reps.one (show Kd.M Kd.string _ _ _ (⟨#[45]⟩ : ByteArray) [.string (⟨#[45]⟩ : ByteArray)] from rfl) (Reps.none _ _)))))))))))))))); intro v135 w16 ho17 hb hg_ hnew_; clear hg_ hnew_; (first | rw [← Ny134.out] at ho17 | (simp only [Int.reduceToNat] at ho17; rw [← Ny134.out] at ho17)); have n0_ := Aside0.mk (Kd.R_elder' (by (with_reducible repeat (first | apply Kd.R_alloc | apply Kd.R_drewN | apply Kd.R_drew)); exact HO127.out) (Kd.R_base ho17) hb); have n1_ := Aside0.mk (Kd.R_elder' (by (with_reducible repeat (first | apply Kd.R_alloc | apply Kd.R_drewN | apply Kd.R_drew)); exact HO130.out) (Kd.R_base ho17) hb); have n2_ := Aside0.mk (Kd.R_elder' (by (with_reducible repeat (first | apply Kd.R_alloc | apply Kd.R_drewN | apply Kd.R_drew)); exact HO133.out) (Kd.R_base ho17) hb); have n3_ := Aside0.mk (Kd.R_lower (Kd.R_new' (Kd.R_new' (Kd.R_new' ho17 (Kd.R_lt (by (with_reducible repeat (first | apply Kd.R_alloc | apply Kd.R_drewN | apply Kd.R_drew)); exact HO127.out))) (Kd.R_lt (by (with_reducible repeat (first | apply Kd.R_alloc | apply Kd.R_drewN | apply Kd.R_drew)); exact HO130.out))) (Kd.R_lt (by (with_reducible repeat (first | apply Kd.R_alloc | apply Kd.R_drewN | apply Kd.R_drew)); exact HO133.out))) (below_size (by repeat (first | (with_reducible first | exact HB.out | apply below_alloc | apply pw_below_drewN | apply below_drew1) | exact HB.out)))); have n4_ := Aside0.mk (below_step (by repeat (first | (with_reducible first | exact HB.out | apply below_alloc | apply pw_below_drewN | apply below_drew1) | exact HB.out)) hb); clear HO127; clear HO130; clear HO133; clear HB; have HO127 := n0_; have HO130 := n1_; have HO133 := n2_; have HO136 := n3_; have HB := n4_; clear n0_ n1_ n2_ n3_ n4_; clear hb ho17; obtain ⟨Ao18, co18, eo18⟩ := Kd.R_slice HO127.out; subst eo18) | ((with_reducible refine gate_callee (f := 11) rfl ?_); refine goesL_ (some 21) rfl rfl Try.func11 (by kernel_rfl) rfl #[.int .i64 a0, .int .i64 (y125.length : Int)] rfl (by (try simp only [List.map_toArray, List.map_cons, List.map_nil]); first | done | rfl | (simp only [List.length_drop, List.length_take]; rfl)) ?_; (with_reducible refine (scrimlaw14_within.calls a0 (y125.length : Int) t137 _ A4.out).mono ?_); rintro e w' ⟨rfl, ⟨nd, rfl⟩⟩; refine ⟨_, rfl, ?_⟩))
            (try (rw [drewN_self w16]; generalize hq_ : World.drewN w16 _ = w16; have n0_ : Aside0 (Kd.R Kd.string 9 w16 w.heap.size (fun k_ => some k_ ≠ (v129 : Value).ownBlock ∧ some k_ ≠ (v132 : Value).ownBlock ∧ some k_ ≠ (v135 : Value).ownBlock) (.slice Ao18 y125.length co18) y125) := ⟨by rw [← hq_]; exact (by (with_reducible repeat (first | apply Kd.R_alloc | apply Kd.R_drewN | apply Kd.R_drew)); exact Kd.R_mono HO127.out (fun _ hk => ⟨hk.1.1.2, ⟨hk.1.2, hk.2⟩⟩))⟩; have n1_ : Aside0 (Kd.R Kd.string 9 w16 w.heap.size (fun k_ => some k_ ≠ (.slice Ao18 y125.length co18 : Value).ownBlock ∧ some k_ ≠ (v132 : Value).ownBlock ∧ some k_ ≠ (v135 : Value).ownBlock) v129 y128) := ⟨by rw [← hq_]; exact (by (with_reducible repeat (first | apply Kd.R_alloc | apply Kd.R_drewN | apply Kd.R_drew)); exact Kd.R_mono HO130.out (fun _ hk => ⟨hk.1.1.2, ⟨hk.1.2, hk.2⟩⟩))⟩; have n2_ : Aside0 (Kd.R Kd.string 9 w16 w.heap.size (fun k_ => some k_ ≠ (.slice Ao18 y125.length co18 : Value).ownBlock ∧ some k_ ≠ (v129 : Value).ownBlock ∧ some k_ ≠ (v135 : Value).ownBlock) v132 y131) := ⟨by rw [← hq_]; exact (by (with_reducible repeat (first | apply Kd.R_alloc | apply Kd.R_drewN | apply Kd.R_drew)); exact Kd.R_mono HO133.out (fun _ hk => ⟨hk.1.1.2, ⟨hk.1.2, hk.2⟩⟩))⟩; have n3_ : Aside0 (Kd.R Kd.string 9 w16 w.heap.size (fun k_ => some k_ ≠ (.slice Ao18 y125.length co18 : Value).ownBlock ∧ some k_ ≠ (v129 : Value).ownBlock ∧ some k_ ≠ (v132 : Value).ownBlock) v135 y134) := ⟨by rw [← hq_]; exact (by (with_reducible repeat (first | apply Kd.R_alloc | apply Kd.R_drewN | apply Kd.R_drew)); exact Kd.R_mono HO136.out (fun _ hk => ⟨hk.1.1.2, ⟨hk.1.2, hk.2⟩⟩))⟩; have n4_ : Aside0 (Below w.heap.size w w16) := ⟨by rw [← hq_]; exact (by repeat (first | (with_reducible first | exact HB.out | apply below_alloc | apply pw_below_drewN | apply below_drew1) | exact HB.out))⟩; clear HO127 HO130 HO133 HO136 HB hq_; have HO127 := n0_; have HO130 := n1_; have HO133 := n2_; have HO136 := n3_; have HB := n4_; clear n0_ n1_ n2_ n3_ n4_))
            have n0_ := Aside0.mk (Kd.R_drew HO127.out)
            have n1_ := Aside0.mk (Kd.R_drew HO130.out)
            have n2_ := Aside0.mk (Kd.R_drew HO133.out)
            have n3_ := Aside0.mk (Kd.R_drew HO136.out)
            have n4_ := Aside0.mk (below_drew1 HB.out)
            clear HO127
            clear HO130
            clear HO133
            clear HO136
            clear HB
            have HO127 := n0_
            have HO130 := n1_
            have HO133 := n2_
            have HO136 := n3_
            have HB := n4_
            clear n0_ n1_ n2_ n3_ n4_
            obtain ⟨Ao20, co20, eo20⟩ := Kd.R_slice HO130.out
            (first | subst eo20 | (injection eo20 with f1_ f2_ f3_; have f4_ := f1_.symm; have f5_ := f3_.symm; clear f1_ f2_ f3_; subst f4_; subst f5_))
            have p138 : 0 ≤ (t137 : Int) := of_decide_eq_true (by first | (with_reducible assumption) | assumption)
            have q138 : t137 < (y128.length : Int) := of_decide_eq_true (by first | (with_reducible assumption) | assumption)
            obtain ⟨ad138, e138, hx138_0⟩ := Kd.at_string (Kd.R_reads' HO130.out).2.2 t137 p138 q138
            cases e138
            replace p138 := eq_true p138
            replace q138 := eq_true q138
            obtain ⟨Ao21, co21, eo21⟩ := Kd.R_slice HO133.out
            (first | subst eo21 | (injection eo21 with f1_ f2_ f3_; have f4_ := f1_.symm; have f5_ := f3_.symm; clear f1_ f2_ f3_; subst f4_; subst f5_))
            have p139 : 0 ≤ (t137 : Int) := of_decide_eq_true (by first | (with_reducible assumption) | assumption)
            have q139 : t137 < (y131.length : Int) := of_decide_eq_true (by first | (with_reducible assumption) | assumption)
            obtain ⟨ad139, e139, hx139_0⟩ := Kd.at_string (Kd.R_reads' HO133.out).2.2 t137 p139 q139
            cases e139
            replace p139 := eq_true p139
            replace q139 := eq_true q139
            obtain ⟨Ao22, co22, eo22⟩ := Kd.R_slice HO136.out
            (first | subst eo22 | (injection eo22 with f1_ f2_ f3_; have f4_ := f1_.symm; have f5_ := f3_.symm; clear f1_ f2_ f3_; subst f4_; subst f5_))
            have p140 : 0 ≤ (t137 : Int) := of_decide_eq_true (by first | (with_reducible assumption) | assumption)
            have q140 : t137 < (y134.length : Int) := of_decide_eq_true (by first | (with_reducible assumption) | assumption)
            obtain ⟨ad140, e140, hx140_0⟩ := Kd.at_string (Kd.R_reads' HO136.out).2.2 t137 p140 q140
            cases e140
            replace p140 := eq_true p140
            replace q140 := eq_true q140
            refine start_ (n := 14) (S := fun w' => w'.cell? (ad138.add (t137).toNat) = some (.string (rdOf ByteArray.empty y128 t137)) ∧ w'.cell? (ad139.add (t137).toNat) = some (.string (rdOf ByteArray.empty y131 t137)) ∧ w'.cell? (ad140.add (t137).toNat) = some (.string (rdOf ByteArray.empty y134 t137))) (ds := []) #[false, false, false, false, false, false, false, false, false, false, false, false, false, false] (by kernel_rfl) rfl rfl ⟨hx138_0, hx139_0, hx140_0⟩ (fun hHeld => ?_); refine with_tabW scrimlaw14_PadKnown.tab8 scrimlaw14_PadKnown.bits8 (fun HT_ HW_ => ?_)
            generalize w16.drew = w19 at HO127 HO130 HO133 HO136 HB hx138_0 hx139_0 hx140_0 hHeld ⊢
            refine pure_ (i := 0) (N := some 22) (v := ?_) (a' := ?_) #[true, false, false, false, false, false, false, false, false, false, false, false, false, false] rfl rfl (any_of HT_.out (by kernel_rfl)) (fun _ _ _ h => h) (Or.inl ⟨by rfl, ?_⟩) ?_ ?_
            rotate_left
            · intro w'
              go_simp
              with_reducible rfl
            rotate_left
            · simp only [Act.put, List.setIfInBounds_toArray, List.set_cons_zero, List.set_cons_succ, i64_w, i32_w]
              rfl
            refine pure_ (i := 1) (N := some 23) (v := ?_) (a' := ?_) #[true, true, false, false, false, false, false, false, false, false, false, false, false, false] rfl rfl (any_of HT_.out (by kernel_rfl)) (fun _ _ _ h => h) (Or.inl ⟨by rfl, ?_⟩) ?_ ?_
            rotate_left
            · intro w'
              go_simp
              with_reducible rfl
            rotate_left
            · simp only [Act.put, List.setIfInBounds_toArray, List.set_cons_zero, List.set_cons_succ, i64_w, i32_w]
              rfl
            refine pure_ (i := 2) (N := some 24) (v := ?_) (a' := ?_) #[true, true, true, false, false, false, false, false, false, false, false, false, false, false] rfl rfl (any_of HT_.out (by kernel_rfl)) (fun _ _ _ h => h) (Or.inl ⟨by rfl, ?_⟩) ?_ ?_
            rotate_left
            · intro w'
              go_simp
              with_reducible rfl
            rotate_left
            · simp only [Act.put, List.setIfInBounds_toArray, List.set_cons_zero, List.set_cons_succ, i64_w, i32_w]
              rfl
            refine pure_ (i := 4) (N := some 26) (v := ?_) (a' := ?_) #[true, true, true, false, true, false, false, false, false, false, false, false, false, false] rfl rfl (any_of HT_.out (by kernel_rfl)) (fun _ _ _ h => h) (Or.inl ⟨by rfl, ?_⟩) ?_ ?_
            rotate_left
            · intro w'
              go_simp
              with_reducible rfl
            rotate_left
            · simp only [Act.put, List.setIfInBounds_toArray, List.set_cons_zero, List.set_cons_succ, i64_w, i32_w]
              rfl
            refine pure_ (i := 5) (N := some 27) (v := ?_) (a' := ?_) #[true, true, true, false, true, true, false, false, false, false, false, false, false, false] rfl rfl (any_of HT_.out (by kernel_rfl)) (fun _ _ _ h => h) (Or.inl ⟨by rfl, ?_⟩) ?_ ?_
            rotate_left
            · intro w'
              go_simp
              with_reducible rfl
            rotate_left
            · simp only [Act.put, List.setIfInBounds_toArray, List.set_cons_zero, List.set_cons_succ, i64_w, i32_w]
              rfl
            refine pure_ (i := 6) (N := some 28) (v := ?_) (a' := ?_) #[true, true, true, false, true, true, true, false, false, false, false, false, false, false] rfl rfl (any_of HT_.out (by kernel_rfl)) (fun _ _ _ h => h) (Or.inl ⟨by rfl, ?_⟩) ?_ ?_
            rotate_left
            · intro w'
              go_simp
              with_reducible rfl
            rotate_left
            · simp only [Act.put, List.setIfInBounds_toArray, List.set_cons_zero, List.set_cons_succ, i64_w, i32_w]
              rfl
            refine pure_ (i := 8) (N := some 30) (v := ?_) (a' := ?_) #[true, true, true, false, true, true, true, false, true, false, false, false, false, false] rfl rfl (any_of HT_.out (by kernel_rfl)) (fun _ _ _ h => h) (Or.inl ⟨by rfl, ?_⟩) ?_ ?_
            rotate_left
            · intro w'
              go_simp
              with_reducible rfl
            rotate_left
            · simp only [Act.put, List.setIfInBounds_toArray, List.set_cons_zero, List.set_cons_succ, i64_w, i32_w]
              rfl
            refine pure_ (i := 9) (N := some 31) (v := ?_) (a' := ?_) #[true, true, true, false, true, true, true, false, true, true, false, false, false, false] rfl rfl (any_of HT_.out (by kernel_rfl)) (fun _ _ _ h => h) (Or.inl ⟨by rfl, ?_⟩) ?_ ?_
            rotate_left
            · intro w'
              go_simp
              with_reducible rfl
            rotate_left
            · simp only [Act.put, List.setIfInBounds_toArray, List.set_cons_zero, List.set_cons_succ, i64_w, i32_w]
              rfl
            refine pure_ (i := 10) (N := some 32) (v := ?_) (a' := ?_) #[true, true, true, false, true, true, true, false, true, true, true, false, false, false] rfl rfl (any_of HT_.out (by kernel_rfl)) (fun _ _ _ h => h) (Or.inl ⟨by rfl, ?_⟩) ?_ ?_
            rotate_left
            · intro w'
              go_simp
              with_reducible rfl
            rotate_left
            · simp only [Act.put, List.setIfInBounds_toArray, List.set_cons_zero, List.set_cons_succ, i64_w, i32_w]
              rfl
            refine take_ (i := 3) (N := some 25) (v := ?_) (a' := ?_) #[true, true, true, true, true, true, true, false, true, true, true, false, false, false] rfl rfl (take_ofW HT_.out HW_.out (by kernel_rfl)) (fun _ _ _ h => h) (Or.inl ⟨by rfl, ?_⟩) hHeld ?_ ?_
            rotate_left
            · rintro w' ⟨s0, s1, s2⟩
              go_simp
              with_reducible rfl
            rotate_left
            · simp only [Act.put, List.setIfInBounds_toArray, List.set_cons_zero, List.set_cons_succ, i64_w, i32_w]
              rfl
            refine take_ (i := 7) (N := some 29) (v := ?_) (a' := ?_) #[true, true, true, true, true, true, true, true, true, true, true, false, false, false] rfl rfl (take_ofW HT_.out HW_.out (by kernel_rfl)) (fun _ _ _ h => h) (Or.inl ⟨by rfl, ?_⟩) hHeld ?_ ?_
            rotate_left
            · rintro w' ⟨s0, s1, s2⟩
              go_simp
              with_reducible rfl
            rotate_left
            · simp only [Act.put, List.setIfInBounds_toArray, List.set_cons_zero, List.set_cons_succ, i64_w, i32_w]
              rfl
            refine take_ (i := 11) (N := some 33) (v := ?_) (a' := ?_) #[true, true, true, true, true, true, true, true, true, true, true, true, false, false] rfl rfl (take_ofW HT_.out HW_.out (by kernel_rfl)) (fun _ _ _ h => h) (Or.inl ⟨by rfl, ?_⟩) hHeld ?_ ?_
            rotate_left
            · rintro w' ⟨s0, s1, s2⟩
              go_simp
              with_reducible rfl
            rotate_left
            · simp only [Act.put, List.setIfInBounds_toArray, List.set_cons_zero, List.set_cons_succ, i64_w, i32_w]
              rfl
            refine one_ (i := 12) (N := some 34) #[true, true, true, true, true, true, true, true, true, true, true, true, true, false] rfl rfl (one_of HT_.out (by kernel_rfl)) (by decide) (fun K hK => ?_)
            refine Kd.R_lit_step Kd.string _ 9 ?hg (N := 34) ?hd (xs := ([rdOf ByteArray.empty y128 t137, rdOf ByteArray.empty y131 t137, rdOf ByteArray.empty y134 t137] : List ByteArray)) (inner := [.string (rdOf ByteArray.empty y128 t137), .string (rdOf ByteArray.empty y131 t137), .string (rdOf ByteArray.empty y134 t137)]) (ok := fun _ => True) (okp := fun _ => True) ?hr ?hp (fun _ hk => hk) trivial (Below.refl _ _) (Nat.le_refl _) (by simp) ?_; (case hd => rfl); (case hg => rfl); (case hr => first | (go_simp; done) | (go_simp; rfl)); (case hp => exact (Reps.one (show Kd.M Kd.string _ _ _ (rdOf ByteArray.empty y128 t137) [.string (rdOf ByteArray.empty y128 t137)] from rfl) (Reps.one (show Kd.M Kd.string _ _ _ (rdOf ByteArray.empty y131 t137) [.string (rdOf ByteArray.empty y131 t137)] from rfl) (Reps.one (show Kd.M Kd.string _ _ _ (rdOf ByteArray.empty y134 t137) [.string (rdOf ByteArray.empty y134 t137)] from rfl) (Reps.none _ _)))))
            intro v142 w23 ho24 hb hg_ hnew_
            have HS0_ := (hb.cell (World.block_lt_of_cell? _ _ (hHeld.1))).trans (hHeld.1)
            have HS1_ := (hb.cell (World.block_lt_of_cell? _ _ (hHeld.2.1))).trans (hHeld.2.1)
            have HS2_ := (hb.cell (World.block_lt_of_cell? _ _ (hHeld.2.2))).trans (hHeld.2.2)
            clear hg_ hnew_
            (first | rw [← Ny141.out] at ho24 | (simp only [Int.reduceToNat] at ho24; rw [← Ny141.out] at ho24))
            have n0_ := Aside0.mk (Kd.R_elder' (by (with_reducible repeat (first | apply Kd.R_alloc | apply Kd.R_drewN | apply Kd.R_drew)); exact HO127.out) (Kd.R_base ho24) hb)
            have n1_ := Aside0.mk (Kd.R_elder' (by (with_reducible repeat (first | apply Kd.R_alloc | apply Kd.R_drewN | apply Kd.R_drew)); exact HO130.out) (Kd.R_base ho24) hb)
            have n2_ := Aside0.mk (Kd.R_elder' (by (with_reducible repeat (first | apply Kd.R_alloc | apply Kd.R_drewN | apply Kd.R_drew)); exact HO133.out) (Kd.R_base ho24) hb)
            have n3_ := Aside0.mk (Kd.R_elder' (by (with_reducible repeat (first | apply Kd.R_alloc | apply Kd.R_drewN | apply Kd.R_drew)); exact HO136.out) (Kd.R_base ho24) hb)
            have n4_ := Aside0.mk (Kd.R_lower (Kd.R_new' (Kd.R_new' (Kd.R_new' (Kd.R_new' ho24 (Kd.R_lt (by (with_reducible repeat (first | apply Kd.R_alloc | apply Kd.R_drewN | apply Kd.R_drew)); exact HO127.out))) (Kd.R_lt (by (with_reducible repeat (first | apply Kd.R_alloc | apply Kd.R_drewN | apply Kd.R_drew)); exact HO130.out))) (Kd.R_lt (by (with_reducible repeat (first | apply Kd.R_alloc | apply Kd.R_drewN | apply Kd.R_drew)); exact HO133.out))) (Kd.R_lt (by (with_reducible repeat (first | apply Kd.R_alloc | apply Kd.R_drewN | apply Kd.R_drew)); exact HO136.out))) (below_size (by repeat (first | (with_reducible first | exact HB.out | apply below_alloc | apply pw_below_drewN | apply below_drew1) | exact HB.out))))
            have n5_ := Aside0.mk (below_step (by repeat (first | (with_reducible first | exact HB.out | apply below_alloc | apply pw_below_drewN | apply below_drew1) | exact HB.out)) hb)
            clear HO127
            clear HO130
            clear HO133
            clear HO136
            clear HB
            have HO127 := n0_
            have HO130 := n1_
            have HO133 := n2_
            have HO136 := n3_
            have HO143 := n4_
            have HB := n5_
            clear n0_ n1_ n2_ n3_ n4_ n5_
            clear hb ho24
            refine hK.out _ _ ⟨HS0_, HS1_, HS2_⟩ (fun hHeld => ?_)
            clear hK K
            refine norm_ (a' := ?_) ?_ ?_
            rotate_left
            · show Act.put _ (some 34) _ = _
              simp only [Act.put, List.setIfInBounds_toArray, List.set_cons_zero, List.set_cons_succ, i64_w, i32_w]
              rfl
            refine pure_ (i := 13) (N := some 8) (v := ?_) (a' := ?_) #[true, true, true, true, true, true, true, true, true, true, true, true, true, true] rfl rfl (any_of HT_.out (by kernel_rfl)) (fun _ _ _ h => h) (Or.inl ⟨by rfl, ?_⟩) ?_ ?_
            rotate_left
            · intro w'
              go_simp
              with_reducible rfl
            rotate_left
            · simp only [Act.put, List.setIfInBounds_toArray, List.set_cons_zero, List.set_cons_succ, i64_w, i32_w]
              rfl
            refine done_ (done_of HT_.out (by kernel_rfl)) ?_
            try go_wp2
            go_loopg [9] k (fun kq v9 w' => ∃ (x9_1 : Int), v9 = .int .i64 x9_1 ∧ Aside0 (scrimlaw14_PadKnown.l0 kq y125 t137 y141 x9_1 = some r) ∧ Aside0 (kq ≤ k) ∧ Aside0 (Kd.R Kd.string 9 w' w.heap.size (fun k_ => some k_ ≠ (v142 : Value).ownBlock) (.slice Ao18 y125.length co18) y125) ∧ Aside0 (Kd.R Kd.string 9 w' w.heap.size (fun k_ => some k_ ≠ ((.slice Ao18 y125.length co18) : Value).ownBlock) v142 y141) ∧ Aside0 (Below w.heap.size w w'))
            case atStart => exact ⟨(0), (by first | rfl | (simp; done) | (simp [*]; done)), H', ⟨Nat.le_refl _⟩, ⟨by (with_reducible repeat (first | apply Kd.R_alloc | apply Kd.R_drewN | apply Kd.R_drew)); exact Kd.R_mono HO127.out (fun _ hk => hk.2)⟩, ⟨by (with_reducible repeat (first | apply Kd.R_alloc | apply Kd.R_drewN | apply Kd.R_drew)); exact Kd.R_mono HO143.out (fun _ hk => hk.1.1.1.2)⟩, ⟨by repeat (first | (with_reducible first | exact HB.out | apply below_alloc | apply pw_below_drewN | apply below_drew1) | exact HB.out)⟩⟩
            case round =>
              clear H'
              try clear c1
              try clear p1
              try clear q1
              try clear hx1
              try clear p2
              try clear c3
              try clear c5
              try clear c5b0
              try clear c6
              try clear c6b0
              try clear c7
              try clear c7b0
              try clear c8
              try clear c8b0
              try clear c10
              try clear c11
              try clear p13
              try clear q13
              try clear hx13
              try clear p14
              try clear q14
              try clear hx14
              try clear hx138_0
              try clear hx139_0
              try clear hx140_0
              try clear p138
              try clear p139
              try clear p140
              try clear q138
              try clear q139
              try clear q140
              obtain ⟨x9_1, rfl, HA, HK1, HO_3, HO_8, HB⟩ := hrel
              cases gk with
              | zero => exact absurd HA.out (by simp [scrimlaw14_PadKnown.l0])
              | succ k1 =>
                have H := HA.out
                clear HA
                simp only [scrimlaw14_PadKnown.l0] at H
                by_cases c25 : x9_1 < 3
                · rw [if_pos c25] at H
                  have c25b0 : decide (x9_1 < 3) = true := decide_eq_true c25
                  clear c25
                  by_cases c26 : 0 ≤ t137
                  · rw [if_pos c26] at H
                    have c26b0 : decide (0 ≤ t137) = true := decide_eq_true c26
                    clear c26
                    by_cases c27 : t137 < (y125.length : Int)
                    · rw [if_pos c27] at H
                      have c27b0 : decide (t137 < (y125.length : Int)) = true := decide_eq_true c27
                      clear c27
                      by_cases c28 : (rdOf ByteArray.empty y125 t137).size ≤ 140737488351232
                      · rw [if_pos c28] at H
                        have c28b0 := eq_true c28
                        have c28b1 : decide ((rdOf ByteArray.empty y125 t137).size ≤ 140737488351232) = true := decide_eq_true c28
                        clear c28
                        obtain ⟨y145, hy145⟩ : ∃ y_ : List Int, y_ = (bytesOf (rdOf ByteArray.empty y125 t137)) := ⟨_, rfl⟩
                        replace H : ((pad_Strip.f k1 (wrap64 (1 + x9_1)) 8 y145).bind fun bt148 => (if 0 ≤ x9_1 then (if x9_1 < (y141.length : Int) then (if (rdOf ByteArray.empty y141 x9_1).toList = ([45] : List UInt8) then (if bt148.2 = 8 then (if (bt148.1.length : Int) = 0 then (scrimlaw14_PadKnown.l0 k1 y125 t137 y141 (wrap64 (x9_1 + 1))) else (none)) else (none)) else (if bt148.2 = 0 then (if (strOfNums bt148.1).toList = (rdOf ByteArray.empty y141 x9_1).toList then (scrimlaw14_PadKnown.l0 k1 y125 t137 y141 (wrap64 (x9_1 + 1))) else (none)) else (none))) else (none)) else (none))) = some r := by first | (rw [hy145]; with_reducible exact H) | (have H2_ := (Option.bind_some _ _).symm.trans H; rw [hy145]; with_reducible exact H2_) | (have H2_ := (Option.bind_some _ _).symm.trans H; with_reducible exact H2_) | with_reducible exact H | (rw [hy145]; exact H) | exact H
                        have Ny145 := Aside0.mk hy145
                        clear hy145
                        replace H := Option.bind_eq_some_iff.mp H
                        obtain ⟨⟨t148, t149⟩, A290, H⟩ := H
                        replace H : (if 0 ≤ x9_1 then (if x9_1 < (y141.length : Int) then (if (rdOf ByteArray.empty y141 x9_1).toList = ([45] : List UInt8) then (if t149 = 8 then (if (t148.length : Int) = 0 then (scrimlaw14_PadKnown.l0 k1 y125 t137 y141 (wrap64 (x9_1 + 1))) else (none)) else (none)) else (if t149 = 0 then (if (strOfNums t148).toList = (rdOf ByteArray.empty y141 x9_1).toList then (scrimlaw14_PadKnown.l0 k1 y125 t137 y141 (wrap64 (x9_1 + 1))) else (none)) else (none))) else (none)) else (none)) = some r := H
                        have A29 := Aside0.mk A290
                        clear A290
                        by_cases c30 : 0 ≤ x9_1
                        · rw [if_pos c30] at H
                          have c30b0 : decide (0 ≤ x9_1) = true := decide_eq_true c30
                          clear c30
                          by_cases c31 : x9_1 < (y141.length : Int)
                          · rw [if_pos c31] at H
                            have c31b0 : decide (x9_1 < (y141.length : Int)) = true := decide_eq_true c31
                            clear c31
                            by_cases c32 : (rdOf ByteArray.empty y141 x9_1).toList = ([45] : List UInt8)
                            · rw [if_pos c32] at H
                              have c32b0 : ((rdOf ByteArray.empty y141 x9_1).toList == ([45] : List UInt8)) = true := beq_iff_eq.mpr c32
                              have c32b1 : ((rdOf ByteArray.empty y141 x9_1).toList != ([45] : List UInt8)) = false := bne_eq_false_iff_eq.mpr c32
                              clear c32
                              by_cases c33 : t149 = 8
                              · rw [if_pos c33] at H
                                have c33b0 : (t149 == 8) = true := beq_iff_eq.mpr c33
                                have c33b1 : (t149 != 8) = false := bne_eq_false_iff_eq.mpr c33
                                clear c33
                                by_cases c34 : (t148.length : Int) = 0
                                · rw [if_pos c34] at H
                                  have c34b0 : ((t148.length : Int) == 0) = true := beq_iff_eq.mpr c34
                                  have c34b1 : ((t148.length : Int) != 0) = false := bne_eq_false_iff_eq.mpr c34
                                  clear c34
                                  have H' := Aside0.mk H
                                  clear H
                                  have p144 : 0 ≤ (t137 : Int) := of_decide_eq_true (by first | (with_reducible assumption) | assumption)
                                  have q144 : t137 < (y125.length : Int) := of_decide_eq_true (by first | (with_reducible assumption) | assumption)
                                  obtain ⟨ad144, e144, hx144_0⟩ := Kd.at_string (Kd.R_reads' HO_3.out).2.2 t137 p144 q144
                                  cases e144
                                  replace p144 := eq_true p144
                                  replace q144 := eq_true q144
                                  try go_wp2_with (first | ((with_reducible refine gate_dst (N := 46) rfl ?_); (try (refine gate_guard (by rfl) ?_; dsimp only)); refine Go.Proofs.Ythpeffpafpfkcaa.Conv.V_conv _ 5 rfl (N := 46) rfl 9 22 _ rfl (rdOf ByteArray.empty y125 t137) rfl Try.underlying9 Try.underlying22 Try.underlying5 (of_decide_eq_true (by first | (with_reducible assumption) | assumption)) (Below.refl _ _) (Nat.le_refl _) ?_; intro v146 w35 ho36 hb hg_ hnew_; clear hg_ hnew_; (first | rw [← Ny145.out] at ho36 | (simp only [Int.reduceToNat] at ho36; rw [← Ny145.out] at ho36)); have n0_ := Aside0.mk (Kd.R_below (by (with_reducible repeat (first | apply Kd.R_alloc | apply Kd.R_drewN | apply Kd.R_drew)); exact HO_3.out) hb); have n1_ := Aside0.mk (Kd.R_below (by (with_reducible repeat (first | apply Kd.R_alloc | apply Kd.R_drewN | apply Kd.R_drew)); exact HO_8.out) hb); have n2_ := Aside0.mk (Kd.V_lower (Kd.V_mono (ok' := fun k_ => some k_ ≠ (.slice (some ad144) y125.length co18 : Value).ownBlock ∧ some k_ ≠ (v142 : Value).ownBlock) ho36 (fun k_ hk_ => ⟨(Kd.fresh' (Kd.R_lt (by (with_reducible repeat (first | apply Kd.R_alloc | apply Kd.R_drewN | apply Kd.R_drew)); exact HO_3.out)) k_ hk_.2.1), (Kd.fresh' (Kd.R_lt (by (with_reducible repeat (first | apply Kd.R_alloc | apply Kd.R_drewN | apply Kd.R_drew)); exact HO_8.out)) k_ hk_.2.1)⟩)) (below_size (by repeat (first | (with_reducible first | exact HB.out | apply below_alloc | apply pw_below_drewN | apply below_drew1) | exact HB.out)))); have n3_ := Aside0.mk (below_step (by repeat (first | (with_reducible first | exact HB.out | apply below_alloc | apply pw_below_drewN | apply below_drew1) | exact HB.out)) hb); clear HO_3; clear HO_8; clear HB; have HO_3 := n0_; have HO_8 := n1_; have HO147 := n2_; have HB := n3_; clear n0_ n1_ n2_ n3_; clear hb ho36; obtain ⟨Ao37, co37, eo37⟩ := Kd.V_slice HO147.out; subst eo37) | ((with_reducible refine gate_callee (f := 15) rfl ?_); refine goesL_ (some 47) rfl rfl Try.func15 (by kernel_rfl) rfl #[.int .i64 (wrap64 (1 + x9_1)), .int .i64 8, .slice Ao37 y145.length co37] rfl (by (try simp only [List.map_toArray, List.map_cons, List.map_nil]); first | done | rfl | (simp only [List.length_drop, List.length_take]; rfl)) ?_; (with_reducible refine (pad_Strip.calls k1 (wrap64 (1 + x9_1)) 8 _ _ y145 t148 t149 _ ?side1 ?side2 A29.out).mono ?_); (case side1 => repeat (first | exact (Kd.V_reads' HO147.out).2.2 | (with_reducible refine Kd.C_alloc ?_ _) | (with_reducible refine Kd.C_drewN ?_ _) | (with_reducible refine Kd.C_drew ?_))); (case side2 => exact (Kd.V_reads' HO147.out).2.1); rintro e w38 ⟨v150, rfl, ho0, hb⟩; refine ⟨_, rfl, ?_⟩; have n0_ := Aside0.mk (Kd.R_below (by (with_reducible repeat (first | apply Kd.R_alloc | apply Kd.R_drewN | apply Kd.R_drew)); exact HO_3.out) hb); have n1_ := Aside0.mk (Kd.R_below (by (with_reducible repeat (first | apply Kd.R_alloc | apply Kd.R_drewN | apply Kd.R_drew)); exact HO_8.out) hb); have n2_ := Aside0.mk (Kd.V_elder' (by (with_reducible repeat (first | apply Kd.V_alloc | apply Kd.V_drewN | apply Kd.V_drew)); exact HO147.out) (Kd.R_base ho0) hb); have n3_ := Aside0.mk (Kd.R_lower ho0 (below_size (by repeat (first | (with_reducible first | exact HB.out | apply below_alloc | apply pw_below_drewN | apply below_drew1) | exact HB.out)))); have n4_ := Aside0.mk (below_step (by repeat (first | (with_reducible first | exact HB.out | apply below_alloc | apply pw_below_drewN | apply below_drew1) | exact HB.out)) hb); clear HO_3; clear HO_8; clear HO147; clear HB; have HO_3 := n0_; have HO_8 := n1_; have HO147 := n2_; have HO151 := n3_; have HB := n4_; clear n0_ n1_ n2_ n3_ n4_; (try clear hb); (try clear hb2); (try clear hk); (try clear hi); (try clear ho0)))
                                  have n0_ := Aside0.mk (Kd.R_drew HO_3.out)
                                  have n1_ := Aside0.mk (Kd.R_drew HO_8.out)
                                  have n2_ := Aside0.mk (Kd.V_drew HO147.out)
                                  have n3_ := Aside0.mk (Kd.R_drew HO151.out)
                                  have n4_ := Aside0.mk (below_drew1 HB.out)
                                  clear HO_3
                                  clear HO_8
                                  clear HO147
                                  clear HO151
                                  clear HB
                                  have HO_3 := n0_
                                  have HO_8 := n1_
                                  have HO147 := n2_
                                  have HO151 := n3_
                                  have HB := n4_
                                  clear n0_ n1_ n2_ n3_ n4_
                                  obtain ⟨Ao40, co40, eo40⟩ := Kd.R_slice HO_8.out
                                  (first | subst eo40 | (injection eo40 with f1_ f2_ f3_; have f4_ := f1_.symm; have f5_ := f3_.symm; clear f1_ f2_ f3_; subst f4_; subst f5_))
                                  have p152 : 0 ≤ (x9_1 : Int) := of_decide_eq_true (by first | (with_reducible assumption) | assumption)
                                  have q152 : x9_1 < (y141.length : Int) := of_decide_eq_true (by first | (with_reducible assumption) | assumption)
                                  obtain ⟨ad152, e152, hx152_0⟩ := Kd.at_string (Kd.R_reads' HO_8.out).2.2 x9_1 p152 q152
                                  cases e152
                                  replace p152 := eq_true p152
                                  replace q152 := eq_true q152
                                  obtain ⟨Ao41, co41, eo41⟩ := Kd.R_slice HO151.out
                                  (first | subst eo41 | (injection eo41 with f1_ f2_ f3_; have f4_ := f1_.symm; have f5_ := f3_.symm; clear f1_ f2_ f3_; subst f4_; subst f5_))
                                  have p153 : 0 ≤ (x9_1 : Int) := of_decide_eq_true (by first | (with_reducible assumption) | assumption)
                                  have q153 : x9_1 < (y141.length : Int) := of_decide_eq_true (by first | (with_reducible assumption) | assumption)
                                  obtain ⟨ad153, e153, hx153_0⟩ := Kd.at_string (Kd.R_reads' HO_8.out).2.2 x9_1 p153 q153
                                  obtain rfl : ad152 = ad153 := (by injection e153)
                                  replace p153 := eq_true p153
                                  replace q153 := eq_true q153
                                  refine start_ (n := 34) (S := fun w' => w'.cell? (ad152.add (x9_1).toNat) = some (.string (rdOf ByteArray.empty y141 x9_1)) ∧ w'.cell? (ad152.add (x9_1).toNat) = some (.string (rdOf ByteArray.empty y141 x9_1))) (ds := []) #[false, false, false, false, false, false, false, false, false, false, false, false, false, false, false, false, false, false, false, false, false, false, false, false, false, false, false, false, false, false, false, false, false, false] (by kernel_rfl) rfl rfl ⟨hx152_0, hx153_0⟩ (fun hHeld => ?_); refine with_tabW scrimlaw14_PadKnown.tab13 scrimlaw14_PadKnown.bits13 (fun HT_ HW_ => ?_)
                                  generalize w38.drew = w39 at HO_3 HO_8 HO147 HO151 HB hx152_0 hx153_0 hHeld ⊢
                                  refine pure_ (i := 0) (N := some 50) (v := ?_) (a' := ?_) #[true, false, false, false, false, false, false, false, false, false, false, false, false, false, false, false, false, false, false, false, false, false, false, false, false, false, false, false, false, false, false, false, false, false] rfl rfl (any_of HT_.out (by kernel_rfl)) (fun _ _ _ h => h) (Or.inl ⟨by rfl, ?_⟩) ?_ ?_
                                  rotate_left
                                  · intro w'
                                    go_simp
                                    with_reducible rfl
                                  rotate_left
                                  · simp only [Act.put, List.setIfInBounds_toArray, List.set_cons_zero, List.set_cons_succ, i64_w, i32_w]
                                    rfl
                                  refine pure_ (i := 1) (N := some 51) (v := ?_) (a' := ?_) #[true, true, false, false, false, false, false, false, false, false, false, false, false, false, false, false, false, false, false, false, false, false, false, false, false, false, false, false, false, false, false, false, false, false] rfl rfl (any_of HT_.out (by kernel_rfl)) (fun _ _ _ h => h) (Or.inl ⟨by rfl, ?_⟩) ?_ ?_
                                  rotate_left
                                  · intro w'
                                    go_simp
                                    with_reducible rfl
                                  rotate_left
                                  · simp only [Act.put, List.setIfInBounds_toArray, List.set_cons_zero, List.set_cons_succ, i64_w, i32_w]
                                    rfl
                                  refine pure_ (i := 2) (N := some 52) (v := ?_) (a' := ?_) #[true, true, true, false, false, false, false, false, false, false, false, false, false, false, false, false, false, false, false, false, false, false, false, false, false, false, false, false, false, false, false, false, false, false] rfl rfl (any_of HT_.out (by kernel_rfl)) (fun _ _ _ h => h) (Or.inl ⟨by rfl, ?_⟩) ?_ ?_
                                  rotate_left
                                  · intro w'
                                    go_simp
                                    with_reducible rfl
                                  rotate_left
                                  · simp only [Act.put, List.setIfInBounds_toArray, List.set_cons_zero, List.set_cons_succ, i64_w, i32_w]
                                    rfl
                                  refine take_ (i := 3) (N := some 53) (v := ?_) (a' := ?_) #[true, true, true, true, false, false, false, false, false, false, false, false, false, false, false, false, false, false, false, false, false, false, false, false, false, false, false, false, false, false, false, false, false, false] rfl rfl (take_ofW HT_.out HW_.out (by kernel_rfl)) (fun _ _ _ h => h) (Or.inl ⟨by rfl, ?_⟩) hHeld ?_ ?_
                                  rotate_left
                                  · rintro w' ⟨s0, s1⟩
                                    go_simp
                                    with_reducible rfl
                                  rotate_left
                                  · simp only [Act.put, List.setIfInBounds_toArray, List.set_cons_zero, List.set_cons_succ, i64_w, i32_w]
                                    rfl
                                  refine pure_ (i := 4) (N := some 54) (v := ?_) (a' := ?_) #[true, true, true, true, true, false, false, false, false, false, false, false, false, false, false, false, false, false, false, false, false, false, false, false, false, false, false, false, false, false, false, false, false, false] rfl rfl (any_of HT_.out (by kernel_rfl)) (fun _ _ _ h => h) (Or.inl ⟨by rfl, ?_⟩) ?_ ?_
                                  rotate_left
                                  · intro w'
                                    go_simp
                                    with_reducible rfl
                                  rotate_left
                                  · simp only [Act.put, List.setIfInBounds_toArray, List.set_cons_zero, List.set_cons_succ, i64_w, i32_w]
                                    rfl
                                  refine pure_ (i := 5) (N := some 55) (v := ?_) (a' := ?_) #[true, true, true, true, true, true, false, false, false, false, false, false, false, false, false, false, false, false, false, false, false, false, false, false, false, false, false, false, false, false, false, false, false, false] rfl rfl (any_of HT_.out (by kernel_rfl)) (fun _ _ _ h => h) (Or.inl ⟨by rfl, ?_⟩) ?_ ?_
                                  rotate_left
                                  · intro w'
                                    go_simp
                                    with_reducible rfl
                                  rotate_left
                                  · simp only [Act.put, List.setIfInBounds_toArray, List.set_cons_zero, List.set_cons_succ, i64_w, i32_w]
                                    rfl
                                  refine pure_ (i := 6) (N := some 56) (v := ?_) (a' := ?_) #[true, true, true, true, true, true, true, false, false, false, false, false, false, false, false, false, false, false, false, false, false, false, false, false, false, false, false, false, false, false, false, false, false, false] rfl rfl (any_of HT_.out (by kernel_rfl)) (fun _ _ _ h => h) (Or.inl ⟨by rfl, ?_⟩) ?_ ?_
                                  rotate_left
                                  · intro w'
                                    go_simp
                                    with_reducible rfl
                                  rotate_left
                                  · simp only [Act.put, List.setIfInBounds_toArray, List.set_cons_zero, List.set_cons_succ, i64_w, i32_w]
                                    rfl
                                  refine pure_ (i := 7) (N := some 57) (v := ?_) (a' := ?_) #[true, true, true, true, true, true, true, true, false, false, false, false, false, false, false, false, false, false, false, false, false, false, false, false, false, false, false, false, false, false, false, false, false, false] rfl rfl (any_of HT_.out (by kernel_rfl)) (fun _ _ _ h => h) (Or.inl ⟨by rfl, ?_⟩) ?_ ?_
                                  rotate_left
                                  · intro w'
                                    go_simp
                                    with_reducible rfl
                                  rotate_left
                                  · simp only [Act.put, List.setIfInBounds_toArray, List.set_cons_zero, List.set_cons_succ, i64_w, i32_w]
                                    rfl
                                  refine pure_ (i := 8) (N := some 58) (v := ?_) (a' := ?_) #[true, true, true, true, true, true, true, true, true, false, false, false, false, false, false, false, false, false, false, false, false, false, false, false, false, false, false, false, false, false, false, false, false, false] rfl rfl (any_of HT_.out (by kernel_rfl)) (fun _ _ _ h => h) (Or.inl ⟨by rfl, ?_⟩) ?_ ?_
                                  rotate_left
                                  · intro w'
                                    go_simp
                                    with_reducible rfl
                                  rotate_left
                                  · simp only [Act.put, List.setIfInBounds_toArray, List.set_cons_zero, List.set_cons_succ, i64_w, i32_w]
                                    rfl
                                  refine pure_ (i := 9) (N := some 59) (v := ?_) (a' := ?_) #[true, true, true, true, true, true, true, true, true, true, false, false, false, false, false, false, false, false, false, false, false, false, false, false, false, false, false, false, false, false, false, false, false, false] rfl rfl (any_of HT_.out (by kernel_rfl)) (fun _ _ _ h => h) (Or.inl ⟨by rfl, ?_⟩) ?_ ?_
                                  rotate_left
                                  · intro w'
                                    go_simp
                                    with_reducible rfl
                                  rotate_left
                                  · simp only [Act.put, List.setIfInBounds_toArray, List.set_cons_zero, List.set_cons_succ, i64_w, i32_w]
                                    rfl
                                  refine pure_ (i := 10) (N := some 60) (v := ?_) (a' := ?_) #[true, true, true, true, true, true, true, true, true, true, true, false, false, false, false, false, false, false, false, false, false, false, false, false, false, false, false, false, false, false, false, false, false, false] rfl rfl (any_of HT_.out (by kernel_rfl)) (fun _ _ _ h => h) (Or.inl ⟨by rfl, ?_⟩) ?_ ?_
                                  rotate_left
                                  · intro w'
                                    go_simp
                                    with_reducible rfl
                                  rotate_left
                                  · simp only [Act.put, List.setIfInBounds_toArray, List.set_cons_zero, List.set_cons_succ, i64_w, i32_w]
                                    rfl
                                  refine pure_ (i := 11) (N := some 61) (v := ?_) (a' := ?_) #[true, true, true, true, true, true, true, true, true, true, true, true, false, false, false, false, false, false, false, false, false, false, false, false, false, false, false, false, false, false, false, false, false, false] rfl rfl (any_of HT_.out (by kernel_rfl)) (fun _ _ _ h => h) (Or.inl ⟨by rfl, ?_⟩) ?_ ?_
                                  rotate_left
                                  · intro w'
                                    go_simp
                                    with_reducible rfl
                                  rotate_left
                                  · simp only [Act.put, List.setIfInBounds_toArray, List.set_cons_zero, List.set_cons_succ, i64_w, i32_w]
                                    rfl
                                  refine pure_ (i := 12) (N := some 62) (v := ?_) (a' := ?_) #[true, true, true, true, true, true, true, true, true, true, true, true, true, false, false, false, false, false, false, false, false, false, false, false, false, false, false, false, false, false, false, false, false, false] rfl rfl (any_of HT_.out (by kernel_rfl)) (fun _ _ _ h => h) (Or.inl ⟨by rfl, ?_⟩) ?_ ?_
                                  rotate_left
                                  · intro w'
                                    go_simp
                                    with_reducible rfl
                                  rotate_left
                                  · simp only [Act.put, List.setIfInBounds_toArray, List.set_cons_zero, List.set_cons_succ, i64_w, i32_w]
                                    rfl
                                  refine pure_ (i := 13) (N := some 63) (v := ?_) (a' := ?_) #[true, true, true, true, true, true, true, true, true, true, true, true, true, true, false, false, false, false, false, false, false, false, false, false, false, false, false, false, false, false, false, false, false, false] rfl rfl (any_of HT_.out (by kernel_rfl)) (fun _ _ _ h => h) (Or.inl ⟨by rfl, ?_⟩) ?_ ?_
                                  rotate_left
                                  · intro w'
                                    go_simp
                                    with_reducible rfl
                                  rotate_left
                                  · simp only [Act.put, List.setIfInBounds_toArray, List.set_cons_zero, List.set_cons_succ, i64_w, i32_w]
                                    rfl
                                  refine pure_ (i := 14) (N := some 64) (v := ?_) (a' := ?_) #[true, true, true, true, true, true, true, true, true, true, true, true, true, true, true, false, false, false, false, false, false, false, false, false, false, false, false, false, false, false, false, false, false, false] rfl rfl (any_of HT_.out (by kernel_rfl)) (fun _ _ _ h => h) (Or.inl ⟨by rfl, ?_⟩) ?_ ?_
                                  rotate_left
                                  · intro w'
                                    go_simp
                                    with_reducible rfl
                                  rotate_left
                                  · simp only [Act.put, List.setIfInBounds_toArray, List.set_cons_zero, List.set_cons_succ, i64_w, i32_w]
                                    rfl
                                  refine pure_ (i := 15) (N := some 65) (v := ?_) (a' := ?_) #[true, true, true, true, true, true, true, true, true, true, true, true, true, true, true, true, false, false, false, false, false, false, false, false, false, false, false, false, false, false, false, false, false, false] rfl rfl (any_of HT_.out (by kernel_rfl)) (fun _ _ _ h => h) (Or.inl ⟨by rfl, ?_⟩) ?_ ?_
                                  rotate_left
                                  · intro w'
                                    go_simp
                                    with_reducible rfl
                                  rotate_left
                                  · simp only [Act.put, List.setIfInBounds_toArray, List.set_cons_zero, List.set_cons_succ, i64_w, i32_w]
                                    rfl
                                  refine pure_ (i := 16) (N := some 66) (v := ?_) (a' := ?_) #[true, true, true, true, true, true, true, true, true, true, true, true, true, true, true, true, true, false, false, false, false, false, false, false, false, false, false, false, false, false, false, false, false, false] rfl rfl (any_of HT_.out (by kernel_rfl)) (fun _ _ _ h => h) (Or.inl ⟨by rfl, ?_⟩) ?_ ?_
                                  rotate_left
                                  · intro w'
                                    go_simp
                                    with_reducible rfl
                                  rotate_left
                                  · simp only [Act.put, List.setIfInBounds_toArray, List.set_cons_zero, List.set_cons_succ, i64_w, i32_w]
                                    rfl
                                  refine pure_ (i := 17) (N := some 67) (v := ?_) (a' := ?_) #[true, true, true, true, true, true, true, true, true, true, true, true, true, true, true, true, true, true, false, false, false, false, false, false, false, false, false, false, false, false, false, false, false, false] rfl rfl (any_of HT_.out (by kernel_rfl)) (fun _ _ _ h => h) (Or.inl ⟨by rfl, ?_⟩) ?_ ?_
                                  rotate_left
                                  · intro w'
                                    go_simp
                                    with_reducible rfl
                                  rotate_left
                                  · simp only [Act.put, List.setIfInBounds_toArray, List.set_cons_zero, List.set_cons_succ, i64_w, i32_w]
                                    rfl
                                  refine take_ (i := 18) (N := some 68) (v := ?_) (a' := ?_) #[true, true, true, true, true, true, true, true, true, true, true, true, true, true, true, true, true, true, true, false, false, false, false, false, false, false, false, false, false, false, false, false, false, false] rfl rfl (take_ofW HT_.out HW_.out (by kernel_rfl)) (fun _ _ _ h => h) (Or.inl ⟨by rfl, ?_⟩) hHeld ?_ ?_
                                  rotate_left
                                  · rintro w' ⟨s0, s1⟩
                                    go_simp
                                    with_reducible rfl
                                  rotate_left
                                  · simp only [Act.put, List.setIfInBounds_toArray, List.set_cons_zero, List.set_cons_succ, i64_w, i32_w]
                                    rfl
                                  refine pure_ (i := 19) (N := some 69) (v := ?_) (a' := ?_) #[true, true, true, true, true, true, true, true, true, true, true, true, true, true, true, true, true, true, true, true, false, false, false, false, false, false, false, false, false, false, false, false, false, false] rfl rfl (any_of HT_.out (by kernel_rfl)) (fun _ _ _ h => h) (Or.inl ⟨by rfl, ?_⟩) ?_ ?_
                                  rotate_left
                                  · intro w'
                                    go_simp
                                    with_reducible rfl
                                  rotate_left
                                  · simp only [Act.put, List.setIfInBounds_toArray, List.set_cons_zero, List.set_cons_succ, i64_w, i32_w]
                                    rfl
                                  refine pure_ (i := 20) (N := some 70) (v := ?_) (a' := ?_) #[true, true, true, true, true, true, true, true, true, true, true, true, true, true, true, true, true, true, true, true, true, false, false, false, false, false, false, false, false, false, false, false, false, false] rfl rfl (any_of HT_.out (by kernel_rfl)) (fun _ _ _ h => h) (Or.inl ⟨by rfl, ?_⟩) ?_ ?_
                                  rotate_left
                                  · intro w'
                                    go_simp
                                    with_reducible rfl
                                  rotate_left
                                  · simp only [Act.put, List.setIfInBounds_toArray, List.set_cons_zero, List.set_cons_succ, i64_w, i32_w]
                                    rfl
                                  refine pure_ (i := 21) (N := some 71) (v := undef) (a' := ?_) #[true, true, true, true, true, true, true, true, true, true, true, true, true, true, true, true, true, true, true, true, true, true, false, false, false, false, false, false, false, false, false, false, false, false] rfl rfl (any_of HT_.out (by kernel_rfl)) (fun _ _ _ h => h) (Or.inr ⟨by rfl, rfl⟩) ?_ ?_
                                  rotate_left
                                  · simp only [Act.put, List.setIfInBounds_toArray, List.set_cons_zero, List.set_cons_succ, i64_w, i32_w]
                                    rfl
                                  refine pure_ (i := 22) (N := some 72) (v := undef) (a' := ?_) #[true, true, true, true, true, true, true, true, true, true, true, true, true, true, true, true, true, true, true, true, true, true, true, false, false, false, false, false, false, false, false, false, false, false] rfl rfl (any_of HT_.out (by kernel_rfl)) (fun _ _ _ h => h) (Or.inr ⟨by rfl, rfl⟩) ?_ ?_
                                  rotate_left
                                  · simp only [Act.put, List.setIfInBounds_toArray, List.set_cons_zero, List.set_cons_succ, i64_w, i32_w]
                                    rfl
                                  refine pure_ (i := 23) (N := some 73) (v := undef) (a' := ?_) #[true, true, true, true, true, true, true, true, true, true, true, true, true, true, true, true, true, true, true, true, true, true, true, true, false, false, false, false, false, false, false, false, false, false] rfl rfl (any_of HT_.out (by kernel_rfl)) (fun _ _ _ h => h) (Or.inr ⟨by rfl, rfl⟩) ?_ ?_
                                  rotate_left
                                  · simp only [Act.put, List.setIfInBounds_toArray, List.set_cons_zero, List.set_cons_succ, i64_w, i32_w]
                                    rfl
                                  refine pure_ (i := 24) (N := some 74) (v := undef) (a' := ?_) #[true, true, true, true, true, true, true, true, true, true, true, true, true, true, true, true, true, true, true, true, true, true, true, true, true, false, false, false, false, false, false, false, false, false] rfl rfl (any_of HT_.out (by kernel_rfl)) (fun _ _ _ h => h) (Or.inr ⟨by rfl, rfl⟩) ?_ ?_
                                  rotate_left
                                  · simp only [Act.put, List.setIfInBounds_toArray, List.set_cons_zero, List.set_cons_succ, i64_w, i32_w]
                                    rfl
                                  refine pure_ (i := 25) (N := some 75) (v := undef) (a' := ?_) #[true, true, true, true, true, true, true, true, true, true, true, true, true, true, true, true, true, true, true, true, true, true, true, true, true, true, false, false, false, false, false, false, false, false] rfl rfl (any_of HT_.out (by kernel_rfl)) (fun _ _ _ h => h) (Or.inr ⟨by rfl, rfl⟩) ?_ ?_
                                  rotate_left
                                  · simp only [Act.put, List.setIfInBounds_toArray, List.set_cons_zero, List.set_cons_succ, i64_w, i32_w]
                                    rfl
                                  refine pure_ (i := 26) (N := some 76) (v := undef) (a' := ?_) #[true, true, true, true, true, true, true, true, true, true, true, true, true, true, true, true, true, true, true, true, true, true, true, true, true, true, true, false, false, false, false, false, false, false] rfl rfl (any_of HT_.out (by kernel_rfl)) (fun _ _ _ h => h) (Or.inr ⟨by rfl, rfl⟩) ?_ ?_
                                  rotate_left
                                  · simp only [Act.put, List.setIfInBounds_toArray, List.set_cons_zero, List.set_cons_succ, i64_w, i32_w]
                                    rfl
                                  refine pure_ (i := 27) (N := some 77) (v := undef) (a' := ?_) #[true, true, true, true, true, true, true, true, true, true, true, true, true, true, true, true, true, true, true, true, true, true, true, true, true, true, true, true, false, false, false, false, false, false] rfl rfl (any_of HT_.out (by kernel_rfl)) (fun _ _ _ h => h) (Or.inr ⟨by rfl, rfl⟩) ?_ ?_
                                  rotate_left
                                  · simp only [Act.put, List.setIfInBounds_toArray, List.set_cons_zero, List.set_cons_succ, i64_w, i32_w]
                                    rfl
                                  refine pure_ (i := 28) (N := some 78) (v := undef) (a' := ?_) #[true, true, true, true, true, true, true, true, true, true, true, true, true, true, true, true, true, true, true, true, true, true, true, true, true, true, true, true, true, false, false, false, false, false] rfl rfl (any_of HT_.out (by kernel_rfl)) (fun _ _ _ h => h) (Or.inr ⟨by rfl, rfl⟩) ?_ ?_
                                  rotate_left
                                  · simp only [Act.put, List.setIfInBounds_toArray, List.set_cons_zero, List.set_cons_succ, i64_w, i32_w]
                                    rfl
                                  refine pure_ (i := 29) (N := some 79) (v := undef) (a' := ?_) #[true, true, true, true, true, true, true, true, true, true, true, true, true, true, true, true, true, true, true, true, true, true, true, true, true, true, true, true, true, true, false, false, false, false] rfl rfl (any_of HT_.out (by kernel_rfl)) (fun _ _ _ h => h) (Or.inr ⟨by rfl, rfl⟩) ?_ ?_
                                  rotate_left
                                  · simp only [Act.put, List.setIfInBounds_toArray, List.set_cons_zero, List.set_cons_succ, i64_w, i32_w]
                                    rfl
                                  refine pure_ (i := 30) (N := some 80) (v := undef) (a' := ?_) #[true, true, true, true, true, true, true, true, true, true, true, true, true, true, true, true, true, true, true, true, true, true, true, true, true, true, true, true, true, true, true, false, false, false] rfl rfl (any_of HT_.out (by kernel_rfl)) (fun _ _ _ h => h) (Or.inr ⟨by rfl, rfl⟩) ?_ ?_
                                  rotate_left
                                  · simp only [Act.put, List.setIfInBounds_toArray, List.set_cons_zero, List.set_cons_succ, i64_w, i32_w]
                                    rfl
                                  refine pure_ (i := 31) (N := some 81) (v := undef) (a' := ?_) #[true, true, true, true, true, true, true, true, true, true, true, true, true, true, true, true, true, true, true, true, true, true, true, true, true, true, true, true, true, true, true, true, false, false] rfl rfl (any_of HT_.out (by kernel_rfl)) (fun _ _ _ h => h) (Or.inr ⟨by rfl, rfl⟩) ?_ ?_
                                  rotate_left
                                  · simp only [Act.put, List.setIfInBounds_toArray, List.set_cons_zero, List.set_cons_succ, i64_w, i32_w]
                                    rfl
                                  refine pure_ (i := 32) (N := some 82) (v := ?_) (a' := ?_) #[true, true, true, true, true, true, true, true, true, true, true, true, true, true, true, true, true, true, true, true, true, true, true, true, true, true, true, true, true, true, true, true, true, false] rfl rfl (any_of HT_.out (by kernel_rfl)) (fun _ _ _ h => h) (Or.inl ⟨by rfl, ?_⟩) ?_ ?_
                                  rotate_left
                                  · intro w'
                                    go_simp
                                    with_reducible rfl
                                  rotate_left
                                  · simp only [Act.put, List.setIfInBounds_toArray, List.set_cons_zero, List.set_cons_succ, i64_w, i32_w]
                                    rfl
                                  refine pure_ (i := 33) (N := some 83) (v := ?_) (a' := ?_) #[true, true, true, true, true, true, true, true, true, true, true, true, true, true, true, true, true, true, true, true, true, true, true, true, true, true, true, true, true, true, true, true, true, true] rfl rfl (any_of HT_.out (by kernel_rfl)) (fun _ _ _ h => h) (Or.inl ⟨by rfl, ?_⟩) ?_ ?_
                                  rotate_left
                                  · intro w'
                                    go_simp
                                    with_reducible rfl
                                  rotate_left
                                  · simp only [Act.put, List.setIfInBounds_toArray, List.set_cons_zero, List.set_cons_succ, i64_w, i32_w]
                                    rfl
                                  refine done_ (done_of HT_.out (by kernel_rfl)) ?_
                                  try go_wp2
                                  go_roundg k1
                                  case measure => have := HK1.out; omega
                                  case rel => exact ⟨(wrap64 (x9_1 + 1)), (by first | rfl | (simp; done) | (simp [*]; done)), H', ⟨by have := HK1.out; omega⟩, ⟨by (with_reducible repeat (first | apply Kd.R_alloc | apply Kd.R_drewN | apply Kd.R_drew)); exact HO_3.out⟩, ⟨by (with_reducible repeat (first | apply Kd.R_alloc | apply Kd.R_drewN | apply Kd.R_drew)); exact HO_8.out⟩, ⟨by repeat (first | (with_reducible first | exact HB.out | apply below_alloc | apply pw_below_drewN | apply below_drew1) | exact HB.out)⟩⟩
                                · rw [if_neg c34] at H
                                  exact absurd H (by simp)
                              · rw [if_neg c33] at H
                                exact absurd H (by simp)
                            · rw [if_neg c32] at H
                              have c32b0 : ((rdOf ByteArray.empty y141 x9_1).toList == ([45] : List UInt8)) = false := beq_eq_false_iff_ne.mpr c32
                              have c32b1 : ((rdOf ByteArray.empty y141 x9_1).toList != ([45] : List UInt8)) = true := bne_iff_ne.mpr c32
                              by_cases c42 : t149 = 0
                              · rw [if_pos c42] at H
                                have c42b0 : (t149 == 0) = true := beq_iff_eq.mpr c42
                                have c42b1 : (t149 != 0) = false := bne_eq_false_iff_eq.mpr c42
                                clear c42
                                by_cases c43 : (strOfNums t148).toList = (rdOf ByteArray.empty y141 x9_1).toList
                                · rw [if_pos c43] at H
                                  have c43b0 : ((strOfNums t148).toList == (rdOf ByteArray.empty y141 x9_1).toList) = true := beq_iff_eq.mpr c43
                                  have c43b1 : ((strOfNums t148).toList != (rdOf ByteArray.empty y141 x9_1).toList) = false := bne_eq_false_iff_eq.mpr c43
                                  clear c43
                                  have H' := Aside0.mk H
                                  clear H
                                  have p144 : 0 ≤ (t137 : Int) := of_decide_eq_true (by first | (with_reducible assumption) | assumption)
                                  have q144 : t137 < (y125.length : Int) := of_decide_eq_true (by first | (with_reducible assumption) | assumption)
                                  obtain ⟨ad144, e144, hx144_0⟩ := Kd.at_string (Kd.R_reads' HO_3.out).2.2 t137 p144 q144
                                  cases e144
                                  replace p144 := eq_true p144
                                  replace q144 := eq_true q144
                                  try go_wp2_with (first | ((with_reducible refine gate_dst (N := 46) rfl ?_); (try (refine gate_guard (by rfl) ?_; dsimp only)); refine Go.Proofs.Ythpeffpafpfkcaa.Conv.V_conv _ 5 rfl (N := 46) rfl 9 22 _ rfl (rdOf ByteArray.empty y125 t137) rfl Try.underlying9 Try.underlying22 Try.underlying5 (of_decide_eq_true (by first | (with_reducible assumption) | assumption)) (Below.refl _ _) (Nat.le_refl _) ?_; intro v146 w44 ho45 hb hg_ hnew_; clear hg_ hnew_; (first | rw [← Ny145.out] at ho45 | (simp only [Int.reduceToNat] at ho45; rw [← Ny145.out] at ho45)); have n0_ := Aside0.mk (Kd.R_below (by (with_reducible repeat (first | apply Kd.R_alloc | apply Kd.R_drewN | apply Kd.R_drew)); exact HO_3.out) hb); have n1_ := Aside0.mk (Kd.R_below (by (with_reducible repeat (first | apply Kd.R_alloc | apply Kd.R_drewN | apply Kd.R_drew)); exact HO_8.out) hb); have n2_ := Aside0.mk (Kd.V_lower (Kd.V_mono (ok' := fun k_ => some k_ ≠ (.slice (some ad144) y125.length co18 : Value).ownBlock ∧ some k_ ≠ (v142 : Value).ownBlock) ho45 (fun k_ hk_ => ⟨(Kd.fresh' (Kd.R_lt (by (with_reducible repeat (first | apply Kd.R_alloc | apply Kd.R_drewN | apply Kd.R_drew)); exact HO_3.out)) k_ hk_.2.1), (Kd.fresh' (Kd.R_lt (by (with_reducible repeat (first | apply Kd.R_alloc | apply Kd.R_drewN | apply Kd.R_drew)); exact HO_8.out)) k_ hk_.2.1)⟩)) (below_size (by repeat (first | (with_reducible first | exact HB.out | apply below_alloc | apply pw_below_drewN | apply below_drew1) | exact HB.out)))); have n3_ := Aside0.mk (below_step (by repeat (first | (with_reducible first | exact HB.out | apply below_alloc | apply pw_below_drewN | apply below_drew1) | exact HB.out)) hb); clear HO_3; clear HO_8; clear HB; have HO_3 := n0_; have HO_8 := n1_; have HO147 := n2_; have HB := n3_; clear n0_ n1_ n2_ n3_; clear hb ho45; obtain ⟨Ao46, co46, eo46⟩ := Kd.V_slice HO147.out; subst eo46) | ((with_reducible refine gate_callee (f := 15) rfl ?_); refine goesL_ (some 47) rfl rfl Try.func15 (by kernel_rfl) rfl #[.int .i64 (wrap64 (1 + x9_1)), .int .i64 8, .slice Ao46 y145.length co46] rfl (by (try simp only [List.map_toArray, List.map_cons, List.map_nil]); first | done | rfl | (simp only [List.length_drop, List.length_take]; rfl)) ?_; (with_reducible refine (pad_Strip.calls k1 (wrap64 (1 + x9_1)) 8 _ _ y145 t148 t149 _ ?side1 ?side2 A29.out).mono ?_); (case side1 => repeat (first | exact (Kd.V_reads' HO147.out).2.2 | (with_reducible refine Kd.C_alloc ?_ _) | (with_reducible refine Kd.C_drewN ?_ _) | (with_reducible refine Kd.C_drew ?_))); (case side2 => exact (Kd.V_reads' HO147.out).2.1); rintro e w47 ⟨v150, rfl, ho0, hb⟩; refine ⟨_, rfl, ?_⟩; have n0_ := Aside0.mk (Kd.R_below (by (with_reducible repeat (first | apply Kd.R_alloc | apply Kd.R_drewN | apply Kd.R_drew)); exact HO_3.out) hb); have n1_ := Aside0.mk (Kd.R_below (by (with_reducible repeat (first | apply Kd.R_alloc | apply Kd.R_drewN | apply Kd.R_drew)); exact HO_8.out) hb); have n2_ := Aside0.mk (Kd.V_elder' (by (with_reducible repeat (first | apply Kd.V_alloc | apply Kd.V_drewN | apply Kd.V_drew)); exact HO147.out) (Kd.R_base ho0) hb); have n3_ := Aside0.mk (Kd.R_lower ho0 (below_size (by repeat (first | (with_reducible first | exact HB.out | apply below_alloc | apply pw_below_drewN | apply below_drew1) | exact HB.out)))); have n4_ := Aside0.mk (below_step (by repeat (first | (with_reducible first | exact HB.out | apply below_alloc | apply pw_below_drewN | apply below_drew1) | exact HB.out)) hb); clear HO_3; clear HO_8; clear HO147; clear HB; have HO_3 := n0_; have HO_8 := n1_; have HO147 := n2_; have HO151 := n3_; have HB := n4_; clear n0_ n1_ n2_ n3_ n4_; (try clear hb); (try clear hb2); (try clear hk); (try clear hi); (try clear ho0)))
                                  have n0_ := Aside0.mk (Kd.R_drew HO_3.out)
                                  have n1_ := Aside0.mk (Kd.R_drew HO_8.out)
                                  have n2_ := Aside0.mk (Kd.V_drew HO147.out)
                                  have n3_ := Aside0.mk (Kd.R_drew HO151.out)
                                  have n4_ := Aside0.mk (below_drew1 HB.out)
                                  clear HO_3
                                  clear HO_8
                                  clear HO147
                                  clear HO151
                                  clear HB
                                  have HO_3 := n0_
                                  have HO_8 := n1_
                                  have HO147 := n2_
                                  have HO151 := n3_
                                  have HB := n4_
                                  clear n0_ n1_ n2_ n3_ n4_
                                  obtain ⟨Ao49, co49, eo49⟩ := Kd.R_slice HO_8.out
                                  (first | subst eo49 | (injection eo49 with f1_ f2_ f3_; have f4_ := f1_.symm; have f5_ := f3_.symm; clear f1_ f2_ f3_; subst f4_; subst f5_))
                                  have p152 : 0 ≤ (x9_1 : Int) := of_decide_eq_true (by first | (with_reducible assumption) | assumption)
                                  have q152 : x9_1 < (y141.length : Int) := of_decide_eq_true (by first | (with_reducible assumption) | assumption)
                                  obtain ⟨ad152, e152, hx152_0⟩ := Kd.at_string (Kd.R_reads' HO_8.out).2.2 x9_1 p152 q152
                                  cases e152
                                  replace p152 := eq_true p152
                                  replace q152 := eq_true q152
                                  have p154 : 0 ≤ (x9_1 : Int) := of_decide_eq_true (by first | (with_reducible assumption) | assumption)
                                  have q154 : x9_1 < (y141.length : Int) := of_decide_eq_true (by first | (with_reducible assumption) | assumption)
                                  obtain ⟨ad154, e154, hx154_0⟩ := Kd.at_string (Kd.R_reads' HO_8.out).2.2 x9_1 p154 q154
                                  obtain rfl : ad152 = ad154 := (by injection e154)
                                  replace p154 := eq_true p154
                                  replace q154 := eq_true q154
                                  have p155 : 0 ≤ (x9_1 : Int) := of_decide_eq_true (by first | (with_reducible assumption) | assumption)
                                  have q155 : x9_1 < (y141.length : Int) := of_decide_eq_true (by first | (with_reducible assumption) | assumption)
                                  obtain ⟨ad155, e155, hx155_0⟩ := Kd.at_string (Kd.R_reads' HO_8.out).2.2 x9_1 p155 q155
                                  obtain rfl : ad152 = ad155 := (by injection e155)
                                  replace p155 := eq_true p155
                                  replace q155 := eq_true q155
                                  have hcv50 := own_string (P := Try.prog) Try.underlying22 Try.underlying5 Try.underlying9 (Kd.own_of_R HO151.out)
                                  refine start_ (n := 34) (S := fun w' => w'.cell? (ad152.add (x9_1).toNat) = some (.string (rdOf ByteArray.empty y141 x9_1)) ∧ w'.cell? (ad152.add (x9_1).toNat) = some (.string (rdOf ByteArray.empty y141 x9_1)) ∧ w'.cell? (ad152.add (x9_1).toNat) = some (.string (rdOf ByteArray.empty y141 x9_1)) ∧ (convert 22 9 v150).run Try.prog w' = .ok (.string (strOfNums t148)) w') (ds := []) #[false, false, false, false, false, false, false, false, false, false, false, false, false, false, false, false, false, false, false, false, false, false, false, false, false, false, false, false, false, false, false, false, false, false] (by kernel_rfl) rfl rfl ⟨hx152_0, hx154_0, hx155_0, hcv50⟩ (fun hHeld => ?_); refine with_tabW scrimlaw14_PadKnown.tab13 scrimlaw14_PadKnown.bits13 (fun HT_ HW_ => ?_)
                                  generalize w47.drew = w48 at HO_3 HO_8 HO147 HO151 HB hx152_0 hx154_0 hx155_0 hHeld ⊢
                                  refine pure_ (i := 0) (N := some 50) (v := ?_) (a' := ?_) #[true, false, false, false, false, false, false, false, false, false, false, false, false, false, false, false, false, false, false, false, false, false, false, false, false, false, false, false, false, false, false, false, false, false] rfl rfl (any_of HT_.out (by kernel_rfl)) (fun _ _ _ h => h) (Or.inl ⟨by rfl, ?_⟩) ?_ ?_
                                  rotate_left
                                  · intro w'
                                    go_simp
                                    with_reducible rfl
                                  rotate_left
                                  · simp only [Act.put, List.setIfInBounds_toArray, List.set_cons_zero, List.set_cons_succ, i64_w, i32_w]
                                    rfl
                                  refine pure_ (i := 1) (N := some 51) (v := ?_) (a' := ?_) #[true, true, false, false, false, false, false, false, false, false, false, false, false, false, false, false, false, false, false, false, false, false, false, false, false, false, false, false, false, false, false, false, false, false] rfl rfl (any_of HT_.out (by kernel_rfl)) (fun _ _ _ h => h) (Or.inl ⟨by rfl, ?_⟩) ?_ ?_
                                  rotate_left
                                  · intro w'
                                    go_simp
                                    with_reducible rfl
                                  rotate_left
                                  · simp only [Act.put, List.setIfInBounds_toArray, List.set_cons_zero, List.set_cons_succ, i64_w, i32_w]
                                    rfl
                                  refine pure_ (i := 2) (N := some 52) (v := ?_) (a' := ?_) #[true, true, true, false, false, false, false, false, false, false, false, false, false, false, false, false, false, false, false, false, false, false, false, false, false, false, false, false, false, false, false, false, false, false] rfl rfl (any_of HT_.out (by kernel_rfl)) (fun _ _ _ h => h) (Or.inl ⟨by rfl, ?_⟩) ?_ ?_
                                  rotate_left
                                  · intro w'
                                    go_simp
                                    with_reducible rfl
                                  rotate_left
                                  · simp only [Act.put, List.setIfInBounds_toArray, List.set_cons_zero, List.set_cons_succ, i64_w, i32_w]
                                    rfl
                                  refine take_ (i := 3) (N := some 53) (v := ?_) (a' := ?_) #[true, true, true, true, false, false, false, false, false, false, false, false, false, false, false, false, false, false, false, false, false, false, false, false, false, false, false, false, false, false, false, false, false, false] rfl rfl (take_ofW HT_.out HW_.out (by kernel_rfl)) (fun _ _ _ h => h) (Or.inl ⟨by rfl, ?_⟩) hHeld ?_ ?_
                                  rotate_left
                                  · rintro w' ⟨s0, s1, s2⟩
                                    go_simp
                                    with_reducible rfl
                                  rotate_left
                                  · simp only [Act.put, List.setIfInBounds_toArray, List.set_cons_zero, List.set_cons_succ, i64_w, i32_w]
                                    rfl
                                  refine pure_ (i := 4) (N := some 54) (v := ?_) (a' := ?_) #[true, true, true, true, true, false, false, false, false, false, false, false, false, false, false, false, false, false, false, false, false, false, false, false, false, false, false, false, false, false, false, false, false, false] rfl rfl (any_of HT_.out (by kernel_rfl)) (fun _ _ _ h => h) (Or.inl ⟨by rfl, ?_⟩) ?_ ?_
                                  rotate_left
                                  · intro w'
                                    go_simp
                                    with_reducible rfl
                                  rotate_left
                                  · simp only [Act.put, List.setIfInBounds_toArray, List.set_cons_zero, List.set_cons_succ, i64_w, i32_w]
                                    rfl
                                  refine pure_ (i := 5) (N := some 55) (v := ?_) (a' := ?_) #[true, true, true, true, true, true, false, false, false, false, false, false, false, false, false, false, false, false, false, false, false, false, false, false, false, false, false, false, false, false, false, false, false, false] rfl rfl (any_of HT_.out (by kernel_rfl)) (fun _ _ _ h => h) (Or.inl ⟨by rfl, ?_⟩) ?_ ?_
                                  rotate_left
                                  · intro w'
                                    go_simp
                                    with_reducible rfl
                                  rotate_left
                                  · simp only [Act.put, List.setIfInBounds_toArray, List.set_cons_zero, List.set_cons_succ, i64_w, i32_w]
                                    rfl
                                  refine pure_ (i := 6) (N := some 56) (v := undef) (a' := ?_) #[true, true, true, true, true, true, true, false, false, false, false, false, false, false, false, false, false, false, false, false, false, false, false, false, false, false, false, false, false, false, false, false, false, false] rfl rfl (any_of HT_.out (by kernel_rfl)) (fun _ _ _ h => h) (Or.inr ⟨by rfl, rfl⟩) ?_ ?_
                                  rotate_left
                                  · simp only [Act.put, List.setIfInBounds_toArray, List.set_cons_zero, List.set_cons_succ, i64_w, i32_w]
                                    rfl
                                  refine pure_ (i := 7) (N := some 57) (v := undef) (a' := ?_) #[true, true, true, true, true, true, true, true, false, false, false, false, false, false, false, false, false, false, false, false, false, false, false, false, false, false, false, false, false, false, false, false, false, false] rfl rfl (any_of HT_.out (by kernel_rfl)) (fun _ _ _ h => h) (Or.inr ⟨by rfl, rfl⟩) ?_ ?_
                                  rotate_left
                                  · simp only [Act.put, List.setIfInBounds_toArray, List.set_cons_zero, List.set_cons_succ, i64_w, i32_w]
                                    rfl
                                  refine pure_ (i := 8) (N := some 58) (v := undef) (a' := ?_) #[true, true, true, true, true, true, true, true, true, false, false, false, false, false, false, false, false, false, false, false, false, false, false, false, false, false, false, false, false, false, false, false, false, false] rfl rfl (any_of HT_.out (by kernel_rfl)) (fun _ _ _ h => h) (Or.inr ⟨by rfl, rfl⟩) ?_ ?_
                                  rotate_left
                                  · simp only [Act.put, List.setIfInBounds_toArray, List.set_cons_zero, List.set_cons_succ, i64_w, i32_w]
                                    rfl
                                  refine pure_ (i := 9) (N := some 59) (v := undef) (a' := ?_) #[true, true, true, true, true, true, true, true, true, true, false, false, false, false, false, false, false, false, false, false, false, false, false, false, false, false, false, false, false, false, false, false, false, false] rfl rfl (any_of HT_.out (by kernel_rfl)) (fun _ _ _ h => h) (Or.inr ⟨by rfl, rfl⟩) ?_ ?_
                                  rotate_left
                                  · simp only [Act.put, List.setIfInBounds_toArray, List.set_cons_zero, List.set_cons_succ, i64_w, i32_w]
                                    rfl
                                  refine pure_ (i := 10) (N := some 60) (v := undef) (a' := ?_) #[true, true, true, true, true, true, true, true, true, true, true, false, false, false, false, false, false, false, false, false, false, false, false, false, false, false, false, false, false, false, false, false, false, false] rfl rfl (any_of HT_.out (by kernel_rfl)) (fun _ _ _ h => h) (Or.inr ⟨by rfl, rfl⟩) ?_ ?_
                                  rotate_left
                                  · simp only [Act.put, List.setIfInBounds_toArray, List.set_cons_zero, List.set_cons_succ, i64_w, i32_w]
                                    rfl
                                  refine pure_ (i := 11) (N := some 61) (v := undef) (a' := ?_) #[true, true, true, true, true, true, true, true, true, true, true, true, false, false, false, false, false, false, false, false, false, false, false, false, false, false, false, false, false, false, false, false, false, false] rfl rfl (any_of HT_.out (by kernel_rfl)) (fun _ _ _ h => h) (Or.inr ⟨by rfl, rfl⟩) ?_ ?_
                                  rotate_left
                                  · simp only [Act.put, List.setIfInBounds_toArray, List.set_cons_zero, List.set_cons_succ, i64_w, i32_w]
                                    rfl
                                  refine pure_ (i := 12) (N := some 62) (v := undef) (a' := ?_) #[true, true, true, true, true, true, true, true, true, true, true, true, true, false, false, false, false, false, false, false, false, false, false, false, false, false, false, false, false, false, false, false, false, false] rfl rfl (any_of HT_.out (by kernel_rfl)) (fun _ _ _ h => h) (Or.inr ⟨by rfl, rfl⟩) ?_ ?_
                                  rotate_left
                                  · simp only [Act.put, List.setIfInBounds_toArray, List.set_cons_zero, List.set_cons_succ, i64_w, i32_w]
                                    rfl
                                  refine pure_ (i := 13) (N := some 63) (v := ?_) (a' := ?_) #[true, true, true, true, true, true, true, true, true, true, true, true, true, true, false, false, false, false, false, false, false, false, false, false, false, false, false, false, false, false, false, false, false, false] rfl rfl (any_of HT_.out (by kernel_rfl)) (fun _ _ _ h => h) (Or.inl ⟨by rfl, ?_⟩) ?_ ?_
                                  rotate_left
                                  · intro w'
                                    go_simp
                                    with_reducible rfl
                                  rotate_left
                                  · simp only [Act.put, List.setIfInBounds_toArray, List.set_cons_zero, List.set_cons_succ, i64_w, i32_w]
                                    rfl
                                  refine pure_ (i := 14) (N := some 64) (v := ?_) (a' := ?_) #[true, true, true, true, true, true, true, true, true, true, true, true, true, true, true, false, false, false, false, false, false, false, false, false, false, false, false, false, false, false, false, false, false, false] rfl rfl (any_of HT_.out (by kernel_rfl)) (fun _ _ _ h => h) (Or.inl ⟨by rfl, ?_⟩) ?_ ?_
                                  rotate_left
                                  · intro w'
                                    go_simp
                                    with_reducible rfl
                                  rotate_left
                                  · simp only [Act.put, List.setIfInBounds_toArray, List.set_cons_zero, List.set_cons_succ, i64_w, i32_w]
                                    rfl
                                  refine pure_ (i := 15) (N := some 65) (v := ?_) (a' := ?_) #[true, true, true, true, true, true, true, true, true, true, true, true, true, true, true, true, false, false, false, false, false, false, false, false, false, false, false, false, false, false, false, false, false, false] rfl rfl (any_of HT_.out (by kernel_rfl)) (fun _ _ _ h => h) (Or.inl ⟨by rfl, ?_⟩) ?_ ?_
                                  rotate_left
                                  · intro w'
                                    go_simp
                                    with_reducible rfl
                                  rotate_left
                                  · simp only [Act.put, List.setIfInBounds_toArray, List.set_cons_zero, List.set_cons_succ, i64_w, i32_w]
                                    rfl
                                  refine pure_ (i := 16) (N := some 66) (v := ?_) (a' := ?_) #[true, true, true, true, true, true, true, true, true, true, true, true, true, true, true, true, true, false, false, false, false, false, false, false, false, false, false, false, false, false, false, false, false, false] rfl rfl (any_of HT_.out (by kernel_rfl)) (fun _ _ _ h => h) (Or.inl ⟨by rfl, ?_⟩) ?_ ?_
                                  rotate_left
                                  · intro w'
                                    go_simp
                                    with_reducible rfl
                                  rotate_left
                                  · simp only [Act.put, List.setIfInBounds_toArray, List.set_cons_zero, List.set_cons_succ, i64_w, i32_w]
                                    rfl
                                  refine pure_ (i := 17) (N := some 67) (v := ?_) (a' := ?_) #[true, true, true, true, true, true, true, true, true, true, true, true, true, true, true, true, true, true, false, false, false, false, false, false, false, false, false, false, false, false, false, false, false, false] rfl rfl (any_of HT_.out (by kernel_rfl)) (fun _ _ _ h => h) (Or.inl ⟨by rfl, ?_⟩) ?_ ?_
                                  rotate_left
                                  · intro w'
                                    go_simp
                                    with_reducible rfl
                                  rotate_left
                                  · simp only [Act.put, List.setIfInBounds_toArray, List.set_cons_zero, List.set_cons_succ, i64_w, i32_w]
                                    rfl
                                  refine take_ (i := 18) (N := some 68) (v := ?_) (a' := ?_) #[true, true, true, true, true, true, true, true, true, true, true, true, true, true, true, true, true, true, true, false, false, false, false, false, false, false, false, false, false, false, false, false, false, false] rfl rfl (take_ofW HT_.out HW_.out (by kernel_rfl)) (fun _ _ _ h => h) (Or.inl ⟨by rfl, ?_⟩) hHeld ?_ ?_
                                  rotate_left
                                  · rintro w' ⟨s0, s1, s2⟩
                                    go_simp
                                    with_reducible rfl
                                  rotate_left
                                  · simp only [Act.put, List.setIfInBounds_toArray, List.set_cons_zero, List.set_cons_succ, i64_w, i32_w]
                                    rfl
                                  refine pure_ (i := 19) (N := some 69) (v := ?_) (a' := ?_) #[true, true, true, true, true, true, true, true, true, true, true, true, true, true, true, true, true, true, true, true, false, false, false, false, false, false, false, false, false, false, false, false, false, false] rfl rfl (any_of HT_.out (by kernel_rfl)) (fun _ _ _ h => h) (Or.inl ⟨by rfl, ?_⟩) ?_ ?_
                                  rotate_left
                                  · intro w'
                                    go_simp
                                    with_reducible rfl
                                  rotate_left
                                  · simp only [Act.put, List.setIfInBounds_toArray, List.set_cons_zero, List.set_cons_succ, i64_w, i32_w]
                                    rfl
                                  refine pure_ (i := 20) (N := some 70) (v := ?_) (a' := ?_) #[true, true, true, true, true, true, true, true, true, true, true, true, true, true, true, true, true, true, true, true, true, false, false, false, false, false, false, false, false, false, false, false, false, false] rfl rfl (any_of HT_.out (by kernel_rfl)) (fun _ _ _ h => h) (Or.inl ⟨by rfl, ?_⟩) ?_ ?_
                                  rotate_left
                                  · intro w'
                                    go_simp
                                    with_reducible rfl
                                  rotate_left
                                  · simp only [Act.put, List.setIfInBounds_toArray, List.set_cons_zero, List.set_cons_succ, i64_w, i32_w]
                                    rfl
                                  refine pure_ (i := 21) (N := some 71) (v := ?_) (a' := ?_) #[true, true, true, true, true, true, true, true, true, true, true, true, true, true, true, true, true, true, true, true, true, true, false, false, false, false, false, false, false, false, false, false, false, false] rfl rfl (any_of HT_.out (by kernel_rfl)) (fun _ _ _ h => h) (Or.inl ⟨by rfl, ?_⟩) ?_ ?_
                                  rotate_left
                                  · intro w'
                                    go_simp
                                    with_reducible rfl
                                  rotate_left
                                  · simp only [Act.put, List.setIfInBounds_toArray, List.set_cons_zero, List.set_cons_succ, i64_w, i32_w]
                                    rfl
                                  refine pure_ (i := 22) (N := some 72) (v := ?_) (a' := ?_) #[true, true, true, true, true, true, true, true, true, true, true, true, true, true, true, true, true, true, true, true, true, true, true, false, false, false, false, false, false, false, false, false, false, false] rfl rfl (any_of HT_.out (by kernel_rfl)) (fun _ _ _ h => h) (Or.inl ⟨by rfl, ?_⟩) ?_ ?_
                                  rotate_left
                                  · intro w'
                                    go_simp
                                    with_reducible rfl
                                  rotate_left
                                  · simp only [Act.put, List.setIfInBounds_toArray, List.set_cons_zero, List.set_cons_succ, i64_w, i32_w]
                                    rfl
                                  refine pure_ (i := 23) (N := some 73) (v := ?_) (a' := ?_) #[true, true, true, true, true, true, true, true, true, true, true, true, true, true, true, true, true, true, true, true, true, true, true, true, false, false, false, false, false, false, false, false, false, false] rfl rfl (any_of HT_.out (by kernel_rfl)) (fun _ _ _ h => h) (Or.inl ⟨by rfl, ?_⟩) ?_ ?_
                                  rotate_left
                                  · intro w'
                                    go_simp
                                    with_reducible rfl
                                  rotate_left
                                  · simp only [Act.put, List.setIfInBounds_toArray, List.set_cons_zero, List.set_cons_succ, i64_w, i32_w]
                                    rfl
                                  refine pure_ (i := 24) (N := some 74) (v := ?_) (a' := ?_) #[true, true, true, true, true, true, true, true, true, true, true, true, true, true, true, true, true, true, true, true, true, true, true, true, true, false, false, false, false, false, false, false, false, false] rfl rfl (any_of HT_.out (by kernel_rfl)) (fun _ _ _ h => h) (Or.inl ⟨by rfl, ?_⟩) ?_ ?_
                                  rotate_left
                                  · intro w'
                                    go_simp
                                    with_reducible rfl
                                  rotate_left
                                  · simp only [Act.put, List.setIfInBounds_toArray, List.set_cons_zero, List.set_cons_succ, i64_w, i32_w]
                                    rfl
                                  refine take_ (i := 25) (N := some 75) (v := ?_) (a' := ?_) #[true, true, true, true, true, true, true, true, true, true, true, true, true, true, true, true, true, true, true, true, true, true, true, true, true, true, false, false, false, false, false, false, false, false] rfl rfl (take_ofW HT_.out HW_.out (by kernel_rfl)) (fun _ _ _ h => h) (Or.inl ⟨by rfl, ?_⟩) hHeld ?_ ?_
                                  rotate_left
                                  · rintro w' ⟨s0, s1, s2, s3⟩
                                    go_simp
                                    with_reducible rfl
                                  rotate_left
                                  · simp only [Act.put, List.setIfInBounds_toArray, List.set_cons_zero, List.set_cons_succ, i64_w, i32_w]
                                    rfl
                                  refine pure_ (i := 26) (N := some 76) (v := ?_) (a' := ?_) #[true, true, true, true, true, true, true, true, true, true, true, true, true, true, true, true, true, true, true, true, true, true, true, true, true, true, true, false, false, false, false, false, false, false] rfl rfl (any_of HT_.out (by kernel_rfl)) (fun _ _ _ h => h) (Or.inl ⟨by rfl, ?_⟩) ?_ ?_
                                  rotate_left
                                  · intro w'
                                    go_simp
                                    with_reducible rfl
                                  rotate_left
                                  · simp only [Act.put, List.setIfInBounds_toArray, List.set_cons_zero, List.set_cons_succ, i64_w, i32_w]
                                    rfl
                                  refine pure_ (i := 27) (N := some 77) (v := ?_) (a' := ?_) #[true, true, true, true, true, true, true, true, true, true, true, true, true, true, true, true, true, true, true, true, true, true, true, true, true, true, true, true, false, false, false, false, false, false] rfl rfl (any_of HT_.out (by kernel_rfl)) (fun _ _ _ h => h) (Or.inl ⟨by rfl, ?_⟩) ?_ ?_
                                  rotate_left
                                  · intro w'
                                    go_simp
                                    with_reducible rfl
                                  rotate_left
                                  · simp only [Act.put, List.setIfInBounds_toArray, List.set_cons_zero, List.set_cons_succ, i64_w, i32_w]
                                    rfl
                                  refine pure_ (i := 28) (N := some 78) (v := ?_) (a' := ?_) #[true, true, true, true, true, true, true, true, true, true, true, true, true, true, true, true, true, true, true, true, true, true, true, true, true, true, true, true, true, false, false, false, false, false] rfl rfl (any_of HT_.out (by kernel_rfl)) (fun _ _ _ h => h) (Or.inl ⟨by rfl, ?_⟩) ?_ ?_
                                  rotate_left
                                  · intro w'
                                    go_simp
                                    with_reducible rfl
                                  rotate_left
                                  · simp only [Act.put, List.setIfInBounds_toArray, List.set_cons_zero, List.set_cons_succ, i64_w, i32_w]
                                    rfl
                                  refine take_ (i := 29) (N := some 79) (v := ?_) (a' := ?_) #[true, true, true, true, true, true, true, true, true, true, true, true, true, true, true, true, true, true, true, true, true, true, true, true, true, true, true, true, true, true, false, false, false, false] rfl rfl (take_ofW HT_.out HW_.out (by kernel_rfl)) (fun _ _ _ h => h) (Or.inl ⟨by rfl, ?_⟩) hHeld ?_ ?_
                                  rotate_left
                                  · rintro w' ⟨s0, s1, s2⟩
                                    go_simp
                                    with_reducible rfl
                                  rotate_left
                                  · simp only [Act.put, List.setIfInBounds_toArray, List.set_cons_zero, List.set_cons_succ, i64_w, i32_w]
                                    rfl
                                  refine pure_ (i := 30) (N := some 80) (v := ?_) (a' := ?_) #[true, true, true, true, true, true, true, true, true, true, true, true, true, true, true, true, true, true, true, true, true, true, true, true, true, true, true, true, true, true, true, false, false, false] rfl rfl (any_of HT_.out (by kernel_rfl)) (fun _ _ _ h => h) (Or.inl ⟨by rfl, ?_⟩) ?_ ?_
                                  rotate_left
                                  · intro w'
                                    go_simp
                                    with_reducible rfl
                                  rotate_left
                                  · simp only [Act.put, List.setIfInBounds_toArray, List.set_cons_zero, List.set_cons_succ, i64_w, i32_w]
                                    rfl
                                  refine pure_ (i := 31) (N := some 81) (v := ?_) (a' := ?_) #[true, true, true, true, true, true, true, true, true, true, true, true, true, true, true, true, true, true, true, true, true, true, true, true, true, true, true, true, true, true, true, true, false, false] rfl rfl (any_of HT_.out (by kernel_rfl)) (fun _ _ _ h => h) (Or.inl ⟨by rfl, ?_⟩) ?_ ?_
                                  rotate_left
                                  · intro w'
                                    go_simp
                                    with_reducible rfl
                                  rotate_left
                                  · simp only [Act.put, List.setIfInBounds_toArray, List.set_cons_zero, List.set_cons_succ, i64_w, i32_w]
                                    rfl
                                  refine pure_ (i := 32) (N := some 82) (v := ?_) (a' := ?_) #[true, true, true, true, true, true, true, true, true, true, true, true, true, true, true, true, true, true, true, true, true, true, true, true, true, true, true, true, true, true, true, true, true, false] rfl rfl (any_of HT_.out (by kernel_rfl)) (fun _ _ _ h => h) (Or.inl ⟨by rfl, ?_⟩) ?_ ?_
                                  rotate_left
                                  · intro w'
                                    go_simp
                                    with_reducible rfl
                                  rotate_left
                                  · simp only [Act.put, List.setIfInBounds_toArray, List.set_cons_zero, List.set_cons_succ, i64_w, i32_w]
                                    rfl
                                  refine pure_ (i := 33) (N := some 83) (v := ?_) (a' := ?_) #[true, true, true, true, true, true, true, true, true, true, true, true, true, true, true, true, true, true, true, true, true, true, true, true, true, true, true, true, true, true, true, true, true, true] rfl rfl (any_of HT_.out (by kernel_rfl)) (fun _ _ _ h => h) (Or.inl ⟨by rfl, ?_⟩) ?_ ?_
                                  rotate_left
                                  · intro w'
                                    go_simp
                                    with_reducible rfl
                                  rotate_left
                                  · simp only [Act.put, List.setIfInBounds_toArray, List.set_cons_zero, List.set_cons_succ, i64_w, i32_w]
                                    rfl
                                  refine done_ (done_of HT_.out (by kernel_rfl)) ?_
                                  try go_wp2
                                  go_roundg k1
                                  case measure => have := HK1.out; omega
                                  case rel => exact ⟨(wrap64 (x9_1 + 1)), (by first | rfl | (simp; done) | (simp [*]; done)), H', ⟨by have := HK1.out; omega⟩, ⟨by (with_reducible repeat (first | apply Kd.R_alloc | apply Kd.R_drewN | apply Kd.R_drew)); exact HO_3.out⟩, ⟨by (with_reducible repeat (first | apply Kd.R_alloc | apply Kd.R_drewN | apply Kd.R_drew)); exact HO_8.out⟩, ⟨by repeat (first | (with_reducible first | exact HB.out | apply below_alloc | apply pw_below_drewN | apply below_drew1) | exact HB.out)⟩⟩
                                · rw [if_neg c43] at H
                                  exact absurd H (by simp)
                              · rw [if_neg c42] at H
                                exact absurd H (by simp)
                          · rw [if_neg c31] at H
                            exact absurd H (by simp)
                        · rw [if_neg c30] at H
                          exact absurd H (by simp)
                      · rw [if_neg c28] at H
                        exact absurd H (by simp)
                    · rw [if_neg c27] at H
                      exact absurd H (by simp)
                  · rw [if_neg c26] at H
                    exact absurd H (by simp)
                · rw [if_neg c25] at H
                  have c25b0 : decide (x9_1 < 3) = false := decide_eq_false c25
                  clear c25
                  obtain rfl := Option.some.inj H
                  go_wp2
                  go_ret
                  exact ⟨by first | rfl | (simp [errW_none, errW_some] <;> rfl) | (simp [*, errW_none, errW_some] <;> rfl), by repeat (first | (with_reducible first | exact HB.out | apply below_alloc | apply pw_below_drewN | apply below_drew1) | exact HB.out)⟩
          · rw [if_neg c8] at H
            exact absurd H (by simp)
        · rw [if_neg c7] at H
          exact absurd H (by simp)
      · rw [if_neg c6] at H
        exact absurd H (by simp)
    · rw [if_neg c5] at H
      exact absurd H (by simp)
  · replace c3 := Bool.eq_false_iff.mpr c3
    subst c3
    have H1 : (some false) = some r := by rw [if_neg (show ¬ (false = true) by decide)] at H; exact H
    clear H
    have H := H1
    clear H1
    obtain rfl := Option.some.inj H
    go_enter Try.func7, Try.ntmps7
    go_wp2_with (first | ((with_reducible refine gate_callee (f := 10) rfl ?_); refine goesL_ (some 12) rfl rfl Try.func10 (by kernel_rfl) rfl #[] rfl (by (try simp only [List.map_toArray, List.map_cons, List.map_nil]); first | done | rfl | (simp only [List.length_drop, List.length_take]; rfl)) ?_; (with_reducible refine (scrimlaw14_known.calls k  false _ A2.out).mono ?_); rintro e w51 ⟨rfl, hb⟩; refine ⟨_, rfl, ?_⟩; have n0_ := Aside0.mk (below_step (by repeat (first | (with_reducible first | exact HB.out | apply below_alloc | apply pw_below_drewN | apply below_drew1) | exact HB.out)) hb); clear HB; have HB := n0_; clear n0_; (try clear hb); (try clear hb2); (try clear hk); (try clear hi)))
    go_ret
    exact ⟨by first | rfl | (simp [errW_none, errW_some] <;> rfl) | (simp [*, errW_none, errW_some] <;> rfl), by repeat (first | (with_reducible first | exact HB.out | apply below_alloc | apply pw_below_drewN | apply below_drew1) | exact HB.out)⟩

/-- THE ONE PURE STATEMENT of scrimlaw14_PadKnown: yours. -/
def scrimlaw14_PadKnown.Pure : Prop := ∀ (a0 : Int), (Lit.int .i64 a0).wf = true → ∃ k, scrimlaw14_PadKnown.f k a0 = some true
theorem scrimlaw14_PadKnown.walk (P : scrimlaw14_PadKnown.Pure) (a0 : Int) (w : World) (w0 : (Lit.int .i64 a0).wf = true) :
    Calls Try.prog 7 #[.int .i64 a0] w fun e w' => e = .returned (.bool true) ∧ Below w.heap.size w w' := by
  obtain ⟨k, h⟩ := P a0 w0
  refine (scrimlaw14_PadKnown.calls k a0 true w h).mono ?_
  rintro e w' ⟨rfl, hd⟩
  exact ⟨rfl, hd⟩

end Go.Proofs.Ythpeffpafpfkcaa.MPadKnown
