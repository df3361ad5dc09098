/- A walk: each Go function that is named here answers what its plain function answers. Conditions: its arguments are read as lists and numbers. -/
import Derived.Test.YtnbopkmhakfmmaaMDesx0
import Derived.Test.YtnbopkmhakfmmaaMDesb
import Derived.Test.YtnbopkmhakfmmaaMDesc
import Derived.Test.YtnbopkmhakfmmaaMDesg
import Derived.Test.YtnbopkmhakfmmaaMDesh
import Derived.Test.YtnbopkmhakfmmaaMDesi
namespace Go.Proofs.Ytnbopkmhakfmmaa.MDes
open Go.RowKit Go.Proofs.YtnbopkmhakfmmaaW.PrintWords Go.Proofs.YtnbopkmhakfmmaaW.PrintLast Go.Proofs.YtnbopkmhakfmmaaW.PrintMore
attribute [local go_sem] max2_int min2_int max_two min_two max_three min_three max_four min_four   -- for this text's walks alone
set_option linter.unusedVariables false
set_option linter.unusedSimpArgs false

/-! ### scrimlaw6_DesWeak: function 7 -/
def scrimlaw6_DesWeak.l0 : Nat → List Int → List (List Int) → List (List (List Int)) → Int → Option (Bool)
  | 0, _, _, _, _ => none
  | k + 1, x1, x6, x8, x10 => if x10 < 16 then (if 0 ≤ x10 then (if x10 < (x6.length : Int) then (if 0 < (x6.length : Int) then (if (strOfNums (rd_L2 x6 x10)).toList = (strOfNums (rd_L2 x6 0)).toList then (scrimlaw6_DesWeak.l0 k x1 x6 x8 (wrap64 (x10 + 1))) else (none)) else (none)) else (none)) else (none)) else ((scrimlaw6_Bytes.f k 8 x1).bind fun t691 => ((des_Des_Block.f k x8 t691 false).bind fun bt694 => ((des_Des_Block.f k x8 bt694.1 false).bind fun bt698 => (if (bt694.1.length : Int) = 8 then ((scrimlaw6_Bytes.f k 8 x1).bind fun t702 => (some ((strOfNums bt698.1).toList == (strOfNums t702).toList))) else (none)))))
def scrimlaw6_DesWeak.f (k : Nat) (a0 : Int) (l1 : List Int) : Option (Bool) := (scrimlaw6_known.f k).bind fun t663 => (if t663 = true then ((some (([(([1, 1, 1, 1, 1, 1, 1, 1] : List Int)), (([254, 254, 254, 254, 254, 254, 254, 254] : List Int)), (([31, 31, 31, 31, 14, 14, 14, 14] : List Int)), (([224, 224, 224, 224, 241, 241, 241, 241] : List Int))] : List (List Int)) : List (List Int))).bind fun y676 => ((scrimlaw6_within.f a0 4).bind fun t679 => (if 0 ≤ t679 then (if t679 < (y676.length : Int) then ((des_Keys.f k (rd_L2 y676 t679)).bind fun bt681 => ((des_New.f k (rd_L2 y676 t679)).bind fun bt685 => (if bt681.2 = 0 then (if bt685.2 = 0 then (if bt685.1 = [] then (none) else (if (bt681.1.length : Int) = 16 then (scrimlaw6_DesWeak.l0 k l1 bt681.1 bt685.1 1) else (none))) else (none)) else (none)))) else (none)) else (none)))) else (none))
theorem scrimlaw6_DesWeak.mono_l : ∀ k, (∀ y0 y1 y2 y3, LeO (scrimlaw6_DesWeak.l0 k y0 y1 y2 y3) (scrimlaw6_DesWeak.l0 (k + 1) y0 y1 y2 y3))
  | 0 => fun _ _ _ _ r h => by simp [scrimlaw6_DesWeak.l0] at h
  | k + 1 => by
    have ih0 := scrimlaw6_DesWeak.mono_l k
    · intro y0 y1 y2 y3
      unfold scrimlaw6_DesWeak.l0
      repeat' first
      | (with_reducible exact ih0 _ _ _ _)
      | (with_reducible exact des_Des_Block.mono _ _ _ _)
      | (with_reducible exact des_Keys.mono _ _)
      | (with_reducible exact des_New.mono _ _)
      | (with_reducible exact scrimlaw6_Bytes.mono _ _ _)
      | (with_reducible exact scrimlaw6_known.mono _)
      | (with_reducible exact LeO.refl _)
      | (with_reducible exact LeO.none _)
      | (with_reducible refine LeO.ite ?_ ?_)
      | (with_reducible refine LeO.bind ?_ (fun _ => ?_))
      | exact ih0 _ _ _ _
      | exact des_Des_Block.mono _ _ _ _
      | exact des_Keys.mono _ _
      | exact des_New.mono _ _
      | exact scrimlaw6_Bytes.mono _ _ _
      | exact scrimlaw6_known.mono _
      | exact LeO.none _
      | refine LeO.ite ?_ ?_
      | refine LeO.bind ?_ (fun _ => ?_)
theorem scrimlaw6_DesWeak.mono : ∀ a0 a1 k, LeO (scrimlaw6_DesWeak.f k a0 a1) (scrimlaw6_DesWeak.f (k + 1) a0 a1) := by
  intro a0 a1 k
  have ih0 := scrimlaw6_DesWeak.mono_l k
  unfold scrimlaw6_DesWeak.f
  repeat' first
      | (with_reducible exact ih0 _ _ _ _)
      | (with_reducible exact des_Des_Block.mono _ _ _ _)
      | (with_reducible exact des_Keys.mono _ _)
      | (with_reducible exact des_New.mono _ _)
      | (with_reducible exact scrimlaw6_Bytes.mono _ _ _)
      | (with_reducible exact scrimlaw6_known.mono _)
      | (with_reducible exact LeO.refl _)
      | (with_reducible exact LeO.none _)
      | (with_reducible refine LeO.ite ?_ ?_)
      | (with_reducible refine LeO.bind ?_ (fun _ => ?_))
      | exact ih0 _ _ _ _
      | exact des_Des_Block.mono _ _ _ _
      | exact des_Keys.mono _ _
      | exact des_New.mono _ _
      | exact scrimlaw6_Bytes.mono _ _ _
      | exact scrimlaw6_known.mono _
      | exact LeO.none _
      | refine LeO.ite ?_ ?_
      | refine LeO.bind ?_ (fun _ => ?_)
def scrimlaw6_DesWeak.T11 : Bool × List (List Nat × List Nat) := (true, [([], []), ([], []), ([0, 1], [0, 1]), ([2], [2]), ([3], [3]), ([], []), ([5], [5]), ([6], [6]), ([7], [7]), ([4, 8], [4, 8])])
def scrimlaw6_DesWeak.B11 : List Nat := [0, 0, 3, 7, 15, 0, 32, 96, 224, 511]
theorem scrimlaw6_DesWeak.tab11 : rtab .any (opsOf Try.f7 11) = scrimlaw6_DesWeak.T11 := by kernel_rfl
theorem scrimlaw6_DesWeak.bits11 : waitsOk scrimlaw6_DesWeak.T11.2 scrimlaw6_DesWeak.B11 = true := by kernel_rfl
def scrimlaw6_DesWeak.T15 : Bool × List (List Nat × List Nat) := (true, [([], []), ([0], [0]), ([1], [1]), ([2], [2]), ([3], [3]), ([4, 3], [3, 4]), ([3], [3]), ([6, 3, 3], [3, 6]), ([7, 3], [3, 7]), ([5, 8, 3], [3, 5, 8]), ([3, 9], [3, 9]), ([10, 7, 0, 1, 2, 3, 4, 5, 6, 7, 8, 9, 10], [10])])
def scrimlaw6_DesWeak.B15 : List Nat := [0, 1, 3, 7, 15, 31, 15, 79, 207, 511, 1023, 2047]
theorem scrimlaw6_DesWeak.tab15 : rtab .any (opsOf Try.f7 15) = scrimlaw6_DesWeak.T15 := by kernel_rfl
theorem scrimlaw6_DesWeak.bits15 : waitsOk scrimlaw6_DesWeak.T15.2 scrimlaw6_DesWeak.B15 = true := by kernel_rfl
set_option maxHeartbeats 8000000 in
set_option maxRecDepth 100000 in
theorem scrimlaw6_DesWeak.calls (k : Nat) (a0 : Int) (A1 : Option Addr) (c1 : Nat) (l1 : List Int) (r : Bool) (w : World) (hr1 : Kd.C (Kd.int .u8) w A1 l1.length l1) (hc1 : l1.length ≤ c1) (h : scrimlaw6_DesWeak.f k a0 l1 = some r) :
    Calls Try.prog 7 #[.int .i64 a0, .slice A1 l1.length c1] w fun e w' => e = .returned (.bool r) ∧ Below w.heap.size w w' := by
  have HR1 := Aside0.mk hr1
  have HC1 := Aside0.mk hc1
  clear hr1 hc1
  have HB := Aside0.mk (Below.refl w.heap.size w)
  have H : ((scrimlaw6_known.f k).bind fun t663 => (if t663 = true then ((some (([(([1, 1, 1, 1, 1, 1, 1, 1] : List Int)), (([254, 254, 254, 254, 254, 254, 254, 254] : List Int)), (([31, 31, 31, 31, 14, 14, 14, 14] : List Int)), (([224, 224, 224, 224, 241, 241, 241, 241] : List Int))] : List (List Int)) : List (List Int))).bind fun y676 => ((scrimlaw6_within.f a0 4).bind fun t679 => (if 0 ≤ t679 then (if t679 < (y676.length : Int) then ((des_Keys.f k (rd_L2 y676 t679)).bind fun bt681 => ((des_New.f k (rd_L2 y676 t679)).bind fun bt685 => (if bt681.2 = 0 then (if bt685.2 = 0 then (if bt685.1 = [] then (none) else (if (bt681.1.length : Int) = 16 then (scrimlaw6_DesWeak.l0 k l1 bt681.1 bt685.1 1) else (none))) else (none)) else (none)))) else (none)) else (none)))) else (none))) = some r := h
  clear h
  replace H := Option.bind_eq_some_iff.mp H
  obtain ⟨t663, A30, H⟩ := H
  replace H : (if t663 = true then ((some (([(([1, 1, 1, 1, 1, 1, 1, 1] : List Int)), (([254, 254, 254, 254, 254, 254, 254, 254] : List Int)), (([31, 31, 31, 31, 14, 14, 14, 14] : List Int)), (([224, 224, 224, 224, 241, 241, 241, 241] : List Int))] : List (List Int)) : List (List Int))).bind fun y676 => ((scrimlaw6_within.f a0 4).bind fun t679 => (if 0 ≤ t679 then (if t679 < (y676.length : Int) then ((des_Keys.f k (rd_L2 y676 t679)).bind fun bt681 => ((des_New.f k (rd_L2 y676 t679)).bind fun bt685 => (if bt681.2 = 0 then (if bt685.2 = 0 then (if bt685.1 = [] then (none) else (if (bt681.1.length : Int) = 16 then (scrimlaw6_DesWeak.l0 k l1 bt681.1 bt685.1 1) else (none))) else (none)) else (none)))) else (none)) else (none)))) else (none)) = some r := H
  have A3 := Aside0.mk A30
  clear A30
  by_cases c4 : t663 = true
  · subst c4
    have H1 : ((some (([(([1, 1, 1, 1, 1, 1, 1, 1] : List Int)), (([254, 254, 254, 254, 254, 254, 254, 254] : List Int)), (([31, 31, 31, 31, 14, 14, 14, 14] : List Int)), (([224, 224, 224, 224, 241, 241, 241, 241] : List Int))] : List (List Int)) : List (List Int))).bind fun y676 => ((scrimlaw6_within.f a0 4).bind fun t679 => (if 0 ≤ t679 then (if t679 < (y676.length : Int) then ((des_Keys.f k (rd_L2 y676 t679)).bind fun bt681 => ((des_New.f k (rd_L2 y676 t679)).bind fun bt685 => (if bt681.2 = 0 then (if bt685.2 = 0 then (if bt685.1 = [] then (none) else (if (bt681.1.length : Int) = 16 then (scrimlaw6_DesWeak.l0 k l1 bt681.1 bt685.1 1) else (none))) else (none)) else (none)))) else (none)) else (none)))) = some r := by rw [if_pos rfl] at H; exact H
    clear H
    have H := H1
    clear H1
    obtain ⟨y664, hy664⟩ : ∃ y_ : List Int, y_ = (([1, 1, 1, 1, 1, 1, 1, 1] : List Int)) := ⟨_, rfl⟩
    replace H : ((some (([y664, (([254, 254, 254, 254, 254, 254, 254, 254] : List Int)), (([31, 31, 31, 31, 14, 14, 14, 14] : List Int)), (([224, 224, 224, 224, 241, 241, 241, 241] : List Int))] : List (List Int)) : List (List Int))).bind fun y676 => ((scrimlaw6_within.f a0 4).bind fun t679 => (if 0 ≤ t679 then (if t679 < (y676.length : Int) then ((des_Keys.f k (rd_L2 y676 t679)).bind fun bt681 => ((des_New.f k (rd_L2 y676 t679)).bind fun bt685 => (if bt681.2 = 0 then (if bt685.2 = 0 then (if bt685.1 = [] then (none) else (if (bt681.1.length : Int) = 16 then (scrimlaw6_DesWeak.l0 k l1 bt681.1 bt685.1 1) else (none))) else (none)) else (none)))) else (none)) else (none)))) = some r := by first | (rw [hy664]; with_reducible exact H) | (have H2_ := (Option.bind_some _ _).symm.trans H; rw [hy664]; with_reducible exact H2_) | (have H2_ := (Option.bind_some _ _).symm.trans H; with_reducible exact H2_) | with_reducible exact H | (rw [hy664]; exact H) | exact H
    have Ny664 := Aside0.mk hy664
    clear hy664
    obtain ⟨y667, hy667⟩ : ∃ y_ : List Int, y_ = (([254, 254, 254, 254, 254, 254, 254, 254] : List Int)) := ⟨_, rfl⟩
    replace H : ((some (([y664, y667, (([31, 31, 31, 31, 14, 14, 14, 14] : List Int)), (([224, 224, 224, 224, 241, 241, 241, 241] : List Int))] : List (List Int)) : List (List Int))).bind fun y676 => ((scrimlaw6_within.f a0 4).bind fun t679 => (if 0 ≤ t679 then (if t679 < (y676.length : Int) then ((des_Keys.f k (rd_L2 y676 t679)).bind fun bt681 => ((des_New.f k (rd_L2 y676 t679)).bind fun bt685 => (if bt681.2 = 0 then (if bt685.2 = 0 then (if bt685.1 = [] then (none) else (if (bt681.1.length : Int) = 16 then (scrimlaw6_DesWeak.l0 k l1 bt681.1 bt685.1 1) else (none))) else (none)) else (none)))) else (none)) else (none)))) = some r := by first | (rw [hy667]; with_reducible exact H) | (have H2_ := (Option.bind_some _ _).symm.trans H; rw [hy667]; with_reducible exact H2_) | (have H2_ := (Option.bind_some _ _).symm.trans H; with_reducible exact H2_) | with_reducible exact H | (rw [hy667]; exact H) | exact H
    have Ny667 := Aside0.mk hy667
    clear hy667
    obtain ⟨y670, hy670⟩ : ∃ y_ : List Int, y_ = (([31, 31, 31, 31, 14, 14, 14, 14] : List Int)) := ⟨_, rfl⟩
    replace H : ((some (([y664, y667, y670, (([224, 224, 224, 224, 241, 241, 241, 241] : List Int))] : List (List Int)) : List (List Int))).bind fun y676 => ((scrimlaw6_within.f a0 4).bind fun t679 => (if 0 ≤ t679 then (if t679 < (y676.length : Int) then ((des_Keys.f k (rd_L2 y676 t679)).bind fun bt681 => ((des_New.f k (rd_L2 y676 t679)).bind fun bt685 => (if bt681.2 = 0 then (if bt685.2 = 0 then (if bt685.1 = [] then (none) else (if (bt681.1.length : Int) = 16 then (scrimlaw6_DesWeak.l0 k l1 bt681.1 bt685.1 1) else (none))) else (none)) else (none)))) else (none)) else (none)))) = some r := by first | (rw [hy670]; with_reducible exact H) | (have H2_ := (Option.bind_some _ _).symm.trans H; rw [hy670]; with_reducible exact H2_) | (have H2_ := (Option.bind_some _ _).symm.trans H; with_reducible exact H2_) | with_reducible exact H | (rw [hy670]; exact H) | exact H
    have Ny670 := Aside0.mk hy670
    clear hy670
    obtain ⟨y673, hy673⟩ : ∃ y_ : List Int, y_ = (([224, 224, 224, 224, 241, 241, 241, 241] : List Int)) := ⟨_, rfl⟩
    replace H : ((some (([y664, y667, y670, y673] : List (List Int)) : List (List Int))).bind fun y676 => ((scrimlaw6_within.f a0 4).bind fun t679 => (if 0 ≤ t679 then (if t679 < (y676.length : Int) then ((des_Keys.f k (rd_L2 y676 t679)).bind fun bt681 => ((des_New.f k (rd_L2 y676 t679)).bind fun bt685 => (if bt681.2 = 0 then (if bt685.2 = 0 then (if bt685.1 = [] then (none) else (if (bt681.1.length : Int) = 16 then (scrimlaw6_DesWeak.l0 k l1 bt681.1 bt685.1 1) else (none))) else (none)) else (none)))) else (none)) else (none)))) = some r := by first | (rw [hy673]; with_reducible exact H) | (have H2_ := (Option.bind_some _ _).symm.trans H; rw [hy673]; with_reducible exact H2_) | (have H2_ := (Option.bind_some _ _).symm.trans H; with_reducible exact H2_) | with_reducible exact H | (rw [hy673]; exact H) | exact H
    have Ny673 := Aside0.mk hy673
    clear hy673
    obtain ⟨y676, hy676⟩ : ∃ y_ : List (List Int), y_ = (([y664, y667, y670, y673] : List (List Int))) := ⟨_, rfl⟩
    replace H : ((scrimlaw6_within.f a0 4).bind fun t679 => (if 0 ≤ t679 then (if t679 < (y676.length : Int) then ((des_Keys.f k (rd_L2 y676 t679)).bind fun bt681 => ((des_New.f k (rd_L2 y676 t679)).bind fun bt685 => (if bt681.2 = 0 then (if bt685.2 = 0 then (if bt685.1 = [] then (none) else (if (bt681.1.length : Int) = 16 then (scrimlaw6_DesWeak.l0 k l1 bt681.1 bt685.1 1) else (none))) else (none)) else (none)))) else (none)) else (none))) = some r := by first | (rw [hy676]; with_reducible exact H) | (have H2_ := (Option.bind_some _ _).symm.trans H; rw [hy676]; with_reducible exact H2_) | (have H2_ := (Option.bind_some _ _).symm.trans H; with_reducible exact H2_) | with_reducible exact H | (rw [hy676]; exact H) | exact H
    have Ny676 := Aside0.mk hy676
    clear hy676
    replace H := Option.bind_eq_some_iff.mp H
    obtain ⟨t679, A50, H⟩ := H
    replace H : (if 0 ≤ t679 then (if t679 < (y676.length : Int) then ((des_Keys.f k (rd_L2 y676 t679)).bind fun bt681 => ((des_New.f k (rd_L2 y676 t679)).bind fun bt685 => (if bt681.2 = 0 then (if bt685.2 = 0 then (if bt685.1 = [] then (none) else (if (bt681.1.length : Int) = 16 then (scrimlaw6_DesWeak.l0 k l1 bt681.1 bt685.1 1) else (none))) else (none)) else (none)))) else (none)) else (none)) = some r := H
    have A5 := Aside0.mk A50
    clear A50
    by_cases c6 : 0 ≤ t679
    · rw [if_pos c6] at H
      have c6b0 : decide (0 ≤ t679) = true := decide_eq_true c6
      clear c6
      by_cases c7 : t679 < (y676.length : Int)
      · rw [if_pos c7] at H
        have c7b0 : decide (t679 < (y676.length : Int)) = true := decide_eq_true c7
        clear c7
        replace H := Option.bind_eq_some_iff.mp H
        obtain ⟨⟨t681, t682⟩, A80, H⟩ := H
        replace H : ((des_New.f k (rd_L2 y676 t679)).bind fun bt685 => (if t682 = 0 then (if bt685.2 = 0 then (if bt685.1 = [] then (none) else (if (t681.length : Int) = 16 then (scrimlaw6_DesWeak.l0 k l1 t681 bt685.1 1) else (none))) else (none)) else (none))) = some r := H
        have A8 := Aside0.mk A80
        clear A80
        replace H := Option.bind_eq_some_iff.mp H
        obtain ⟨⟨t685, t686⟩, A90, H⟩ := H
        replace H : (if t682 = 0 then (if t686 = 0 then (if t685 = [] then (none) else (if (t681.length : Int) = 16 then (scrimlaw6_DesWeak.l0 k l1 t681 t685 1) else (none))) else (none)) else (none)) = some r := H
        have A9 := Aside0.mk A90
        clear A90
        by_cases c10 : t682 = 0
        · rw [if_pos c10] at H
          have c10b0 : (t682 == 0) = true := beq_iff_eq.mpr c10
          have c10b1 : (t682 != 0) = false := bne_eq_false_iff_eq.mpr c10
          clear c10
          by_cases c11 : t686 = 0
          · rw [if_pos c11] at H
            have c11b0 : (t686 == 0) = true := beq_iff_eq.mpr c11
            have c11b1 : (t686 != 0) = false := bne_eq_false_iff_eq.mpr c11
            clear c11
            by_cases c12 : t685 = []
            · rw [if_pos c12] at H
              exact absurd H (by simp)
            · rw [if_neg c12] at H
              have NN685 := Aside0.mk c12
              clear c12
              by_cases c13 : (t681.length : Int) = 16
              · rw [if_pos c13] at H
                have c13b0 : ((t681.length : Int) == 16) = true := beq_iff_eq.mpr c13
                have c13b1 : ((t681.length : Int) != 16) = false := bne_eq_false_iff_eq.mpr c13
                clear c13
                have H' := Aside0.mk H
                clear H
                go_enter Try.func7, Try.ntmps7
                go_wp2_with (first | ((with_reducible refine gate_callee (f := 10) rfl ?_); refine goesL_ (some 15) rfl rfl Try.func10 (by kernel_rfl) rfl #[] rfl (by (try simp only [List.map_toArray, List.map_cons, List.map_nil]); first | done | rfl | (simp only [List.length_drop, List.length_take]; rfl)) ?_; (with_reducible refine (scrimlaw6_known.calls k  true _ A3.out).mono ?_); rintro e w14 ⟨rfl, hb⟩; refine ⟨_, rfl, ?_⟩; have n0_ := Aside0.mk (below_step (by repeat (first | (with_reducible first | exact HB.out | apply below_alloc | apply pw_below_drewN | apply below_drew1) | exact HB.out)) hb); clear HB; have HB := n0_; clear n0_; (try clear hb); (try clear hb2); (try clear hk); (try clear hi)) | ((with_reducible refine gate_dst (N := 17) rfl ?_); (try (refine gate_guard (by rfl) ?_; dsimp only)); refine Kd.R_lit (Kd.int .u8) _ 5 ?hg (N := 17) ?hd (xs := ([1, 1, 1, 1, 1, 1, 1, 1] : List Int)) (inner := [.int .u8 1, .int .u8 1, .int .u8 1, .int .u8 1, .int .u8 1, .int .u8 1, .int .u8 1, .int .u8 1]) (ok := fun _ => True) (okp := fun _ => True) ?hr ?hp (fun _ hk => hk) trivial (Below.refl _ _) (Nat.le_refl _) (by simp) ?_; (case hd => rfl); (case hg => rfl); (case hr => first | (go_simp; done) | (go_simp; rfl)); (case hp => exact (Reps.one (show Kd.M (Kd.int .u8) _ _ _ 1 [.int .u8 1] from rfl) (Reps.one (show Kd.M (Kd.int .u8) _ _ _ 1 [.int .u8 1] from rfl) (Reps.one (show Kd.M (Kd.int .u8) _ _ _ 1 [.int .u8 1] from rfl) (Reps.one (show Kd.M (Kd.int .u8) _ _ _ 1 [.int .u8 1] from rfl) (Reps.one (show Kd.M (Kd.int .u8) _ _ _ 1 [.int .u8 1] from rfl) (Reps.one (show Kd.M (Kd.int .u8) _ _ _ 1 [.int .u8 1] from rfl) (Reps.one (show Kd.M (Kd.int .u8) _ _ _ 1 [.int .u8 1] from rfl) (Reps.one (show Kd.M (Kd.int .u8) _ _ _ 1 [.int .u8 1] from rfl) (Reps.none _ _)))))))))); intro v665 w15 ho16 hb hg_ hnew_; clear hg_ hnew_; (first | rw [← Ny664.out] at ho16 | (simp only [Int.reduceToNat] at ho16; rw [← Ny664.out] at ho16)); have n0_ := Aside0.mk (Kd.R_lower ho16 (below_size (by repeat (first | (with_reducible first | exact HB.out | apply below_alloc | apply pw_below_drewN | apply below_drew1) | exact HB.out)))); have n1_ := Aside0.mk (below_step (by repeat (first | (with_reducible first | exact HB.out | apply below_alloc | apply pw_below_drewN | apply below_drew1) | exact HB.out)) hb); clear HB; have HO666 := n0_; have HB := n1_; clear n0_ n1_; clear hb ho16) | ((with_reducible refine gate_dst (N := 18) rfl ?_); (try (refine gate_guard (by rfl) ?_; dsimp only)); refine Kd.R_lit (Kd.int .u8) _ 5 ?hg (N := 18) ?hd (xs := ([254, 254, 254, 254, 254, 254, 254, 254] : List Int)) (inner := [.int .u8 254, .int .u8 254, .int .u8 254, .int .u8 254, .int .u8 254, .int .u8 254, .int .u8 254, .int .u8 254]) (ok := fun _ => True) (okp := fun _ => True) ?hr ?hp (fun _ hk => hk) trivial (Below.refl _ _) (Nat.le_refl _) (by simp) ?_; (case hd => rfl); (case hg => rfl); (case hr => first | (go_simp; done) | (go_simp; rfl)); (case hp => exact (Reps.one (show Kd.M (Kd.int .u8) _ _ _ 254 [.int .u8 254] from rfl) (Reps.one (show Kd.M (Kd.int .u8) _ _ _ 254 [.int .u8 254] from rfl) (Reps.one (show Kd.M (Kd.int .u8) _ _ _ 254 [.int .u8 254] from rfl) (Reps.one (show Kd.M (Kd.int .u8) _ _ _ 254 [.int .u8 254] from rfl) (Reps.one (show Kd.M (Kd.int .u8) _ _ _ 254 [.int .u8 254] from rfl) (Reps.one (show Kd.M (Kd.int .u8) _ _ _ 254 [.int .u8 254] from rfl) (Reps.one (show Kd.M (Kd.int .u8) _ _ _ 254 [.int .u8 254] from rfl) (Reps.one (show Kd.M (Kd.int .u8) _ _ _ 254 [.int .u8 254] from rfl) (Reps.none _ _)))))))))); intro v668 w17 ho18 hb hg_ hnew_; clear hg_ hnew_; (first | rw [← Ny667.out] at ho18 | (simp only [Int.reduceToNat] at ho18; rw [← Ny667.out] at ho18)); have n0_ := Aside0.mk (Kd.R_elder' (by (with_reducible repeat (first | apply Kd.R_alloc | apply Kd.R_drewN | apply Kd.R_drew)); exact HO666.out) (Kd.R_base ho18) hb); have n1_ := Aside0.mk (Kd.R_lower (Kd.R_new' ho18 (Kd.R_lt (by (with_reducible repeat (first | apply Kd.R_alloc | apply Kd.R_drewN | apply Kd.R_drew)); exact HO666.out))) (below_size (by repeat (first | (with_reducible first | exact HB.out | apply below_alloc | apply pw_below_drewN | apply below_drew1) | exact HB.out)))); have n2_ := Aside0.mk (below_step (by repeat (first | (with_reducible first | exact HB.out | apply below_alloc | apply pw_below_drewN | apply below_drew1) | exact HB.out)) hb); clear HO666; clear HB; have HO666 := n0_; have HO669 := n1_; have HB := n2_; clear n0_ n1_ n2_; clear hb ho18) | ((with_reducible refine gate_dst (N := 19) rfl ?_); (try (refine gate_guard (by rfl) ?_; dsimp only)); refine Kd.R_lit (Kd.int .u8) _ 5 ?hg (N := 19) ?hd (xs := ([31, 31, 31, 31, 14, 14, 14, 14] : List Int)) (inner := [.int .u8 31, .int .u8 31, .int .u8 31, .int .u8 31, .int .u8 14, .int .u8 14, .int .u8 14, .int .u8 14]) (ok := fun _ => True) (okp := fun _ => True) ?hr ?hp (fun _ hk => hk) trivial (Below.refl _ _) (Nat.le_refl _) (by simp) ?_; (case hd => rfl); (case hg => rfl); (case hr => first | (go_simp; done) | (go_simp; rfl)); (case hp => exact (Reps.one (show Kd.M (Kd.int .u8) _ _ _ 31 [.int .u8 31] from rfl) (Reps.one (show Kd.M (Kd.int .u8) _ _ _ 31 [.int .u8 31] from rfl) (Reps.one (show Kd.M (Kd.int .u8) _ _ _ 31 [.int .u8 31] from rfl) (Reps.one (show Kd.M (Kd.int .u8) _ _ _ 31 [.int .u8 31] from rfl) (Reps.one (show Kd.M (Kd.int .u8) _ _ _ 14 [.int .u8 14] from rfl) (Reps.one (show Kd.M (Kd.int .u8) _ _ _ 14 [.int .u8 14] from rfl) (Reps.one (show Kd.M (Kd.int .u8) _ _ _ 14 [.int .u8 14] from rfl) (Reps.one (show Kd.M (Kd.int .u8) _ _ _ 14 [.int .u8 14] from rfl) (Reps.none _ _)))))))))); intro v671 w19 ho20 hb hg_ hnew_; clear hg_ hnew_; (first | rw [← Ny670.out] at ho20 | (simp only [Int.reduceToNat] at ho20; rw [← Ny670.out] at ho20)); have n0_ := Aside0.mk (Kd.R_elder' (by (with_reducible repeat (first | apply Kd.R_alloc | apply Kd.R_drewN | apply Kd.R_drew)); exact HO666.out) (Kd.R_base ho20) hb); have n1_ := Aside0.mk (Kd.R_elder' (by (with_reducible repeat (first | apply Kd.R_alloc | apply Kd.R_drewN | apply Kd.R_drew)); exact HO669.out) (Kd.R_base ho20) hb); have n2_ := Aside0.mk (Kd.R_lower (Kd.R_new' (Kd.R_new' ho20 (Kd.R_lt (by (with_reducible repeat (first | apply Kd.R_alloc | apply Kd.R_drewN | apply Kd.R_drew)); exact HO666.out))) (Kd.R_lt (by (with_reducible repeat (first | apply Kd.R_alloc | apply Kd.R_drewN | apply Kd.R_drew)); exact HO669.out))) (below_size (by repeat (first | (with_reducible first | exact HB.out | apply below_alloc | apply pw_below_drewN | apply below_drew1) | exact HB.out)))); have n3_ := Aside0.mk (below_step (by repeat (first | (with_reducible first | exact HB.out | apply below_alloc | apply pw_below_drewN | apply below_drew1) | exact HB.out)) hb); clear HO666; clear HO669; clear HB; have HO666 := n0_; have HO669 := n1_; have HO672 := n2_; have HB := n3_; clear n0_ n1_ n2_ n3_; clear hb ho20) | ((with_reducible refine gate_dst (N := 20) rfl ?_); (try (refine gate_guard (by rfl) ?_; dsimp only)); refine Kd.R_lit (Kd.int .u8) _ 5 ?hg (N := 20) ?hd (xs := ([224, 224, 224, 224, 241, 241, 241, 241] : List Int)) (inner := [.int .u8 224, .int .u8 224, .int .u8 224, .int .u8 224, .int .u8 241, .int .u8 241, .int .u8 241, .int .u8 241]) (ok := fun _ => True) (okp := fun _ => True) ?hr ?hp (fun _ hk => hk) trivial (Below.refl _ _) (Nat.le_refl _) (by simp) ?_; (case hd => rfl); (case hg => rfl); (case hr => first | (go_simp; done) | (go_simp; rfl)); (case hp => exact (Reps.one (show Kd.M (Kd.int .u8) _ _ _ 224 [.int .u8 224] from rfl) (Reps.one (show Kd.M (Kd.int .u8) _ _ _ 224 [.int .u8 224] from rfl) (Reps.one (show Kd.M (Kd.int .u8) _ _ _ 224 [.int .u8 224] from rfl) (Reps.one (show Kd.M (Kd.int .u8) _ _ _ 224 [.int .u8 224] from rfl) (Reps.one (show Kd.M (Kd.int .u8) _ _ _ 241 [.int .u8 241] from rfl) (Reps.one (show Kd.M (Kd.int .u8) _ _ _ 241 [.int .u8 241] from rfl) (Reps.one (show Kd.M (Kd.int .u8) _ _ _ 241 [.int .u8 241] from rfl) (Reps.one (show Kd.M (Kd.int .u8) _ _ _ 241 [.int .u8 241] from rfl) (Reps.none _ _)))))))))); intro v674 w21 ho22 hb hg_ hnew_; clear hg_ hnew_; (first | rw [← Ny673.out] at ho22 | (simp only [Int.reduceToNat] at ho22; rw [← Ny673.out] at ho22)); have n0_ := Aside0.mk (Kd.R_elder' (by (with_reducible repeat (first | apply Kd.R_alloc | apply Kd.R_drewN | apply Kd.R_drew)); exact HO666.out) (Kd.R_base ho22) hb); have n1_ := Aside0.mk (Kd.R_elder' (by (with_reducible repeat (first | apply Kd.R_alloc | apply Kd.R_drewN | apply Kd.R_drew)); exact HO669.out) (Kd.R_base ho22) hb); have n2_ := Aside0.mk (Kd.R_elder' (by (with_reducible repeat (first | apply Kd.R_alloc | apply Kd.R_drewN | apply Kd.R_drew)); exact HO672.out) (Kd.R_base ho22) hb); have n3_ := Aside0.mk (Kd.R_lower (Kd.R_new' (Kd.R_new' (Kd.R_new' ho22 (Kd.R_lt (by (with_reducible repeat (first | apply Kd.R_alloc | apply Kd.R_drewN | apply Kd.R_drew)); exact HO666.out))) (Kd.R_lt (by (with_reducible repeat (first | apply Kd.R_alloc | apply Kd.R_drewN | apply Kd.R_drew)); exact HO669.out))) (Kd.R_lt (by (with_reducible repeat (first | apply Kd.R_alloc | apply Kd.R_drewN | apply Kd.R_drew)); exact HO672.out))) (below_size (by repeat (first | (with_reducible first | exact HB.out | apply below_alloc | apply pw_below_drewN | apply below_drew1) | exact HB.out)))); have n4_ := Aside0.mk (below_step (by repeat (first | (with_reducible first | exact HB.out | apply below_alloc | apply pw_below_drewN | apply below_drew1) | exact HB.out)) hb); clear HO666; clear HO669; clear HO672; clear HB; have HO666 := n0_; have HO669 := n1_; have HO672 := n2_; have HO675 := n3_; have HB := n4_; clear n0_ n1_ n2_ n3_ n4_; clear hb ho22; obtain ⟨Ao23, co23, eo23⟩ := Kd.R_slice HO666.out; subst eo23; obtain ⟨Ao24, co24, eo24⟩ := Kd.R_slice HO669.out; subst eo24; obtain ⟨Ao25, co25, eo25⟩ := Kd.R_slice HO672.out; subst eo25; obtain ⟨Ao26, co26, eo26⟩ := Kd.R_slice HO675.out; subst eo26) | ((with_reducible refine gate_dst (N := 21) rfl ?_); (try (refine gate_guard (by rfl) ?_; dsimp only)); refine Kd.N_lit (Kd.slice 5 (Kd.int .u8)) _ 22 ?hg (N' := 21) ?hd (xs := ([y664, y667, y670, y673] : List (List Int))) (inner := [.slice Ao23 y664.length co23, .slice Ao24 y667.length co24, .slice Ao25 y670.length co25, .slice Ao26 y673.length co26]) (ok := (fun _ => True)) (okp := (fun _ => True)) ?hr ?hp (fun _ hk => hk) ((show ∀ k_, w21.heap.size ≤ k_ → (fun _ => True) k_ from fun k_ hk => trivial) _ (Nat.le_refl _)) (Below.refl _ _) (Nat.le_refl _) (by simp) ?_; (case hd => rfl); (case hg => rfl); (case hr => first | (go_simp; done) | (go_simp; rfl)); (case hp => exact (Reps.one (show Kd.FK (Kd.slice 5 (Kd.int .u8)) _ _ y664 [.slice Ao23 y664.length co23] from (Kd.FK_slice_mk (Kd.R_reads' (Kd.R_mono (ok' := (fun _ => True)) (HO666.out) (fun k_ hk => trivial))).2.1 (Kd.R_F (Kd.R_mono (ok' := (fun _ => True)) (HO666.out) (fun k_ hk => trivial))))) (Reps.one (show Kd.FK (Kd.slice 5 (Kd.int .u8)) _ _ y667 [.slice Ao24 y667.length co24] from (Kd.FK_slice_mk (Kd.R_reads' (Kd.R_mono (ok' := (fun _ => True)) (HO669.out) (fun k_ hk => trivial))).2.1 (Kd.R_F (Kd.R_mono (ok' := (fun _ => True)) (HO669.out) (fun k_ hk => trivial))))) (Reps.one (show Kd.FK (Kd.slice 5 (Kd.int .u8)) _ _ y670 [.slice Ao25 y670.length co25] from (Kd.FK_slice_mk (Kd.R_reads' (Kd.R_mono (ok' := (fun _ => True)) (HO672.out) (fun k_ hk => trivial))).2.1 (Kd.R_F (Kd.R_mono (ok' := (fun _ => True)) (HO672.out) (fun k_ hk => trivial))))) (Reps.one (show Kd.FK (Kd.slice 5 (Kd.int .u8)) _ _ y673 [.slice Ao26 y673.length co26] from (Kd.FK_slice_mk (Kd.R_reads' (Kd.R_mono (ok' := (fun _ => True)) (HO675.out) (fun k_ hk => trivial))).2.1 (Kd.R_F (Kd.R_mono (ok' := (fun _ => True)) (HO675.out) (fun k_ hk => trivial))))) (Reps.none _ _)))))); intro v677 w27 ho28 hb hg_ hnew_; clear hg_ hnew_; (first | rw [← Ny676.out] at ho28 | (simp only [Int.reduceToNat] at ho28; rw [← Ny676.out] at ho28)); have n0_ := Aside0.mk (Kd.N_lower ho28 (below_size (by repeat (first | (with_reducible first | exact HB.out | apply below_alloc | apply pw_below_drewN | apply below_drew1) | exact HB.out)))); have n1_ := Aside0.mk (below_step (by repeat (first | (with_reducible first | exact HB.out | apply below_alloc | apply pw_below_drewN | apply below_drew1) | exact HB.out)) hb); clear HB; clear HO666; clear HO669; clear HO672; clear HO675; have HO678 := n0_; have HB := n1_; clear n0_ n1_; clear hb ho28) | ((with_reducible refine gate_callee (f := 20) rfl ?_); refine goesL_ (some 23) rfl rfl Try.func20 (by kernel_rfl) rfl #[.int .i64 a0, .int .i64 4] rfl (by (try simp only [List.map_toArray, List.map_cons, List.map_nil]); first | done | rfl | (simp only [List.length_drop, List.length_take]; rfl)) ?_; (with_reducible refine (scrimlaw6_within.calls a0 4 t679 _ A5.out).mono ?_); rintro e w' ⟨rfl, ⟨nd, rfl⟩⟩; refine ⟨_, rfl, ?_⟩; obtain ⟨Ao29, co29, eo29⟩ := Kd.N_slice HO678.out; subst eo29; have p680 : 0 ≤ (t679 : Int) := of_decide_eq_true (by first | (with_reducible assumption) | assumption); have q680 : t679 < (y676.length : Int) := of_decide_eq_true (by first | (with_reducible assumption) | assumption); obtain ⟨ad680, A680_0, c680_0, e680, hx680_0, hl680_0, hi680_0⟩ := at_L2 (Kd.N_reads' HO678.out).2.2 t679 p680 q680; cases e680; obtain ⟨ce680, hce680, hMe680, hcc680⟩ := Kd.N_get HO678.out [] t679 p680 (by first | exact q680 | exact of_decide_eq_true (by first | (with_reducible assumption) | assumption) | (have e_ := (Kd.N_reads' HO678.out).1; omega)); obtain ⟨ua680_0, uc680_0, rfl, ul680_0, ge680_0⟩ := Kd.FK_slice_open hMe680; have hv680_0 := hcc680 0 _ rfl; rw [Nat.add_zero, show ((Kd.slice 5 (Kd.int .u8))).sz = 1 from rfl, Nat.mul_one] at hv680_0; replace hv680_0 := Option.some.inj (hv680_0.symm.trans hx680_0); injection hv680_0 with hva_ hvn_ hvc_; rw [hva_] at ge680_0; rw [hvc_] at ul680_0; have HL680_0 := Aside0.mk (show Kd.V (Kd.int .u8) 5 _ w.heap.size _ _ (rd_L2 y676 t679) from Kd.V_mk ul680_0 ge680_0); clear hva_ hvn_ hvc_ ge680_0 ul680_0; clear hcc680 hce680; have HR680_0 := Aside0.mk hi680_0; have HC680_0 := Aside0.mk hl680_0; clear hi680_0 hl680_0; replace p680 := eq_true p680; replace q680 := eq_true q680) | ((with_reducible refine gate_callee (f := 11) rfl ?_); refine goesL_ (some 28) rfl rfl Try.func11 (by kernel_rfl) rfl #[.slice A680_0 (rd_L2 y676 t679).length c680_0] rfl (by (try simp only [List.map_toArray, List.map_cons, List.map_nil]); first | done | rfl | (simp only [List.length_drop, List.length_take]; rfl)) ?_; (with_reducible refine (des_Keys.calls k _ _ (rd_L2 y676 t679) t681 t682 _ ?side1 ?side2 A8.out).mono ?_); (case side1 => repeat (first | exact (by repeat (first | (with_reducible exact HR680_0.out) | (with_reducible refine Kd.C_alloc ?_ _) | (with_reducible refine Kd.C_drewN ?_ _) | (with_reducible refine Kd.C_drew ?_) | exact HR680_0.out)) | (with_reducible refine Kd.C_alloc ?_ _) | (with_reducible refine Kd.C_drewN ?_ _) | (with_reducible refine Kd.C_drew ?_))); (case side2 => exact HC680_0.out); rintro e w30 ⟨v683, rfl, ho0, hb⟩; refine ⟨_, rfl, ?_⟩; have n0_ := Aside0.mk (Kd.N_elder' (by (with_reducible repeat (first | apply Kd.N_alloc | apply Kd.N_drewN | apply Kd.N_drew)); exact HO678.out) (Kd.R_base (Kd.S_R ho0)) hb); have n1_ := Aside0.mk (Kd.V_elder' (by (with_reducible repeat (first | apply Kd.V_alloc | apply Kd.V_drewN | apply Kd.V_drew)); exact HL680_0.out) (Kd.R_base (Kd.S_R ho0)) hb); have n2_ := Aside0.mk (Kd.N_lower (Kd.N_mono (ok' := fun k_ => some k_ ≠ (.slice (some ad680) y676.length co29 : Value).ownBlock) (Kd.S_N (Kd.S_bound ho0)) (fun k_ hk_ => (Kd.fresh' (Kd.N_lt (by (with_reducible repeat (first | apply Kd.N_alloc | apply Kd.N_drewN | apply Kd.N_drew)); exact HO678.out)) k_ hk_.2.1))) (below_size (by repeat (first | (with_reducible first | exact HB.out | apply below_alloc | apply pw_below_drewN | apply below_drew1) | exact HB.out)))); have n3_ := Aside0.mk (Kd.C_below (by repeat (first | (with_reducible exact HR680_0.out) | (with_reducible refine Kd.C_alloc ?_ _) | (with_reducible refine Kd.C_drewN ?_ _) | (with_reducible refine Kd.C_drew ?_) | exact HR680_0.out)) hb); have n4_ := Aside0.mk (below_step (by repeat (first | (with_reducible first | exact HB.out | apply below_alloc | apply pw_below_drewN | apply below_drew1) | exact HB.out)) hb); clear HO678; clear HL680_0; clear HR680_0; clear HB; have HO678 := n0_; have HL680_0 := n1_; have HO684 := n2_; have HR680_0 := n3_; have HB := n4_; clear n0_ n1_ n2_ n3_ n4_; (try clear hb); (try clear hb2); (try clear hk); (try clear hi); (try clear ho0)) | ((with_reducible refine gate_callee (f := 18) rfl ?_); refine goesL_ (some 33) rfl rfl Try.func18 (by kernel_rfl) rfl #[.slice A680_0 (rd_L2 y676 t679).length c680_0] rfl (by (try simp only [List.map_toArray, List.map_cons, List.map_nil]); first | done | rfl | (simp only [List.length_drop, List.length_take]; rfl)) ?_; (with_reducible refine (des_New.calls k _ _ (rd_L2 y676 t679) t685 t686 _ ?side1 ?side2 A9.out).mono ?_); (case side1 => repeat (first | exact (by repeat (first | (with_reducible exact HR680_0.out) | (with_reducible refine Kd.C_alloc ?_ _) | (with_reducible refine Kd.C_drewN ?_ _) | (with_reducible refine Kd.C_drew ?_) | exact HR680_0.out)) | (with_reducible refine Kd.C_alloc ?_ _) | (with_reducible refine Kd.C_drewN ?_ _) | (with_reducible refine Kd.C_drew ?_))); (case side2 => exact HC680_0.out); rintro e w31 ⟨v687, rfl, ho0, hb⟩; refine ⟨_, rfl, ?_⟩; have n0_ := Aside0.mk (Kd.N_below (by (with_reducible repeat (first | apply Kd.N_alloc | apply Kd.N_drewN | apply Kd.N_drew)); exact HO678.out) hb); have n1_ := Aside0.mk (Kd.V_below (by (with_reducible repeat (first | apply Kd.V_alloc | apply Kd.V_drewN | apply Kd.V_drew)); exact HL680_0.out) hb); have n2_ := Aside0.mk (Kd.N_below (by (with_reducible repeat (first | apply Kd.N_alloc | apply Kd.N_drewN | apply Kd.N_drew)); exact HO684.out) hb); have n3_ := Aside0.mk (Ptr.D_lower (Ptr.D_mono (ok' := fun k_ => some k_ ≠ (.slice (some ad680) y676.length co29 : Value).ownBlock ∧ some k_ ≠ (v683 : Value).ownBlock) ho0 (fun k_ hk0_ => by have hk_ := And.intro trivial (And.intro hk0_ trivial); exact ⟨(Kd.fresh' (Kd.N_lt (by (with_reducible repeat (first | apply Kd.N_alloc | apply Kd.N_drewN | apply Kd.N_drew)); exact HO678.out)) k_ hk_.2.1), (Kd.fresh' (Kd.N_lt (by (with_reducible repeat (first | apply Kd.N_alloc | apply Kd.N_drewN | apply Kd.N_drew)); exact HO684.out)) k_ hk_.2.1)⟩)) (below_size (by repeat (first | (with_reducible first | exact HB.out | apply below_alloc | apply pw_below_drewN | apply below_drew1) | exact HB.out)))); have n4_ := Aside0.mk (Kd.C_below (by repeat (first | (with_reducible exact HR680_0.out) | (with_reducible refine Kd.C_alloc ?_ _) | (with_reducible refine Kd.C_drewN ?_ _) | (with_reducible refine Kd.C_drew ?_) | exact HR680_0.out)) hb); have n5_ := Aside0.mk (below_step (by repeat (first | (with_reducible first | exact HB.out | apply below_alloc | apply pw_below_drewN | apply below_drew1) | exact HB.out)) hb); clear HO678; clear HL680_0; clear HO684; clear HR680_0; clear HB; have HO678 := n0_; have HL680_0 := n1_; have HO684 := n2_; have HO688 := n3_; have HR680_0 := n4_; have HB := n5_; clear n0_ n1_ n2_ n3_ n4_ n5_; (try clear hb); (try clear hb2); (try clear hk); (try clear hi); (try clear ho0); obtain ⟨gN685, AN685, cN685, eN685, _, _⟩ := Ptr.D_open HO688.out NN685.out; subst eN685; obtain ⟨Ao32, co32, eo32⟩ := Kd.N_slice HO684.out; subst eo32))
                go_loopg [10] k (fun kq v10 w' => ∃ (x10_1 : Int), v10 = .int .i64 x10_1 ∧ Aside0 (scrimlaw6_DesWeak.l0 kq l1 t681 t685 x10_1 = some r) ∧ Aside0 (kq ≤ k) ∧ Aside0 (Kd.N (Kd.slice 5 (Kd.int .u8)) 22 w' w.heap.size (fun _ => True) (.slice Ao32 t681.length co32) t681) ∧ Aside0 (Ptr.D (Kd.slice 22 (Kd.slice 5 (Kd.int .u8))) 24 w' w.heap.size (fun k_ => some k_ ≠ ((.slice Ao32 t681.length co32) : Value).ownBlock) (.pointer (some ⟨gN685, 0, none⟩)) t685) ∧ Aside0 (Below w.heap.size w w'))
                case atStart => exact ⟨(1), (by first | rfl | (simp; done) | (simp [*]; done)), H', ⟨Nat.le_refl _⟩, ⟨by (with_reducible repeat (first | apply Kd.N_alloc | apply Kd.N_drewN | apply Kd.N_drew)); exact Kd.N_mono HO684.out (fun _ hk => trivial)⟩, ⟨by (with_reducible repeat (first | apply Ptr.D_alloc | apply Ptr.D_drewN | apply Ptr.D_drew)); exact Ptr.D_mono HO688.out (fun _ hk => hk.2)⟩, ⟨by repeat (first | (with_reducible first | exact HB.out | apply below_alloc | apply pw_below_drewN | apply below_drew1) | exact HB.out)⟩⟩
                case round =>
                  clear H'
                  try clear c1
                  try clear c2
                  try clear p2
                  try clear c4
                  try clear c6
                  try clear c6b0
                  try clear p6
                  try clear q6
                  try clear hx6
                  try clear c7
                  try clear c7b0
                  try clear c10
                  try clear c10b0
                  try clear c10b1
                  try clear c11
                  try clear c11b0
                  try clear c11b1
                  try clear c12
                  try clear c12b0
                  try clear c12b1
                  try clear c13
                  try clear c13b0
                  try clear c13b1
                  try clear c18
                  try clear c20
                  try clear hx680_0
                  try clear p680
                  try clear q680
                  obtain ⟨x10_1, rfl, HA, HK1, HO_6, HO_8, HB⟩ := hrel
                  cases gk with
                  | zero => exact absurd HA.out (by simp [scrimlaw6_DesWeak.l0])
                  | succ k1 =>
                    have H := HA.out
                    clear HA
                    simp only [scrimlaw6_DesWeak.l0] at H
                    by_cases c33 : x10_1 < 16
                    · rw [if_pos c33] at H
                      have c33b0 : decide (x10_1 < 16) = true := decide_eq_true c33
                      clear c33
                      by_cases c34 : 0 ≤ x10_1
                      · rw [if_pos c34] at H
                        have c34b0 : decide (0 ≤ x10_1) = true := decide_eq_true c34
                        clear c34
                        by_cases c35 : x10_1 < (t681.length : Int)
                        · rw [if_pos c35] at H
                          have c35b0 : decide (x10_1 < (t681.length : Int)) = true := decide_eq_true c35
                          clear c35
                          by_cases c36 : 0 < (t681.length : Int)
                          · rw [if_pos c36] at H
                            have c36b0 : decide (0 < (t681.length : Int)) = true := decide_eq_true c36
                            have c36b1 : decide (0 < t681.length) = true := decide_eq_true (by omega)
                            clear c36
                            by_cases c37 : (strOfNums (rd_L2 t681 x10_1)).toList = (strOfNums (rd_L2 t681 0)).toList
                            · rw [if_pos c37] at H
                              have c37b0 : ((strOfNums (rd_L2 t681 x10_1)).toList == (strOfNums (rd_L2 t681 0)).toList) = true := beq_iff_eq.mpr c37
                              have c37b1 : ((strOfNums (rd_L2 t681 x10_1)).toList != (strOfNums (rd_L2 t681 0)).toList) = false := bne_eq_false_iff_eq.mpr c37
                              clear c37
                              have H' := Aside0.mk H
                              clear H
                              try go_wp2
                              have n0_ := Aside0.mk (Kd.N_drew HO_6.out)
                              have n1_ := Aside0.mk (Ptr.D_drew HO_8.out)
                              have n2_ := Aside0.mk (below_drew1 HB.out)
                              clear HO_6
                              clear HO_8
                              clear HB
                              have HO_6 := n0_
                              have HO_8 := n1_
                              have HB := n2_
                              clear n0_ n1_ n2_
                              have p689 : 0 ≤ (x10_1 : Int) := of_decide_eq_true (by first | (with_reducible assumption) | assumption)
                              have q689 : x10_1 < (t681.length : Int) := of_decide_eq_true (by first | (with_reducible assumption) | assumption)
                              obtain ⟨ad689, A689_0, c689_0, e689, hx689_0, hl689_0, hi689_0⟩ := at_L2 (Kd.N_reads' HO_6.out).2.2 x10_1 p689 q689
                              cases e689
                              obtain ⟨ce689, hce689, hMe689, hcc689⟩ := Kd.N_get HO_6.out [] x10_1 p689 (by first | exact q689 | exact of_decide_eq_true (by first | (with_reducible assumption) | assumption) | (have e_ := (Kd.N_reads' HO_6.out).1; omega))
                              obtain ⟨ua689_0, uc689_0, rfl, ul689_0, ge689_0⟩ := Kd.FK_slice_open hMe689
                              have hv689_0 := hcc689 0 _ rfl
                              rw [Nat.add_zero, show ((Kd.slice 5 (Kd.int .u8))).sz = 1 from rfl, Nat.mul_one] at hv689_0
                              replace hv689_0 := Option.some.inj (hv689_0.symm.trans hx689_0)
                              injection hv689_0 with hva_ hvn_ hvc_
                              rw [hva_] at ge689_0
                              rw [hvc_] at ul689_0
                              have HL689_0 := Aside0.mk (show Kd.V (Kd.int .u8) 5 _ w.heap.size _ _ (rd_L2 t681 x10_1) from Kd.V_mk ul689_0 ge689_0)
                              clear hva_ hvn_ hvc_ ge689_0 ul689_0
                              clear hcc689 hce689
                              have HR689_0 := Aside0.mk hi689_0
                              have HC689_0 := Aside0.mk hl689_0
                              clear hi689_0 hl689_0
                              replace p689 := eq_true p689
                              replace q689 := eq_true q689
                              have p690 : 0 ≤ (0 : Int) := (by omega)
                              have q690 : 0 < (t681.length : Int) := of_decide_eq_true (by first | (with_reducible assumption) | assumption)
                              obtain ⟨ad690, A690_0, c690_0, e690, hx690_0, hl690_0, hi690_0⟩ := at_L2 (Kd.N_reads' HO_6.out).2.2 0 p690 q690
                              obtain rfl : ad689 = ad690 := (by injection e690)
                              obtain ⟨ce690, hce690, hMe690, hcc690⟩ := Kd.N_get HO_6.out [] 0 p690 (by first | exact q690 | exact of_decide_eq_true (by first | (with_reducible assumption) | assumption) | (have e_ := (Kd.N_reads' HO_6.out).1; omega))
                              obtain ⟨ua690_0, uc690_0, rfl, ul690_0, ge690_0⟩ := Kd.FK_slice_open hMe690
                              have hv690_0 := hcc690 0 _ rfl
                              rw [Nat.add_zero, show ((Kd.slice 5 (Kd.int .u8))).sz = 1 from rfl, Nat.mul_one] at hv690_0
                              replace hv690_0 := Option.some.inj (hv690_0.symm.trans hx690_0)
                              injection hv690_0 with hva_ hvn_ hvc_
                              rw [hva_] at ge690_0
                              rw [hvc_] at ul690_0
                              have HL690_0 := Aside0.mk (show Kd.V (Kd.int .u8) 5 _ w.heap.size _ _ (rd_L2 t681 0) from Kd.V_mk ul690_0 ge690_0)
                              clear hva_ hvn_ hvc_ ge690_0 ul690_0
                              clear hcc690 hce690
                              have qi690 : (0 < t681.length) = True := eq_true (by omega)
                              (try rw [show ((0 : Int)).toNat = 0 from rfl] at hx690_0)
                              (try rw [Addr.add_zero'] at hx690_0)
                              have HR690_0 := Aside0.mk hi690_0
                              have HC690_0 := Aside0.mk hl690_0
                              clear hi690_0 hl690_0
                              replace p690 := eq_true p690
                              replace q690 := eq_true q690
                              have hcv39 := Kd.C_string (P := Try.prog) (A := A689_0) (c := c689_0) Try.underlying22 Try.underlying5 Try.underlying9 (by repeat (first | (with_reducible exact HR689_0.out) | (with_reducible refine Kd.C_alloc ?_ _) | (with_reducible refine Kd.C_drewN ?_ _) | (with_reducible refine Kd.C_drew ?_) | exact HR689_0.out))
                              have hcv40 := Kd.C_string (P := Try.prog) (A := A690_0) (c := c690_0) Try.underlying22 Try.underlying5 Try.underlying9 (by repeat (first | (with_reducible exact HR690_0.out) | (with_reducible refine Kd.C_alloc ?_ _) | (with_reducible refine Kd.C_drewN ?_ _) | (with_reducible refine Kd.C_drew ?_) | exact HR690_0.out))
                              refine start_ (n := 10) (S := fun w' => w'.cell? (ad689.add (x10_1).toNat) = some (.slice A689_0 (rd_L2 t681 x10_1).length c689_0) ∧ w'.cell? ad689 = some (.slice A690_0 (rd_L2 t681 0).length c690_0) ∧ (convert 22 9 (.slice A689_0 (rd_L2 t681 x10_1).length c689_0)).run Try.prog w' = .ok (.string (strOfNums (rd_L2 t681 x10_1))) w' ∧ (convert 22 9 (.slice A690_0 (rd_L2 t681 0).length c690_0)).run Try.prog w' = .ok (.string (strOfNums (rd_L2 t681 0))) w') (ds := []) #[false, false, false, false, false, false, false, false, false, false] (by kernel_rfl) rfl rfl ⟨hx689_0, hx690_0, hcv39, hcv40⟩ (fun hHeld => ?_); refine with_tabW scrimlaw6_DesWeak.tab11 scrimlaw6_DesWeak.bits11 (fun HT_ HW_ => ?_)
                              generalize wr.drew = w38 at HO_6 HO_8 HB HL689_0 HL690_0 HR689_0 HR690_0 hx689_0 hx690_0 hHeld ⊢
                              refine pure_ (i := 0) (N := some 55) (v := ?_) (a' := ?_) #[true, false, false, false, false, false, false, false, false, false] rfl rfl (any_of HT_.out (by kernel_rfl)) (fun _ _ _ h => h) (Or.inl ⟨by rfl, ?_⟩) ?_ ?_
                              rotate_left
                              · intro w'
                                go_simp
                                with_reducible rfl
                              rotate_left
                              · simp only [Act.put, List.setIfInBounds_toArray, List.set_cons_zero, List.set_cons_succ, i64_w, i32_w]
                                rfl
                              refine pure_ (i := 1) (N := some 56) (v := ?_) (a' := ?_) #[true, true, false, false, false, false, false, false, false, false] rfl rfl (any_of HT_.out (by kernel_rfl)) (fun _ _ _ h => h) (Or.inl ⟨by rfl, ?_⟩) ?_ ?_
                              rotate_left
                              · intro w'
                                go_simp
                                with_reducible rfl
                              rotate_left
                              · simp only [Act.put, List.setIfInBounds_toArray, List.set_cons_zero, List.set_cons_succ, i64_w, i32_w]
                                rfl
                              refine pure_ (i := 2) (N := some 57) (v := ?_) (a' := ?_) #[true, true, true, false, false, false, false, false, false, false] rfl rfl (any_of HT_.out (by kernel_rfl)) (fun _ _ _ h => h) (Or.inl ⟨by rfl, ?_⟩) ?_ ?_
                              rotate_left
                              · intro w'
                                go_simp
                                with_reducible rfl
                              rotate_left
                              · simp only [Act.put, List.setIfInBounds_toArray, List.set_cons_zero, List.set_cons_succ, i64_w, i32_w]
                                rfl
                              refine pure_ (i := 5) (N := some 60) (v := ?_) (a' := ?_) #[true, true, true, false, false, true, false, false, false, false] rfl rfl (any_of HT_.out (by kernel_rfl)) (fun _ _ _ h => h) (Or.inl ⟨by rfl, ?_⟩) ?_ ?_
                              rotate_left
                              · intro w'
                                go_simp
                                with_reducible rfl
                              rotate_left
                              · simp only [Act.put, List.setIfInBounds_toArray, List.set_cons_zero, List.set_cons_succ, i64_w, i32_w]
                                rfl
                              refine pure_ (i := 6) (N := some 61) (v := ?_) (a' := ?_) #[true, true, true, false, false, true, true, false, false, false] rfl rfl (any_of HT_.out (by kernel_rfl)) (fun _ _ _ h => h) (Or.inl ⟨by rfl, ?_⟩) ?_ ?_
                              rotate_left
                              · intro w'
                                go_simp
                                with_reducible rfl
                              rotate_left
                              · simp only [Act.put, List.setIfInBounds_toArray, List.set_cons_zero, List.set_cons_succ, i64_w, i32_w]
                                rfl
                              refine take_ (i := 3) (N := some 58) (v := ?_) (a' := ?_) #[true, true, true, true, false, true, true, false, false, false] rfl rfl (take_ofW HT_.out HW_.out (by kernel_rfl)) (fun _ _ _ h => h) (Or.inl ⟨by rfl, ?_⟩) hHeld ?_ ?_
                              rotate_left
                              · rintro w' ⟨s0, s1, sc0, sc1⟩
                                go_simp
                                with_reducible rfl
                              rotate_left
                              · simp only [Act.put, List.setIfInBounds_toArray, List.set_cons_zero, List.set_cons_succ, i64_w, i32_w]
                                rfl
                              refine take_ (i := 4) (N := some 59) (v := ?_) (a' := ?_) #[true, true, true, true, true, true, true, false, false, false] rfl rfl (take_ofW HT_.out HW_.out (by kernel_rfl)) (fun _ _ _ h => h) (Or.inl ⟨by rfl, ?_⟩) hHeld ?_ ?_
                              rotate_left
                              · rintro w' ⟨s0, s1, sc0, sc1⟩
                                go_simp
                                with_reducible rfl
                              rotate_left
                              · simp only [Act.put, List.setIfInBounds_toArray, List.set_cons_zero, List.set_cons_succ, i64_w, i32_w]
                                rfl
                              refine take_ (i := 7) (N := some 62) (v := ?_) (a' := ?_) #[true, true, true, true, true, true, true, true, false, false] rfl rfl (take_ofW HT_.out HW_.out (by kernel_rfl)) (fun _ _ _ h => h) (Or.inl ⟨by rfl, ?_⟩) hHeld ?_ ?_
                              rotate_left
                              · rintro w' ⟨s0, s1, sc0, sc1⟩
                                go_simp
                                with_reducible rfl
                              rotate_left
                              · simp only [Act.put, List.setIfInBounds_toArray, List.set_cons_zero, List.set_cons_succ, i64_w, i32_w]
                                rfl
                              refine take_ (i := 8) (N := some 63) (v := ?_) (a' := ?_) #[true, true, true, true, true, true, true, true, true, false] rfl rfl (take_ofW HT_.out HW_.out (by kernel_rfl)) (fun _ _ _ h => h) (Or.inl ⟨by rfl, ?_⟩) hHeld ?_ ?_
                              rotate_left
                              · rintro w' ⟨s0, s1, sc0, sc1⟩
                                go_simp
                                with_reducible rfl
                              rotate_left
                              · simp only [Act.put, List.setIfInBounds_toArray, List.set_cons_zero, List.set_cons_succ, i64_w, i32_w]
                                rfl
                              refine pure_ (i := 9) (N := some 64) (v := ?_) (a' := ?_) #[true, true, true, true, true, true, true, true, true, true] rfl rfl (any_of HT_.out (by kernel_rfl)) (fun _ _ _ h => h) (Or.inl ⟨by rfl, ?_⟩) ?_ ?_
                              rotate_left
                              · intro w'
                                go_simp
                                with_reducible rfl
                              rotate_left
                              · simp only [Act.put, List.setIfInBounds_toArray, List.set_cons_zero, List.set_cons_succ, i64_w, i32_w]
                                rfl
                              refine done_ (done_of HT_.out (by kernel_rfl)) ?_
                              try go_wp2
                              go_roundg k1
                              case measure => have := HK1.out; omega
                              case rel => exact ⟨(wrap64 (x10_1 + 1)), (by first | rfl | (simp; done) | (simp [*]; done)), H', ⟨by have := HK1.out; omega⟩, ⟨by (with_reducible repeat (first | apply Kd.N_alloc | apply Kd.N_drewN | apply Kd.N_drew)); exact HO_6.out⟩, ⟨by (with_reducible repeat (first | apply Kd.V_alloc | apply Kd.V_drewN | apply Kd.V_drew)); exact HO_8.out⟩, ⟨by repeat (first | (with_reducible first | exact HB.out | apply below_alloc | apply pw_below_drewN | apply below_drew1) | exact HB.out)⟩⟩
                            · rw [if_neg c37] at H
                              exact absurd H (by simp)
                          · rw [if_neg c36] at H
                            exact absurd H (by simp)
                        · rw [if_neg c35] at H
                          exact absurd H (by simp)
                      · rw [if_neg c34] at H
                        exact absurd H (by simp)
                    · rw [if_neg c33] at H
                      have c33b0 : decide (x10_1 < 16) = false := decide_eq_false c33
                      clear c33
                      replace H := Option.bind_eq_some_iff.mp H
                      obtain ⟨t691, A420, H⟩ := H
                      replace H : ((des_Des_Block.f k1 t685 t691 false).bind fun bt694 => ((des_Des_Block.f k1 t685 bt694.1 false).bind fun bt698 => (if (bt694.1.length : Int) = 8 then ((scrimlaw6_Bytes.f k1 8 l1).bind fun t702 => (some ((strOfNums bt698.1).toList == (strOfNums t702).toList))) else (none)))) = some r := H
                      have A42 := Aside0.mk A420
                      clear A420
                      replace H := Option.bind_eq_some_iff.mp H
                      obtain ⟨⟨t694, t695⟩, A430, H⟩ := H
                      replace H : ((des_Des_Block.f k1 t685 t694 false).bind fun bt698 => (if (t694.length : Int) = 8 then ((scrimlaw6_Bytes.f k1 8 l1).bind fun t702 => (some ((strOfNums bt698.1).toList == (strOfNums t702).toList))) else (none))) = some r := H
                      have A43 := Aside0.mk A430
                      clear A430
                      replace H := Option.bind_eq_some_iff.mp H
                      obtain ⟨⟨t698, t699⟩, A440, H⟩ := H
                      replace H : (if (t694.length : Int) = 8 then ((scrimlaw6_Bytes.f k1 8 l1).bind fun t702 => (some ((strOfNums t698).toList == (strOfNums t702).toList))) else (none)) = some r := H
                      have A44 := Aside0.mk A440
                      clear A440
                      by_cases c45 : (t694.length : Int) = 8
                      · rw [if_pos c45] at H
                        have c45b0 : ((t694.length : Int) == 8) = true := beq_iff_eq.mpr c45
                        have c45b1 : ((t694.length : Int) != 8) = false := bne_eq_false_iff_eq.mpr c45
                        clear c45
                        replace H := Option.bind_eq_some_iff.mp H
                        obtain ⟨t702, A460, H⟩ := H
                        replace H : (some ((strOfNums t698).toList == (strOfNums t702).toList)) = some r := H
                        have A46 := Aside0.mk A460
                        clear A460
                        obtain rfl := Option.some.inj H
                        try go_wp2_with (first | ((with_reducible refine gate_callee (f := 12) rfl ?_); refine goesL_ (some 68) rfl rfl Try.func12 (by kernel_rfl) rfl #[.int .i64 8, .slice A1 l1.length c1] rfl (by (try simp only [List.map_toArray, List.map_cons, List.map_nil]); first | done | rfl | (simp only [List.length_drop, List.length_take]; rfl)) ?_; (with_reducible refine (scrimlaw6_Bytes.calls k1 8 _ _ l1 t691 _ ?side1 ?side2 A42.out).mono ?_); (case side1 => repeat (first | exact (Kd.C_below HR1.out HB.out) | (with_reducible refine Kd.C_alloc ?_ _) | (with_reducible refine Kd.C_drewN ?_ _) | (with_reducible refine Kd.C_drew ?_))); (case side2 => exact HC1.out); rintro e w47 ⟨v692, rfl, ho0, hb⟩; refine ⟨_, rfl, ?_⟩; have n0_ := Aside0.mk (Kd.N_elder' (by (with_reducible repeat (first | apply Kd.N_alloc | apply Kd.N_drewN | apply Kd.N_drew)); exact HO_6.out) (Kd.R_base ho0) hb); have n1_ := Aside0.mk (Ptr.D_elder' (by (with_reducible repeat (first | apply Ptr.D_alloc | apply Ptr.D_drewN | apply Ptr.D_drew)); exact HO_8.out) (Kd.R_base ho0) hb); have n2_ := Aside0.mk (Kd.R_lower ho0 (below_size (by repeat (first | (with_reducible first | exact HB.out | apply below_alloc | apply pw_below_drewN | apply below_drew1) | exact HB.out)))); have n3_ := Aside0.mk (below_step (by repeat (first | (with_reducible first | exact HB.out | apply below_alloc | apply pw_below_drewN | apply below_drew1) | exact HB.out)) hb); clear HO_6; clear HO_8; clear HB; have HO_6 := n0_; have HO_8 := n1_; have HO693 := n2_; have HB := n3_; clear n0_ n1_ n2_ n3_; (try clear hb); (try clear hb2); (try clear hk); (try clear hi); (try clear ho0); obtain ⟨Ao49, co49, eo49⟩ := Kd.R_slice HO693.out; subst eo49) | ((with_reducible refine gate_callee (f := 19) rfl ?_); refine goesL_ (some 69) rfl rfl Try.func19 (by kernel_rfl) rfl #[.pointer (some ⟨gN685, 0, none⟩), .slice Ao49 t691.length co49, .bool false] rfl (by (try simp only [List.map_toArray, List.map_cons, List.map_nil]); first | done | rfl | (simp only [List.length_drop, List.length_take]; rfl)) ?_; (with_reducible refine (des_Des_Block.calls k1 _ t685 _ _ t691 false t694 t695 _ ?side1 ?side3 ?side4 A43.out).mono ?_); (case side1 => apply Exists.intro; apply Exists.intro; (with_reducible repeat (first | apply Ptr.D_alloc | apply Ptr.D_drewN | apply Ptr.D_drew)); exact HO_8.out); (case side3 => repeat (first | exact (Kd.R_reads' HO693.out).2.2 | (with_reducible refine Kd.C_alloc ?_ _) | (with_reducible refine Kd.C_drewN ?_ _) | (with_reducible refine Kd.C_drew ?_))); (case side4 => exact (Kd.R_reads' HO693.out).2.1); rintro e w50 ⟨v696, rfl, ho0, hb⟩; refine ⟨_, rfl, ?_⟩; have n0_ := Aside0.mk (Kd.N_below (by (with_reducible repeat (first | apply Kd.N_alloc | apply Kd.N_drewN | apply Kd.N_drew)); exact HO_6.out) hb); have n1_ := Aside0.mk (Ptr.D_below (by (with_reducible repeat (first | apply Ptr.D_alloc | apply Ptr.D_drewN | apply Ptr.D_drew)); exact HO_8.out) hb); have n2_ := Aside0.mk (Kd.R_below (by (with_reducible repeat (first | apply Kd.R_alloc | apply Kd.R_drewN | apply Kd.R_drew)); exact HO693.out) hb); have n3_ := Aside0.mk (Kd.V_lower (Kd.V_mono (ok' := fun k_ => some k_ ≠ (.slice Ao32 t681.length co32 : Value).ownBlock ∧ some k_ ≠ (.slice Ao49 t691.length co49 : Value).ownBlock) ho0 (fun k_ hk0_ => by have hk_ := And.intro trivial (And.intro hk0_ trivial); exact ⟨(Kd.fresh' (Kd.N_lt (by (with_reducible repeat (first | apply Kd.N_alloc | apply Kd.N_drewN | apply Kd.N_drew)); exact HO_6.out)) k_ hk_.2.1), (Kd.fresh' (Kd.R_lt (by (with_reducible repeat (first | apply Kd.R_alloc | apply Kd.R_drewN | apply Kd.R_drew)); exact HO693.out)) k_ hk_.2.1)⟩)) (below_size (by repeat (first | (with_reducible first | exact HB.out | apply below_alloc | apply pw_below_drewN | apply below_drew1) | exact HB.out)))); have n4_ := Aside0.mk (below_step (by repeat (first | (with_reducible first | exact HB.out | apply below_alloc | apply pw_below_drewN | apply below_drew1) | exact HB.out)) hb); clear HO_6; clear HO_8; clear HO693; clear HB; have HO_6 := n0_; have HO_8 := n1_; have HO693 := n2_; have HO697 := n3_; have HB := n4_; clear n0_ n1_ n2_ n3_ n4_; (try clear hb); (try clear hb2); (try clear hk); (try clear hi); (try clear ho0); obtain ⟨Ao51, co51, eo51⟩ := Kd.V_slice HO697.out; subst eo51) | ((with_reducible refine gate_callee (f := 19) rfl ?_); refine goesL_ (some 75) rfl rfl Try.func19 (by kernel_rfl) rfl #[.pointer (some ⟨gN685, 0, none⟩), .slice Ao51 t694.length co51, .bool false] rfl (by (try simp only [List.map_toArray, List.map_cons, List.map_nil]); first | done | rfl | (simp only [List.length_drop, List.length_take]; rfl)) ?_; (with_reducible refine (des_Des_Block.calls k1 _ t685 _ _ t694 false t698 t699 _ ?side1 ?side3 ?side4 A44.out).mono ?_); (case side1 => apply Exists.intro; apply Exists.intro; (with_reducible repeat (first | apply Ptr.D_alloc | apply Ptr.D_drewN | apply Ptr.D_drew)); exact HO_8.out); (case side3 => repeat (first | exact (Kd.V_reads' HO697.out).2.2 | (with_reducible refine Kd.C_alloc ?_ _) | (with_reducible refine Kd.C_drewN ?_ _) | (with_reducible refine Kd.C_drew ?_))); (case side4 => exact (Kd.V_reads' HO697.out).2.1); rintro e w52 ⟨v700, rfl, ho0, hb⟩; refine ⟨_, rfl, ?_⟩; have n0_ := Aside0.mk (Kd.N_below (by (with_reducible repeat (first | apply Kd.N_alloc | apply Kd.N_drewN | apply Kd.N_drew)); exact HO_6.out) hb); have n1_ := Aside0.mk (Ptr.D_below (by (with_reducible repeat (first | apply Ptr.D_alloc | apply Ptr.D_drewN | apply Ptr.D_drew)); exact HO_8.out) hb); have n2_ := Aside0.mk (Kd.R_below (by (with_reducible repeat (first | apply Kd.R_alloc | apply Kd.R_drewN | apply Kd.R_drew)); exact HO693.out) hb); have n3_ := Aside0.mk (Kd.V_below (by (with_reducible repeat (first | apply Kd.V_alloc | apply Kd.V_drewN | apply Kd.V_drew)); exact HO697.out) hb); have n4_ := Aside0.mk (Kd.V_lower (Kd.V_mono (ok' := fun k_ => some k_ ≠ (.slice Ao32 t681.length co32 : Value).ownBlock ∧ some k_ ≠ (.slice Ao49 t691.length co49 : Value).ownBlock) ho0 (fun k_ hk0_ => by have hk_ := And.intro trivial (And.intro hk0_ trivial); exact ⟨(Kd.fresh' (Kd.N_lt (by (with_reducible repeat (first | apply Kd.N_alloc | apply Kd.N_drewN | apply Kd.N_drew)); exact HO_6.out)) k_ hk_.2.1), (Kd.fresh' (Kd.R_lt (by (with_reducible repeat (first | apply Kd.R_alloc | apply Kd.R_drewN | apply Kd.R_drew)); exact HO693.out)) k_ hk_.2.1)⟩)) (below_size (by repeat (first | (with_reducible first | exact HB.out | apply below_alloc | apply pw_below_drewN | apply below_drew1) | exact HB.out)))); have n5_ := Aside0.mk (below_step (by repeat (first | (with_reducible first | exact HB.out | apply below_alloc | apply pw_below_drewN | apply below_drew1) | exact HB.out)) hb); clear HO_6; clear HO_8; clear HO693; clear HO697; clear HB; have HO_6 := n0_; have HO_8 := n1_; have HO693 := n2_; have HO697 := n3_; have HO701 := n4_; have HB := n5_; clear n0_ n1_ n2_ n3_ n4_ n5_; (try clear hb); (try clear hb2); (try clear hk); (try clear hi); (try clear ho0)))
                        have n0_ := Aside0.mk (Kd.N_drew HO_6.out)
                        have n1_ := Aside0.mk (Ptr.D_drew HO_8.out)
                        have n2_ := Aside0.mk (Kd.R_drew HO693.out)
                        have n3_ := Aside0.mk (Kd.V_drew HO697.out)
                        have n4_ := Aside0.mk (Kd.V_drew HO701.out)
                        have n5_ := Aside0.mk (below_drew1 HB.out)
                        clear HO_6
                        clear HO_8
                        clear HO693
                        clear HO697
                        clear HO701
                        clear HB
                        have HO_6 := n0_
                        have HO_8 := n1_
                        have HO693 := n2_
                        have HO697 := n3_
                        have HO701 := n4_
                        have HB := n5_
                        clear n0_ n1_ n2_ n3_ n4_ n5_
                        obtain ⟨Ax701, cx701, ex701⟩ := Kd.V_slice HO701.out
                        subst ex701
                        have hcv54 := Kd.C_string (P := Try.prog) (A := Ax701) (c := cx701) Try.underlying22 Try.underlying5 Try.underlying9 (Kd.V_reads' HO701.out).2.2
                        refine start_ (n := 12) (S := fun w' => True ∧ (convert 22 9 (.slice Ax701 t698.length cx701)).run Try.prog w' = .ok (.string (strOfNums t698)) w') (ds := []) #[false, false, false, false, false, false, false, false, false, false, false, false] (by kernel_rfl) rfl rfl ⟨trivial, hcv54⟩ (fun hHeld => ?_); refine with_tabW scrimlaw6_DesWeak.tab15 scrimlaw6_DesWeak.bits15 (fun HT_ HW_ => ?_)
                        generalize w52.drew = w53 at HO_6 HO_8 HO693 HO697 HO701 HB hHeld ⊢
                        refine pure_ (i := 0) (N := some 78) (v := ?_) (a' := ?_) #[true, false, false, false, false, false, false, false, false, false, false, false] rfl rfl (any_of HT_.out (by kernel_rfl)) (fun _ _ _ h => h) (Or.inl ⟨by rfl, ?_⟩) ?_ ?_
                        rotate_left
                        · intro w'
                          go_simp
                          with_reducible rfl
                        rotate_left
                        · simp only [Act.put, List.setIfInBounds_toArray, List.set_cons_zero, List.set_cons_succ, i64_w, i32_w]
                          rfl
                        refine pure_ (i := 1) (N := some 79) (v := ?_) (a' := ?_) #[true, true, false, false, false, false, false, false, false, false, false, false] rfl rfl (any_of HT_.out (by kernel_rfl)) (fun _ _ _ h => h) (Or.inl ⟨by rfl, ?_⟩) ?_ ?_
                        rotate_left
                        · intro w'
                          go_simp
                          with_reducible rfl
                        rotate_left
                        · simp only [Act.put, List.setIfInBounds_toArray, List.set_cons_zero, List.set_cons_succ, i64_w, i32_w]
                          rfl
                        refine pure_ (i := 2) (N := some 80) (v := ?_) (a' := ?_) #[true, true, true, false, false, false, false, false, false, false, false, false] rfl rfl (any_of HT_.out (by kernel_rfl)) (fun _ _ _ h => h) (Or.inl ⟨by rfl, ?_⟩) ?_ ?_
                        rotate_left
                        · intro w'
                          go_simp
                          with_reducible rfl
                        rotate_left
                        · simp only [Act.put, List.setIfInBounds_toArray, List.set_cons_zero, List.set_cons_succ, i64_w, i32_w]
                          rfl
                        refine pure_ (i := 3) (N := some 81) (v := ?_) (a' := ?_) #[true, true, true, true, false, false, false, false, false, false, false, false] rfl rfl (any_of HT_.out (by kernel_rfl)) (fun _ _ _ h => h) (Or.inl ⟨by rfl, ?_⟩) ?_ ?_
                        rotate_left
                        · intro w'
                          go_simp
                          with_reducible rfl
                        rotate_left
                        · simp only [Act.put, List.setIfInBounds_toArray, List.set_cons_zero, List.set_cons_succ, i64_w, i32_w]
                          rfl
                        refine pure_ (i := 4) (N := some 82) (v := ?_) (a' := ?_) #[true, true, true, true, true, false, false, false, false, false, false, false] rfl rfl (any_of HT_.out (by kernel_rfl)) (fun _ _ _ h => h) (Or.inl ⟨by rfl, ?_⟩) ?_ ?_
                        rotate_left
                        · intro w'
                          go_simp
                          with_reducible rfl
                        rotate_left
                        · simp only [Act.put, List.setIfInBounds_toArray, List.set_cons_zero, List.set_cons_succ, i64_w, i32_w]
                          rfl
                        refine take_ (i := 5) (N := some 83) (v := ?_) (a' := ?_) #[true, true, true, true, true, true, false, false, false, false, false, false] rfl rfl (take_of HT_.out (by kernel_rfl)) (fun _ _ _ h => h) (Or.inl ⟨by rfl, ?_⟩) hHeld ?_ ?_
                        rotate_left
                        · rintro w' ⟨s0, sc0⟩
                          go_simp
                          with_reducible rfl
                        rotate_left
                        · simp only [Act.put, List.setIfInBounds_toArray, List.set_cons_zero, List.set_cons_succ, i64_w, i32_w]
                          rfl
                        refine pure_ (i := 6) (N := some 84) (v := ?_) (a' := ?_) #[true, true, true, true, true, true, true, false, false, false, false, false] rfl rfl (any_of HT_.out (by kernel_rfl)) (fun _ _ _ h => h) (Or.inl ⟨by rfl, ?_⟩) ?_ ?_
                        rotate_left
                        · intro w'
                          go_simp
                          with_reducible rfl
                        rotate_left
                        · simp only [Act.put, List.setIfInBounds_toArray, List.set_cons_zero, List.set_cons_succ, i64_w, i32_w]
                          rfl
                        refine one_ (i := 7) (N := some 85) #[true, true, true, true, true, true, true, true, false, false, false, false] rfl rfl (one_of HT_.out (by kernel_rfl)) (by decide) (fun K hK => ?_)
                        refine goes_ Try.func12 (by kernel_rfl) rfl #[.int .i64 8, .slice A1 l1.length c1] (by rfl) rfl rfl (by (try simp only [List.map_toArray, List.map_cons, List.map_nil]); first | done | rfl | (simp only [List.length_drop, List.length_take]; rfl)) ?_
                        with_reducible refine (scrimlaw6_Bytes.calls k1 8 _ _ l1 t702 _ ?side1 ?side2 A46.out).mono ?_
                        (case side1 => repeat (first | exact (Kd.C_below HR1.out HB.out) | (with_reducible refine Kd.C_alloc ?_ _) | (with_reducible refine Kd.C_drewN ?_ _) | (with_reducible refine Kd.C_drew ?_)))
                        (case side2 => exact HC1.out)
                        rintro e w55 ⟨v703, rfl, ho0, hb⟩
                        refine ⟨_, rfl, ?_⟩
                        have n0_ := Aside0.mk (Kd.N_elder' (by (with_reducible repeat (first | apply Kd.N_alloc | apply Kd.N_drewN | apply Kd.N_drew)); exact HO_6.out) (Kd.R_base ho0) hb)
                        have n1_ := Aside0.mk (Ptr.D_elder' (by (with_reducible repeat (first | apply Ptr.D_alloc | apply Ptr.D_drewN | apply Ptr.D_drew)); exact HO_8.out) (Kd.R_base ho0) hb)
                        have n2_ := Aside0.mk (Kd.R_elder' (by (with_reducible repeat (first | apply Kd.R_alloc | apply Kd.R_drewN | apply Kd.R_drew)); exact HO693.out) (Kd.R_base ho0) hb)
                        have n3_ := Aside0.mk (Kd.V_elder' (by (with_reducible repeat (first | apply Kd.V_alloc | apply Kd.V_drewN | apply Kd.V_drew)); exact HO697.out) (Kd.R_base ho0) hb)
                        have n4_ := Aside0.mk (Kd.V_elder' (by (with_reducible repeat (first | apply Kd.V_alloc | apply Kd.V_drewN | apply Kd.V_drew)); exact HO701.out) (Kd.R_base ho0) hb)
                        have n5_ := Aside0.mk (Kd.R_lower (Kd.R_new' ho0 (Kd.R_lt (by (with_reducible repeat (first | apply Kd.R_alloc | apply Kd.R_drewN | apply Kd.R_drew)); exact HO693.out))) (below_size (by repeat (first | (with_reducible first | exact HB.out | apply below_alloc | apply pw_below_drewN | apply below_drew1) | exact HB.out))))
                        have n6_ := Aside0.mk (below_step (by repeat (first | (with_reducible first | exact HB.out | apply below_alloc | apply pw_below_drewN | apply below_drew1) | exact HB.out)) hb)
                        clear HO_6
                        clear HO_8
                        clear HO693
                        clear HO697
                        clear HO701
                        clear HB
                        have HO_6 := n0_
                        have HO_8 := n1_
                        have HO693 := n2_
                        have HO697 := n3_
                        have HO701 := n4_
                        have HO704 := n5_
                        have HB := n6_
                        clear n0_ n1_ n2_ n3_ n4_ n5_ n6_
                        (try clear hb)
                        (try clear hb2)
                        (try clear hk)
                        (try clear hi)
                        (try clear ho0)
                        refine hK.out _ _ ⟨trivial, Kd.C_string (P := Try.prog) (A := Ax701) (c := cx701) Try.underlying22 Try.underlying5 Try.underlying9 (Kd.V_reads' HO701.out).2.2⟩ (fun hHeld => ?_)
                        clear hK K
                        refine norm_ (a' := ?_) ?_ ?_
                        rotate_left
                        · show Act.put _ (some 85) _ = _
                          simp only [Act.put, List.setIfInBounds_toArray, List.set_cons_zero, List.set_cons_succ, i64_w, i32_w]
                          rfl
                        refine one_ (i := 8) (N := some 86) #[true, true, true, true, true, true, true, true, true, false, false, false] rfl rfl (one_of HT_.out (by kernel_rfl)) (by decide) (fun K hK => ?_)
                        have hcv56 := own_string (P := Try.prog) Try.underlying22 Try.underlying5 Try.underlying9 (Kd.own_of_R HO704.out)
                        refine value_ (w1 := ?_) (v := ?_) (by rfl) rfl ?_ ?_
                        rotate_left 2
                        · go_simp
                          constructor
                          · rfl
                          · rfl
                        clear hcv56
                        refine hK.out _ _ hHeld (fun hHeld => ?_)
                        clear hK K
                        refine norm_ (a' := ?_) ?_ ?_
                        rotate_left
                        · show Act.put _ (some 86) _ = _
                          simp only [Act.put, List.setIfInBounds_toArray, List.set_cons_zero, List.set_cons_succ, i64_w, i32_w]
                          rfl
                        refine pure_ (i := 9) (N := some 87) (v := ?_) (a' := ?_) #[true, true, true, true, true, true, true, true, true, true, false, false] rfl rfl (any_of HT_.out (by kernel_rfl)) (fun _ _ _ h => h) (Or.inl ⟨by rfl, ?_⟩) ?_ ?_
                        rotate_left
                        · intro w'
                          go_simp
                          with_reducible rfl
                        rotate_left
                        · simp only [Act.put, List.setIfInBounds_toArray, List.set_cons_zero, List.set_cons_succ, i64_w, i32_w]
                          rfl
                        refine pure_ (i := 10) (N := some 88) (v := ?_) (a' := ?_) #[true, true, true, true, true, true, true, true, true, true, true, false] rfl rfl (any_of HT_.out (by kernel_rfl)) (fun _ _ _ h => h) (Or.inl ⟨by rfl, ?_⟩) ?_ ?_
                        rotate_left
                        · intro w'
                          go_simp
                          with_reducible rfl
                        rotate_left
                        · simp only [Act.put, List.setIfInBounds_toArray, List.set_cons_zero, List.set_cons_succ, i64_w, i32_w]
                          rfl
                        refine pure_ (i := 11) (N := some 4) (v := ?_) (a' := ?_) #[true, true, true, true, true, true, true, true, true, true, true, true] rfl rfl (any_of HT_.out (by kernel_rfl)) (fun _ _ _ h => h) (Or.inl ⟨by rfl, ?_⟩) ?_ ?_
                        rotate_left
                        · intro w'
                          go_simp
                          with_reducible rfl
                        rotate_left
                        · simp only [Act.put, List.setIfInBounds_toArray, List.set_cons_zero, List.set_cons_succ, i64_w, i32_w]
                          rfl
                        refine done_ (done_of HT_.out (by kernel_rfl)) ?_
                        try go_wp2
                        go_ret
                        exact ⟨by first | rfl | (simp [errW_none, errW_some] <;> rfl) | (simp [*, errW_none, errW_some] <;> rfl), by repeat (first | (with_reducible first | exact HB.out | apply below_alloc | apply pw_below_drewN | apply below_drew1) | exact HB.out)⟩
                      · rw [if_neg c45] at H
                        have c45b0 : ((t694.length : Int) == 8) = false := beq_eq_false_iff_ne.mpr c45
                        have c45b1 : ((t694.length : Int) != 8) = true := bne_iff_ne.mpr c45
                        exact absurd H (by simp)
              · rw [if_neg c13] at H
                exact absurd H (by simp)
          · rw [if_neg c11] at H
            exact absurd H (by simp)
        · rw [if_neg c10] at H
          exact absurd H (by simp)
      · rw [if_neg c7] at H
        exact absurd H (by simp)
    · rw [if_neg c6] at H
      exact absurd H (by simp)
  · replace c4 := Bool.eq_false_iff.mpr c4
    subst c4
    have H1 : (none) = some r := by rw [if_neg (show ¬ (false = true) by decide)] at H; exact H
    clear H
    have H := H1
    clear H1
    exact absurd H (by simp)

/-- THE ONE PURE STATEMENT of scrimlaw6_DesWeak: yours. -/
def scrimlaw6_DesWeak.Pure : Prop := ∀ (a0 : Int) (l1 : List Int), (Lit.int .i64 a0).wf = true → l1.length ≤ maxLen → l1.length * 1 ≤ 140737488351232 → (∀ x ∈ l1, (Lit.int .u8 x).wf = true) → ∃ k, scrimlaw6_DesWeak.f k a0 l1 = some true
theorem scrimlaw6_DesWeak.walk (P : scrimlaw6_DesWeak.Pure) (a0 : Int) (a1 : Option Addr) (len1 cap1 : Nat) (z1 : List Int) (w : World) (w0 : (Lit.int .i64 a0).wf = true) (w1 : (a1 = none ∧ len1 = 0 ∧ cap1 = 0 ∧ z1 = []) ∨ ∃ x, a1 = some x ∧ len1 ≤ cap1 ∧ cap1 ≤ maxLen ∧ z1.length = cap1 ∧ (∀ i, i < z1.length → w.cell? (x.add i) = some (.int .u8 (z1.getD i 0))) ∧ ∀ n ∈ z1, (Lit.int .u8 n).wf = true) (y1 : len1 * 1 ≤ 140737488351232) :
    Calls Try.prog 7 #[.int .i64 a0, .slice a1 len1 cap1] w fun e w' => e = .returned (.bool true) ∧ Below w.heap.size w w' := by
  obtain ⟨l1, rfl, hr1, hm1, hw1, hc1⟩ := ReadsInt.ofRowC w1
  obtain ⟨k, h⟩ := P a0 l1 w0 hm1 y1 hw1
  refine (scrimlaw6_DesWeak.calls k a0 _ _ l1 true w (Kd.C_of_reads (d := (0 : Int)) (h1 := fun _ => rfl) hr1) hc1 h).mono ?_
  rintro e w' ⟨rfl, hd⟩
  exact ⟨rfl, hd⟩

end Go.Proofs.Ytnbopkmhakfmmaa.MDes
