/- A walk: each Go function that is named here answers what its plain function answers. Conditions: its arguments are read as lists and numbers. -/
import Derived.Test.YtnbopkmhakfmmaaMDesx0
import Derived.Test.YtnbopkmhakfmmaaMDesa
namespace Go.Proofs.Ytnbopkmhakfmmaa.MDes
open Go.RowKit Go.Proofs.YtnbopkmhakfmmaaW.PrintWords Go.Proofs.YtnbopkmhakfmmaaW.PrintLast Go.Proofs.YtnbopkmhakfmmaaW.PrintMore
attribute [local go_sem] max2_int min2_int max_two min_two max_three min_three max_four min_four   -- for this text's walks alone
set_option linter.unusedVariables false
set_option linter.unusedSimpArgs false

/-! ### des_Keys: function 11 -/
mutual
def des_Keys.l0 : Nat → List Int → List Int → List Int → List (List Int) → Int → Option ((List (List Int)) × Int)
  | 0, _, _, _, _, _ => none
  | k + 1, x0, x4, x5, x6, x24 => if x24 < 16 then (if x24 < 2 then (des_Keys.j1 k x0 x4 x5 x6 2 x24 true) else (if x24 = 8 then (des_Keys.j1 k x0 x4 x5 x6 2 x24 true) else (des_Keys.j1 k x0 x4 x5 x6 2 x24 (x24 == 15)))) else (some (x6, 0))
def des_Keys.j1 : Nat → List Int → List Int → List Int → List (List Int) → Int → Int → Bool → Option ((List (List Int)) × Int)
  | 0, _, _, _, _, _, _, _ => none
  | k + 1, x0, x4, x5, x6, x8, x24, x36 => if x36 = true then (des_Keys.j2 k x0 x4 x5 x6 1 x24) else (des_Keys.j2 k x0 x4 x5 x6 x8 x24)
def des_Keys.j2 : Nat → List Int → List Int → List Int → List (List Int) → Int → Int → Option ((List (List Int)) × Int)
  | 0, _, _, _, _, _, _ => none
  | k + 1, x0, x4, x5, x6, x8, x24 => if 28 ≤ (x4.length : Int) then ((slices_Clone_int_int.f (x4.take 28)).bind fun t148 => ((slices_Clone_int_int.f (x4.drop 28)).bind fun t155 => (if 0 ≤ x8 then (if x8 ≤ (t148.length : Int) then ((some (t148.take (x8 : Int).toNat : List Int)).bind fun y162 => (if t148.length + y162.length < 17592186044416 then ((some ((t148.drop (x8 : Int).toNat) ++ y162 : List Int)).bind fun y166 => (if x8 ≤ (t155.length : Int) then ((some (t155.drop (x8 : Int).toNat : List Int)).bind fun y169 => (if y166.length + y169.length < 17592186044416 then ((some (y166 ++ y169 : List Int)).bind fun y173 => ((some (t155.take (x8 : Int).toNat : List Int)).bind fun y176 => (if y173.length + y176.length < 17592186044416 then (des_Keys.l1 k x0 (y173 ++ y176) x5 x6 ([] : List Int) x24 x5 (x5.length : Int) 0) else (none)))) else (none))) else (none))) else (none))) else (none)) else (none)))) else (none)
def des_Keys.l1 : Nat → List Int → List Int → List Int → List (List Int) → List Int → Int → List Int → Int → Int → Option ((List (List Int)) × Int)
  | 0, _, _, _, _, _, _, _, _, _ => none
  | k + 1, x0, x4, x5, x6, x11, x24, x58, x59, x60 => if x60 < x59 then (if 0 ≤ x60 then (if x60 < (x58.length : Int) then (if 0 ≤ (wrap64 ((rd x58 x60) - 1)) then (if (wrap64 ((rd x58 x60) - 1)) < (x4.length : Int) then (if x11.length < 17592186044416 then (des_Keys.l1 k x0 x4 x5 x6 (x11 ++ [rd x4 (wrap64 ((rd x58 x60) - 1))]) x24 x58 x59 (wrap64 (x60 + 1))) else (none)) else (none)) else (none)) else (none)) else (none)) else ((bits_Permute.f k x0 x11).bind fun bt188 => (if x6.length < 5864062014805 then (des_Keys.l0 k x0 x4 x5 (x6 ++ [bt188.1]) (wrap64 (x24 + 1))) else (none)))
end
def des_Keys.f (k : Nat) (l0 : List Int) : Option ((List (List Int)) × Int) := if (l0.length : Int) = 8 then ((des_chosen.f k).bind fun bt135 => (des_Keys.l0 k l0 bt135.1 bt135.2 (([] : List (List Int))) 0)) else (some (([] : List (List Int)), 4))
theorem des_Keys.mono_l : ∀ k, (∀ y0 y1 y2 y3 y4, LeO (des_Keys.l0 k y0 y1 y2 y3 y4) (des_Keys.l0 (k + 1) y0 y1 y2 y3 y4)) ∧ (∀ y0 y1 y2 y3 y4 y5 y6, LeO (des_Keys.j1 k y0 y1 y2 y3 y4 y5 y6) (des_Keys.j1 (k + 1) y0 y1 y2 y3 y4 y5 y6)) ∧ (∀ y0 y1 y2 y3 y4 y5, LeO (des_Keys.j2 k y0 y1 y2 y3 y4 y5) (des_Keys.j2 (k + 1) y0 y1 y2 y3 y4 y5)) ∧ (∀ y0 y1 y2 y3 y4 y5 y6 y7 y8, LeO (des_Keys.l1 k y0 y1 y2 y3 y4 y5 y6 y7 y8) (des_Keys.l1 (k + 1) y0 y1 y2 y3 y4 y5 y6 y7 y8))
  | 0 => ⟨fun _ _ _ _ _ r h => by simp [des_Keys.l0] at h, fun _ _ _ _ _ _ _ r h => by simp [des_Keys.j1] at h, fun _ _ _ _ _ _ r h => by simp [des_Keys.j2] at h, fun _ _ _ _ _ _ _ _ _ r h => by simp [des_Keys.l1] at h⟩
  | k + 1 => by
    obtain ⟨ih0, ih1, ih2, ih3⟩ := des_Keys.mono_l k
    refine ⟨?_, ?_, ?_, ?_⟩
    · intro y0 y1 y2 y3 y4
      unfold des_Keys.l0
      repeat' first
      | (with_reducible exact ih0 _ _ _ _ _)
      | (with_reducible exact ih1 _ _ _ _ _ _ _)
      | (with_reducible exact ih2 _ _ _ _ _ _)
      | (with_reducible exact ih3 _ _ _ _ _ _ _ _ _)
      | (with_reducible exact bits_Permute.mono _ _ _)
      | (with_reducible exact des_chosen.mono _)
      | (with_reducible exact LeO.refl _)
      | (with_reducible exact LeO.none _)
      | (with_reducible refine LeO.ite ?_ ?_)
      | (with_reducible refine LeO.bind ?_ (fun _ => ?_))
      | exact ih0 _ _ _ _ _
      | exact ih1 _ _ _ _ _ _ _
      | exact ih2 _ _ _ _ _ _
      | exact ih3 _ _ _ _ _ _ _ _ _
      | exact bits_Permute.mono _ _ _
      | exact des_chosen.mono _
      | exact LeO.none _
      | refine LeO.ite ?_ ?_
      | refine LeO.bind ?_ (fun _ => ?_)
    · intro y0 y1 y2 y3 y4 y5 y6
      unfold des_Keys.j1
      repeat' first
      | (with_reducible exact ih0 _ _ _ _ _)
      | (with_reducible exact ih1 _ _ _ _ _ _ _)
      | (with_reducible exact ih2 _ _ _ _ _ _)
      | (with_reducible exact ih3 _ _ _ _ _ _ _ _ _)
      | (with_reducible exact bits_Permute.mono _ _ _)
      | (with_reducible exact des_chosen.mono _)
      | (with_reducible exact LeO.refl _)
      | (with_reducible exact LeO.none _)
      | (with_reducible refine LeO.ite ?_ ?_)
      | (with_reducible refine LeO.bind ?_ (fun _ => ?_))
      | exact ih0 _ _ _ _ _
      | exact ih1 _ _ _ _ _ _ _
      | exact ih2 _ _ _ _ _ _
      | exact ih3 _ _ _ _ _ _ _ _ _
      | exact bits_Permute.mono _ _ _
      | exact des_chosen.mono _
      | exact LeO.none _
      | refine LeO.ite ?_ ?_
      | refine LeO.bind ?_ (fun _ => ?_)
    · intro y0 y1 y2 y3 y4 y5
      unfold des_Keys.j2
      repeat' first
      | (with_reducible exact ih0 _ _ _ _ _)
      | (with_reducible exact ih1 _ _ _ _ _ _ _)
      | (with_reducible exact ih2 _ _ _ _ _ _)
      | (with_reducible exact ih3 _ _ _ _ _ _ _ _ _)
      | (with_reducible exact bits_Permute.mono _ _ _)
      | (with_reducible exact des_chosen.mono _)
      | (with_reducible exact LeO.refl _)
      | (with_reducible exact LeO.none _)
      | (with_reducible refine LeO.ite ?_ ?_)
      | (with_reducible refine LeO.bind ?_ (fun _ => ?_))
      | exact ih0 _ _ _ _ _
      | exact ih1 _ _ _ _ _ _ _
      | exact ih2 _ _ _ _ _ _
      | exact ih3 _ _ _ _ _ _ _ _ _
      | exact bits_Permute.mono _ _ _
      | exact des_chosen.mono _
      | exact LeO.none _
      | refine LeO.ite ?_ ?_
      | refine LeO.bind ?_ (fun _ => ?_)
    · intro y0 y1 y2 y3 y4 y5 y6 y7 y8
      unfold des_Keys.l1
      repeat' first
      | (with_reducible exact ih0 _ _ _ _ _)
      | (with_reducible exact ih1 _ _ _ _ _ _ _)
      | (with_reducible exact ih2 _ _ _ _ _ _)
      | (with_reducible exact ih3 _ _ _ _ _ _ _ _ _)
      | (with_reducible exact bits_Permute.mono _ _ _)
      | (with_reducible exact des_chosen.mono _)
      | (with_reducible exact LeO.refl _)
      | (with_reducible exact LeO.none _)
      | (with_reducible refine LeO.ite ?_ ?_)
      | (with_reducible refine LeO.bind ?_ (fun _ => ?_))
      | exact ih0 _ _ _ _ _
      | exact ih1 _ _ _ _ _ _ _
      | exact ih2 _ _ _ _ _ _
      | exact ih3 _ _ _ _ _ _ _ _ _
      | exact bits_Permute.mono _ _ _
      | exact des_chosen.mono _
      | exact LeO.none _
      | refine LeO.ite ?_ ?_
      | refine LeO.bind ?_ (fun _ => ?_)
theorem des_Keys.mono : ∀ a0 k, LeO (des_Keys.f k a0) (des_Keys.f (k + 1) a0) := by
  intro a0 k
  obtain ⟨ih0, ih1, ih2, ih3⟩ := des_Keys.mono_l k
  unfold des_Keys.f
  repeat' first
      | (with_reducible exact ih0 _ _ _ _ _)
      | (with_reducible exact ih1 _ _ _ _ _ _ _)
      | (with_reducible exact ih2 _ _ _ _ _ _)
      | (with_reducible exact ih3 _ _ _ _ _ _ _ _ _)
      | (with_reducible exact bits_Permute.mono _ _ _)
      | (with_reducible exact des_chosen.mono _)
      | (with_reducible exact LeO.refl _)
      | (with_reducible exact LeO.none _)
      | (with_reducible refine LeO.ite ?_ ?_)
      | (with_reducible refine LeO.bind ?_ (fun _ => ?_))
      | exact ih0 _ _ _ _ _
      | exact ih1 _ _ _ _ _ _ _
      | exact ih2 _ _ _ _ _ _
      | exact ih3 _ _ _ _ _ _ _ _ _
      | exact bits_Permute.mono _ _ _
      | exact des_chosen.mono _
      | exact LeO.none _
      | refine LeO.ite ?_ ?_
      | refine LeO.bind ?_ (fun _ => ?_)
def des_Keys.T11 : Bool × List (List Nat × List Nat) := (true, [([], []), ([0], [0]), ([1], [1]), ([], []), ([3], [3]), ([4, 2], [4]), ([2, 5, 0, 1, 2], [2]), ([5, 6, 0, 1, 2, 3, 4, 5, 6], [5])])
def des_Keys.B11 : List Nat := [0, 1, 3, 0, 8, 31, 63, 127]
theorem des_Keys.tab11 : rtab .any (opsOf Try.f11 11) = des_Keys.T11 := by kernel_rfl
theorem des_Keys.bits11 : waitsOk des_Keys.T11.2 des_Keys.B11 = true := by kernel_rfl
def des_Keys.T12 : Bool × List (List Nat × List Nat) := (true, [([], []), ([], []), ([0, 1], [0, 1]), ([], []), ([], []), ([3, 4], [3, 4]), ([2, 5], [2, 5]), ([], []), ([], []), ([7, 8], [7, 8]), ([6, 9, 6], [6, 9]), ([], []), ([], []), ([11, 12], [11, 12]), ([10, 13, 10], [10, 13]), ([14, 14, 0, 1, 2, 3, 4, 5, 6, 7, 8, 9, 10, 11, 12, 13, 14], [14])])
def des_Keys.B12 : List Nat := [0, 0, 3, 0, 0, 24, 63, 0, 0, 384, 1023, 0, 0, 6144, 16383, 32767]
theorem des_Keys.tab12 : rtab .any (opsOf Try.f11 12) = des_Keys.T12 := by kernel_rfl
theorem des_Keys.bits12 : waitsOk des_Keys.T12.2 des_Keys.B12 = true := by kernel_rfl
set_option maxHeartbeats 8000000 in
set_option maxRecDepth 100000 in
theorem des_Keys.calls (k : Nat) (A0 : Option Addr) (c0 : Nat) (l0 : List Int) (r1 : List (List Int)) (r2 : Int) (w : World) (hr0 : Kd.C (Kd.int .u8) w A0 l0.length l0) (hc0 : l0.length ≤ c0) (h : des_Keys.f k l0 = some (r1, r2)) :
    Calls Try.prog 11 #[.slice A0 l0.length c0] w fun e w' => ∃ v0_ : Value, e = .returned (.tuple #[v0_, .int .i64 r2]) ∧ Kd.S (Kd.slice 5 (Kd.int .u8)) 22 w' w.heap.size (fun _ => True) v0_ r1 ∧ Below w.heap.size w w' := by
  have HR0 := Aside0.mk hr0
  have HC0 := Aside0.mk hc0
  clear hr0 hc0
  have HB := Aside0.mk (Below.refl w.heap.size w)
  have H : (if (l0.length : Int) = 8 then ((des_chosen.f k).bind fun bt135 => (des_Keys.l0 k l0 bt135.1 bt135.2 (([] : List (List Int))) 0)) else (some (([] : List (List Int)), 4))) = some (r1, r2) := h
  clear h
  by_cases c2 : (l0.length : Int) = 8
  · rw [if_pos c2] at H
    have c2b0 : ((l0.length : Int) == 8) = true := beq_iff_eq.mpr c2
    have c2b1 : ((l0.length : Int) != 8) = false := bne_eq_false_iff_eq.mpr c2
    clear c2
    replace H := Option.bind_eq_some_iff.mp H
    obtain ⟨⟨t135, t136⟩, A30, H⟩ := H
    replace H : (des_Keys.l0 k l0 t135 t136 (([] : List (List Int))) 0) = some (r1, r2) := H
    have A3 := Aside0.mk A30
    clear A30
    obtain ⟨y141, hy141⟩ : ∃ y_ : List (List Int), y_ = (([] : List (List Int))) := ⟨_, rfl⟩
    replace H : (des_Keys.l0 k l0 t135 t136 y141 0) = some (r1, r2) := by first | (rw [hy141]; with_reducible exact H) | (have H2_ := (Option.bind_some _ _).symm.trans H; rw [hy141]; with_reducible exact H2_) | (have H2_ := (Option.bind_some _ _).symm.trans H; with_reducible exact H2_) | with_reducible exact H | (rw [hy141]; exact H) | exact H
    have Ny141 := Aside0.mk hy141
    clear hy141
    have H' := Aside0.mk H
    clear H
    go_enter Try.func11, Try.ntmps11
    go_wp2_with (first | ((with_reducible refine gate_callee (f := 24) rfl ?_); refine goesL_ (some 20) rfl rfl Try.func24 (by kernel_rfl) rfl #[] rfl (by (try simp only [List.map_toArray, List.map_cons, List.map_nil]); first | done | rfl | (simp only [List.length_drop, List.length_take]; rfl)) ?_; (with_reducible refine (des_chosen.calls k  t135 t136 _ A3.out).mono ?_); rintro e w4 ⟨v137, v139, rfl, ho0, ho1, hb⟩; refine ⟨_, rfl, ?_⟩; have n0_ := Aside0.mk (Kd.R_lower ho0 (below_size HB.out)); have n1_ := Aside0.mk (Kd.R_lower ho1 (below_size HB.out)); have n2_ := Aside0.mk (below_step HB.out hb); clear HB; have HO138 := n0_; have HO140 := n1_; have HB := n2_; clear n0_ n1_ n2_; (try clear hb); (try clear hb2); (try clear hk); (try clear hi); (try clear ho0); (try clear ho1)) | ((with_reducible refine gate_dst (N := 23) rfl ?_); refine Go.Proofs.Ytnbopkmhakfmmaa.Cap.S_makecap (Kd.slice 5 (Kd.int .u8)) _ 22 rfl (N := 23) rfl 24 _ _ rfl 16 rfl rfl Try.underlying24 (.slice none 0 0) 24 info22 (by omega) (by omega) (Below.refl _ _) (Nat.le_refl _) ?_; intro v142 w5 ho6 hb hg_ hnew_; clear hg_ hnew_; (first | rw [← Ny141.out] at ho6 | (simp only [Int.reduceToNat] at ho6; rw [← Ny141.out] at ho6)); have n0_ := Aside0.mk (Kd.R_below HO138.out hb); have n1_ := Aside0.mk (Kd.R_below HO140.out hb); have n2_ := Aside0.mk (Kd.S_lower ho6 (below_size HB.out)); have n3_ := Aside0.mk (below_step HB.out hb); clear HO138; clear HO140; clear HB; have HO138 := n0_; have HO140 := n1_; have HO143 := n2_; have HB := n3_; clear n0_ n1_ n2_ n3_; clear hb ho6))
    go_loopg [4, 6, 24] k (fun kq v4 v6 v24 w' => ∃ (x4_1 : List Int) (x6_1 : List (List Int)) (x24_1 : Int), v24 = .int .i64 x24_1 ∧ Aside0 (des_Keys.l0 kq l0 x4_1 t136 x6_1 x24_1 = some (r1, r2)) ∧ Aside0 (kq ≤ k) ∧ Aside0 (Kd.Q (Kd.int .i64) 3 w' w.heap.size (fun k_ => some k_ ≠ (v139 : Value).ownBlock) v4 x4_1) ∧ Aside0 (Kd.R (Kd.int .i64) 3 w' w.heap.size (fun k_ => some k_ ≠ (v4 : Value).ownBlock) v139 t136) ∧ Aside0 (Kd.S (Kd.slice 5 (Kd.int .u8)) 22 w' w.heap.size (fun _ => True) v6 x6_1) ∧ Aside0 (Below w.heap.size w w'))
    case atStart => exact ⟨(t135), (y141), (0), (by first | rfl | (simp; done) | (simp [*]; done)), H', ⟨Nat.le_refl _⟩, ⟨Kd.Q_of_R HO138.out⟩, ⟨by (with_reducible repeat (first | apply Kd.R_alloc | apply Kd.R_drewN | apply Kd.R_drew)); exact HO140.out⟩, ⟨by (with_reducible repeat (first | apply Kd.S_alloc | apply Kd.S_drewN | apply Kd.S_drew)); exact HO143.out⟩, ⟨by repeat (first | (with_reducible first | exact HB.out | apply below_alloc | apply pw_below_drewN | apply below_drew1) | exact HB.out)⟩⟩
    case round =>
      clear H'
      try clear c1
      try clear c2
      try clear c2b0
      try clear c2b1
      try clear p2
      obtain ⟨x4_1, x6_1, x24_1, rfl, HA, HK1, HO_4, HO_5, HO_6, HB⟩ := hrel
      cases gk with
      | zero => exact absurd HA.out (by simp [des_Keys.l0])
      | succ k1 =>
        have H := HA.out
        clear HA
        simp only [des_Keys.l0] at H
        by_cases c7 : x24_1 < 16
        · rw [if_pos c7] at H
          have c7b0 : decide (x24_1 < 16) = true := decide_eq_true c7
          clear c7
          have HC8 := Aside0.mk H
          clear H
          go_upto_region 9 with (fail)
          go_cut [36] (fun v36 wc => ∃ (kq : Nat) (x36_7 : Bool), v36 = .bool x36_7 ∧ Aside0 (des_Keys.j1 kq l0 x4_1 t136 x6_1 2 x24_1 x36_7 = some (r1, r2)) ∧ Aside0 (kq ≤ k1) ∧ Aside0 (Kd.Q (Kd.int .i64) 3 wc w.heap.size (fun k_ => some k_ ≠ (v139 : Value).ownBlock) u4 x4_1) ∧ Aside0 (Kd.R (Kd.int .i64) 3 wc w.heap.size (fun k_ => some k_ ≠ (u4 : Value).ownBlock) v139 t136) ∧ Aside0 (Kd.S (Kd.slice 5 (Kd.int .u8)) 22 wc w.heap.size (fun _ => True) u6 x6_1) ∧ Aside0 (Below w.heap.size w wc))
          case first =>
            have H := HC8.out
            clear HC8
            by_cases c9 : x24_1 < 2
            · rw [if_pos c9] at H
              have c9b0 : decide (x24_1 < 2) = true := decide_eq_true c9
              clear c9
              (first | rw [c9b0] | (simp only [i64_w, i32_w]; rw [c9b0]) | skip)
              have H' := Aside0.mk H
              clear H
              go_wp2
              go_meet
              case rel => exact ⟨_, (true), (by first | rfl | (simp; done) | (simp [*]; done)), H', ⟨by have := HK1.out; first | omega | exact Nat.le_refl _⟩, ⟨by (with_reducible repeat (first | apply Kd.Q_alloc | apply Kd.Q_drewN | apply Kd.Q_drew)); exact HO_4.out⟩, ⟨by (with_reducible repeat (first | apply Kd.R_alloc | apply Kd.R_drewN | apply Kd.R_drew)); exact HO_5.out⟩, ⟨by (with_reducible repeat (first | apply Kd.S_alloc | apply Kd.S_drewN | apply Kd.S_drew)); exact HO_6.out⟩, ⟨by repeat (first | (with_reducible first | exact HB.out | apply below_alloc | apply pw_below_drewN | apply below_drew1) | exact HB.out)⟩⟩
            · rw [if_neg c9] at H
              have c9b0 : decide (x24_1 < 2) = false := decide_eq_false c9
              clear c9
              (first | rw [c9b0] | (simp only [i64_w, i32_w]; rw [c9b0]) | skip)
              by_cases c10 : x24_1 = 8
              · rw [if_pos c10] at H
                have c10b0 : (x24_1 == 8) = true := beq_iff_eq.mpr c10
                have c10b1 : (x24_1 != 8) = false := bne_eq_false_iff_eq.mpr c10
                clear c10
                have H' := Aside0.mk H
                clear H
                go_wp2
                go_meet
                case rel => exact ⟨_, (true), (by first | rfl | (simp; done) | (simp [*]; done)), H', ⟨by have := HK1.out; first | omega | exact Nat.le_refl _⟩, ⟨by (with_reducible repeat (first | apply Kd.Q_alloc | apply Kd.Q_drewN | apply Kd.Q_drew)); exact HO_4.out⟩, ⟨by (with_reducible repeat (first | apply Kd.R_alloc | apply Kd.R_drewN | apply Kd.R_drew)); exact HO_5.out⟩, ⟨by (with_reducible repeat (first | apply Kd.S_alloc | apply Kd.S_drewN | apply Kd.S_drew)); exact HO_6.out⟩, ⟨by repeat (first | (with_reducible first | exact HB.out | apply below_alloc | apply pw_below_drewN | apply below_drew1) | exact HB.out)⟩⟩
              · rw [if_neg c10] at H
                have c10b0 : (x24_1 == 8) = false := beq_eq_false_iff_ne.mpr c10
                have c10b1 : (x24_1 != 8) = true := bne_iff_ne.mpr c10
                have H' := Aside0.mk H
                clear H
                go_wp2
                go_meet
                case rel => exact ⟨_, ((x24_1 == 15)), (by first | rfl | (simp; done) | (simp [*]; done)), H', ⟨by have := HK1.out; first | omega | exact Nat.le_refl _⟩, ⟨by (with_reducible repeat (first | apply Kd.Q_alloc | apply Kd.Q_drewN | apply Kd.Q_drew)); exact HO_4.out⟩, ⟨by (with_reducible repeat (first | apply Kd.R_alloc | apply Kd.R_drewN | apply Kd.R_drew)); exact HO_5.out⟩, ⟨by (with_reducible repeat (first | apply Kd.S_alloc | apply Kd.S_drewN | apply Kd.S_drew)); exact HO_6.out⟩, ⟨by repeat (first | (with_reducible first | exact HB.out | apply below_alloc | apply pw_below_drewN | apply below_drew1) | exact HB.out)⟩⟩
          case rest =>
            clear HC8
            try clear c1
            try clear c2
            try clear c2b0
            try clear c2b1
            try clear p2
            try clear c7
            try clear c7b0
            try clear c9
            try clear c9b0
            try clear c10
            try clear c10b0
            try clear c10b1
            try clear p2
            obtain ⟨kq, x36_7, rfl, HA, HJ7, HO_4, HO_5, HO_6, HB⟩ := hcut
            cases kq with
            | zero => exact absurd HA.out (by simp [des_Keys.j1])
            | succ kj7 =>
              have H := HA.out
              clear HA
              simp only [des_Keys.j1] at H
              have HC11 := Aside0.mk H
              clear H
              go_upto_if 36 with (fail)
              go_cut [8] (fun v8 wc => ∃ (kq : Nat) (x8_10 : Int), v8 = .int .i64 x8_10 ∧ Aside0 (des_Keys.j2 kq l0 x4_1 t136 x6_1 x8_10 x24_1 = some (r1, r2)) ∧ Aside0 (kq ≤ kj7) ∧ Aside0 (Kd.Q (Kd.int .i64) 3 wc w.heap.size (fun k_ => some k_ ≠ (v139 : Value).ownBlock) u4 x4_1) ∧ Aside0 (Kd.R (Kd.int .i64) 3 wc w.heap.size (fun k_ => some k_ ≠ (u4 : Value).ownBlock) v139 t136) ∧ Aside0 (Kd.S (Kd.slice 5 (Kd.int .u8)) 22 wc w.heap.size (fun _ => True) u6 x6_1) ∧ Aside0 (Below w.heap.size w wc))
              case first =>
                have H := HC11.out
                clear HC11
                by_cases c12 : x36_7 = true
                · subst c12
                  have H1 : (des_Keys.j2 kj7 l0 x4_1 t136 x6_1 1 x24_1) = some (r1, r2) := by rw [if_pos rfl] at H; exact H
                  clear H
                  have H := H1
                  clear H1
                  have H' := Aside0.mk H
                  clear H
                  go_wp2
                  go_meet
                  case rel => exact ⟨_, (1), (by first | rfl | (simp; done) | (simp [*]; done)), H', ⟨by have := HK1.out; have := HJ7.out; first | omega | exact Nat.le_refl _⟩, ⟨by (with_reducible repeat (first | apply Kd.Q_alloc | apply Kd.Q_drewN | apply Kd.Q_drew)); exact HO_4.out⟩, ⟨by (with_reducible repeat (first | apply Kd.R_alloc | apply Kd.R_drewN | apply Kd.R_drew)); exact HO_5.out⟩, ⟨by (with_reducible repeat (first | apply Kd.S_alloc | apply Kd.S_drewN | apply Kd.S_drew)); exact HO_6.out⟩, ⟨by repeat (first | (with_reducible first | exact HB.out | apply below_alloc | apply pw_below_drewN | apply below_drew1) | exact HB.out)⟩⟩
                · replace c12 := Bool.eq_false_iff.mpr c12
                  subst c12
                  have H1 : (des_Keys.j2 kj7 l0 x4_1 t136 x6_1 2 x24_1) = some (r1, r2) := by rw [if_neg (show ¬ (false = true) by decide)] at H; exact H
                  clear H
                  have H := H1
                  clear H1
                  have H' := Aside0.mk H
                  clear H
                  go_wp2
                  go_meet
                  case rel => exact ⟨_, (2), (by first | rfl | (simp; done) | (simp [*]; done)), H', ⟨by have := HK1.out; have := HJ7.out; first | omega | exact Nat.le_refl _⟩, ⟨by (with_reducible repeat (first | apply Kd.Q_alloc | apply Kd.Q_drewN | apply Kd.Q_drew)); exact HO_4.out⟩, ⟨by (with_reducible repeat (first | apply Kd.R_alloc | apply Kd.R_drewN | apply Kd.R_drew)); exact HO_5.out⟩, ⟨by (with_reducible repeat (first | apply Kd.S_alloc | apply Kd.S_drewN | apply Kd.S_drew)); exact HO_6.out⟩, ⟨by repeat (first | (with_reducible first | exact HB.out | apply below_alloc | apply pw_below_drewN | apply below_drew1) | exact HB.out)⟩⟩
              case rest =>
                clear HC11
                try clear c1
                try clear c2
                try clear c2b0
                try clear c2b1
                try clear p2
                try clear c7
                try clear c7b0
                try clear c9
                try clear c9b0
                try clear c10
                try clear c10b0
                try clear c10b1
                try clear c11
                try clear c12
                try clear p2
                obtain ⟨kq, x8_10, rfl, HA, HJ10, HO_4, HO_5, HO_6, HB⟩ := hcut
                cases kq with
                | zero => exact absurd HA.out (by simp [des_Keys.j2])
                | succ kj10 =>
                  have H := HA.out
                  clear HA
                  simp only [des_Keys.j2] at H
                  by_cases c13 : 28 ≤ (x4_1.length : Int)
                  rotate_left
                  · rw [if_neg c13] at H
                    exact absurd H (by simp)
                  rw [if_pos c13] at H
                  have c13b0 := eq_true c13
                  have c13b1 : decide (28 ≤ (x4_1.length : Int)) = true := decide_eq_true c13
                  clear c13
                  obtain ⟨y144, hy144⟩ : ∃ y_ : List Int, y_ = (x4_1.take 28) := ⟨_, rfl⟩
                  replace H : ((slices_Clone_int_int.f y144).bind fun t148 => ((slices_Clone_int_int.f (x4_1.drop 28)).bind fun t155 => (if 0 ≤ x8_10 then (if x8_10 ≤ (t148.length : Int) then ((some (t148.take (x8_10 : Int).toNat : List Int)).bind fun y162 => (if t148.length + y162.length < 17592186044416 then ((some ((t148.drop (x8_10 : Int).toNat) ++ y162 : List Int)).bind fun y166 => (if x8_10 ≤ (t155.length : Int) then ((some (t155.drop (x8_10 : Int).toNat : List Int)).bind fun y169 => (if y166.length + y169.length < 17592186044416 then ((some (y166 ++ y169 : List Int)).bind fun y173 => ((some (t155.take (x8_10 : Int).toNat : List Int)).bind fun y176 => (if y173.length + y176.length < 17592186044416 then (des_Keys.l1 kj10 l0 (y173 ++ y176) t136 x6_1 ([] : List Int) x24_1 t136 (t136.length : Int) 0) else (none)))) else (none))) else (none))) else (none))) else (none)) else (none)))) = some (r1, r2) := by first | (rw [hy144]; with_reducible exact H) | (have H2_ := (Option.bind_some _ _).symm.trans H; rw [hy144]; with_reducible exact H2_) | (have H2_ := (Option.bind_some _ _).symm.trans H; with_reducible exact H2_) | with_reducible exact H | (rw [hy144]; exact H) | exact H
                  have Ny144 := Aside0.mk hy144
                  clear hy144
                  replace H := Option.bind_eq_some_iff.mp H
                  obtain ⟨t148, A140, H⟩ := H
                  replace H : ((slices_Clone_int_int.f (x4_1.drop 28)).bind fun t155 => (if 0 ≤ x8_10 then (if x8_10 ≤ (t148.length : Int) then ((some (t148.take (x8_10 : Int).toNat : List Int)).bind fun y162 => (if t148.length + y162.length < 17592186044416 then ((some ((t148.drop (x8_10 : Int).toNat) ++ y162 : List Int)).bind fun y166 => (if x8_10 ≤ (t155.length : Int) then ((some (t155.drop (x8_10 : Int).toNat : List Int)).bind fun y169 => (if y166.length + y169.length < 17592186044416 then ((some (y166 ++ y169 : List Int)).bind fun y173 => ((some (t155.take (x8_10 : Int).toNat : List Int)).bind fun y176 => (if y173.length + y176.length < 17592186044416 then (des_Keys.l1 kj10 l0 (y173 ++ y176) t136 x6_1 ([] : List Int) x24_1 t136 (t136.length : Int) 0) else (none)))) else (none))) else (none))) else (none))) else (none)) else (none))) = some (r1, r2) := H
                  have A14 := Aside0.mk A140
                  clear A140
                  have c15b0 := eq_true (of_decide_eq_true (by first | (with_reducible assumption) | assumption) : 28 ≤ (x4_1.length : Int))
                  obtain ⟨y151, hy151⟩ : ∃ y_ : List Int, y_ = (x4_1.drop 28) := ⟨_, rfl⟩
                  replace H : ((slices_Clone_int_int.f y151).bind fun t155 => (if 0 ≤ x8_10 then (if x8_10 ≤ (t148.length : Int) then ((some (t148.take (x8_10 : Int).toNat : List Int)).bind fun y162 => (if t148.length + y162.length < 17592186044416 then ((some ((t148.drop (x8_10 : Int).toNat) ++ y162 : List Int)).bind fun y166 => (if x8_10 ≤ (t155.length : Int) then ((some (t155.drop (x8_10 : Int).toNat : List Int)).bind fun y169 => (if y166.length + y169.length < 17592186044416 then ((some (y166 ++ y169 : List Int)).bind fun y173 => ((some (t155.take (x8_10 : Int).toNat : List Int)).bind fun y176 => (if y173.length + y176.length < 17592186044416 then (des_Keys.l1 kj10 l0 (y173 ++ y176) t136 x6_1 ([] : List Int) x24_1 t136 (t136.length : Int) 0) else (none)))) else (none))) else (none))) else (none))) else (none)) else (none))) = some (r1, r2) := by first | (rw [hy151]; with_reducible exact H) | (have H2_ := (Option.bind_some _ _).symm.trans H; rw [hy151]; with_reducible exact H2_) | (have H2_ := (Option.bind_some _ _).symm.trans H; with_reducible exact H2_) | with_reducible exact H | (rw [hy151]; exact H) | exact H
                  have Ny151 := Aside0.mk hy151
                  clear hy151
                  replace H := Option.bind_eq_some_iff.mp H
                  obtain ⟨t155, A160, H⟩ := H
                  replace H : (if 0 ≤ x8_10 then (if x8_10 ≤ (t148.length : Int) then ((some (t148.take (x8_10 : Int).toNat : List Int)).bind fun y162 => (if t148.length + y162.length < 17592186044416 then ((some ((t148.drop (x8_10 : Int).toNat) ++ y162 : List Int)).bind fun y166 => (if x8_10 ≤ (t155.length : Int) then ((some (t155.drop (x8_10 : Int).toNat : List Int)).bind fun y169 => (if y166.length + y169.length < 17592186044416 then ((some (y166 ++ y169 : List Int)).bind fun y173 => ((some (t155.take (x8_10 : Int).toNat : List Int)).bind fun y176 => (if y173.length + y176.length < 17592186044416 then (des_Keys.l1 kj10 l0 (y173 ++ y176) t136 x6_1 ([] : List Int) x24_1 t136 (t136.length : Int) 0) else (none)))) else (none))) else (none))) else (none))) else (none)) else (none)) = some (r1, r2) := H
                  have A16 := Aside0.mk A160
                  clear A160
                  by_cases c17 : 0 ≤ x8_10
                  rotate_left
                  · rw [if_neg c17] at H
                    exact absurd H (by simp)
                  rw [if_pos c17] at H
                  have c17b0 := eq_true c17
                  have c17b1 : decide (0 ≤ x8_10) = true := decide_eq_true c17
                  clear c17
                  by_cases c18 : x8_10 ≤ (t148.length : Int)
                  rotate_left
                  · rw [if_neg c18] at H
                    exact absurd H (by simp)
                  rw [if_pos c18] at H
                  have c18b0 := eq_true c18
                  have c18b1 : decide (x8_10 ≤ (t148.length : Int)) = true := decide_eq_true c18
                  clear c18
                  obtain ⟨y158, hy158⟩ : ∃ y_ : List Int, y_ = (t148.drop (x8_10 : Int).toNat) := ⟨_, rfl⟩
                  replace H : ((some (t148.take (x8_10 : Int).toNat : List Int)).bind fun y162 => (if t148.length + y162.length < 17592186044416 then ((some (y158 ++ y162 : List Int)).bind fun y166 => (if x8_10 ≤ (t155.length : Int) then ((some (t155.drop (x8_10 : Int).toNat : List Int)).bind fun y169 => (if y166.length + y169.length < 17592186044416 then ((some (y166 ++ y169 : List Int)).bind fun y173 => ((some (t155.take (x8_10 : Int).toNat : List Int)).bind fun y176 => (if y173.length + y176.length < 17592186044416 then (des_Keys.l1 kj10 l0 (y173 ++ y176) t136 x6_1 ([] : List Int) x24_1 t136 (t136.length : Int) 0) else (none)))) else (none))) else (none))) else (none))) = some (r1, r2) := by first | (rw [hy158]; with_reducible exact H) | (have H2_ := (Option.bind_some _ _).symm.trans H; rw [hy158]; with_reducible exact H2_) | (have H2_ := (Option.bind_some _ _).symm.trans H; with_reducible exact H2_) | with_reducible exact H | (rw [hy158]; exact H) | exact H
                  have Ny158 := Aside0.mk hy158
                  clear hy158
                  have c19b0 := eq_true (of_decide_eq_true (by first | (with_reducible assumption) | assumption) : 0 ≤ x8_10)
                  have c20b0 := eq_true (of_decide_eq_true (by first | (with_reducible assumption) | assumption) : x8_10 ≤ (t148.length : Int))
                  obtain ⟨y162, hy162⟩ : ∃ y_ : List Int, y_ = (t148.take (x8_10 : Int).toNat) := ⟨_, rfl⟩
                  replace H : (if t148.length + y162.length < 17592186044416 then ((some (y158 ++ y162 : List Int)).bind fun y166 => (if x8_10 ≤ (t155.length : Int) then ((some (t155.drop (x8_10 : Int).toNat : List Int)).bind fun y169 => (if y166.length + y169.length < 17592186044416 then ((some (y166 ++ y169 : List Int)).bind fun y173 => ((some (t155.take (x8_10 : Int).toNat : List Int)).bind fun y176 => (if y173.length + y176.length < 17592186044416 then (des_Keys.l1 kj10 l0 (y173 ++ y176) t136 x6_1 ([] : List Int) x24_1 t136 (t136.length : Int) 0) else (none)))) else (none))) else (none))) else (none)) = some (r1, r2) := by first | (rw [hy162]; with_reducible exact H) | (have H2_ := (Option.bind_some _ _).symm.trans H; rw [hy162]; with_reducible exact H2_) | (have H2_ := (Option.bind_some _ _).symm.trans H; with_reducible exact H2_) | with_reducible exact H | (rw [hy162]; exact H) | exact H
                  have Ny162 := Aside0.mk hy162
                  clear hy162
                  by_cases c21 : t148.length + y162.length < 17592186044416
                  rotate_left
                  · rw [if_neg c21] at H
                    exact absurd H (by simp)
                  rw [if_pos c21] at H
                  have LMc21 := Aside0.mk c21
                  clear c21
                  obtain ⟨y166, hy166⟩ : ∃ y_ : List Int, y_ = (y158 ++ y162) := ⟨_, rfl⟩
                  replace H : (if x8_10 ≤ (t155.length : Int) then ((some (t155.drop (x8_10 : Int).toNat : List Int)).bind fun y169 => (if y166.length + y169.length < 17592186044416 then ((some (y166 ++ y169 : List Int)).bind fun y173 => ((some (t155.take (x8_10 : Int).toNat : List Int)).bind fun y176 => (if y173.length + y176.length < 17592186044416 then (des_Keys.l1 kj10 l0 (y173 ++ y176) t136 x6_1 ([] : List Int) x24_1 t136 (t136.length : Int) 0) else (none)))) else (none))) else (none)) = some (r1, r2) := by first | (rw [hy166]; with_reducible exact H) | (have H2_ := (Option.bind_some _ _).symm.trans H; rw [hy166]; with_reducible exact H2_) | (have H2_ := (Option.bind_some _ _).symm.trans H; with_reducible exact H2_) | with_reducible exact H | (rw [hy166]; exact H) | exact H
                  have Ny166 := Aside0.mk hy166
                  clear hy166
                  have c22b0 := eq_true (of_decide_eq_true (by first | (with_reducible assumption) | assumption) : 0 ≤ x8_10)
                  by_cases c23 : x8_10 ≤ (t155.length : Int)
                  rotate_left
                  · rw [if_neg c23] at H
                    exact absurd H (by simp)
                  rw [if_pos c23] at H
                  have c23b0 := eq_true c23
                  have c23b1 : decide (x8_10 ≤ (t155.length : Int)) = true := decide_eq_true c23
                  clear c23
                  obtain ⟨y169, hy169⟩ : ∃ y_ : List Int, y_ = (t155.drop (x8_10 : Int).toNat) := ⟨_, rfl⟩
                  replace H : (if y166.length + y169.length < 17592186044416 then ((some (y166 ++ y169 : List Int)).bind fun y173 => ((some (t155.take (x8_10 : Int).toNat : List Int)).bind fun y176 => (if y173.length + y176.length < 17592186044416 then (des_Keys.l1 kj10 l0 (y173 ++ y176) t136 x6_1 ([] : List Int) x24_1 t136 (t136.length : Int) 0) else (none)))) else (none)) = some (r1, r2) := by first | (rw [hy169]; with_reducible exact H) | (have H2_ := (Option.bind_some _ _).symm.trans H; rw [hy169]; with_reducible exact H2_) | (have H2_ := (Option.bind_some _ _).symm.trans H; with_reducible exact H2_) | with_reducible exact H | (rw [hy169]; exact H) | exact H
                  have Ny169 := Aside0.mk hy169
                  clear hy169
                  by_cases c24 : y166.length + y169.length < 17592186044416
                  rotate_left
                  · rw [if_neg c24] at H
                    exact absurd H (by simp)
                  rw [if_pos c24] at H
                  have LMc24 := Aside0.mk c24
                  clear c24
                  obtain ⟨y173, hy173⟩ : ∃ y_ : List Int, y_ = (y166 ++ y169) := ⟨_, rfl⟩
                  replace H : ((some (t155.take (x8_10 : Int).toNat : List Int)).bind fun y176 => (if y173.length + y176.length < 17592186044416 then (des_Keys.l1 kj10 l0 (y173 ++ y176) t136 x6_1 ([] : List Int) x24_1 t136 (t136.length : Int) 0) else (none))) = some (r1, r2) := by first | (rw [hy173]; with_reducible exact H) | (have H2_ := (Option.bind_some _ _).symm.trans H; rw [hy173]; with_reducible exact H2_) | (have H2_ := (Option.bind_some _ _).symm.trans H; with_reducible exact H2_) | with_reducible exact H | (rw [hy173]; exact H) | exact H
                  have Ny173 := Aside0.mk hy173
                  clear hy173
                  have c25b0 := eq_true (of_decide_eq_true (by first | (with_reducible assumption) | assumption) : 0 ≤ x8_10)
                  have c26b0 := eq_true (of_decide_eq_true (by first | (with_reducible assumption) | assumption) : x8_10 ≤ (t155.length : Int))
                  obtain ⟨y176, hy176⟩ : ∃ y_ : List Int, y_ = (t155.take (x8_10 : Int).toNat) := ⟨_, rfl⟩
                  replace H : (if y173.length + y176.length < 17592186044416 then (des_Keys.l1 kj10 l0 (y173 ++ y176) t136 x6_1 ([] : List Int) x24_1 t136 (t136.length : Int) 0) else (none)) = some (r1, r2) := by first | (rw [hy176]; with_reducible exact H) | (have H2_ := (Option.bind_some _ _).symm.trans H; rw [hy176]; with_reducible exact H2_) | (have H2_ := (Option.bind_some _ _).symm.trans H; with_reducible exact H2_) | with_reducible exact H | (rw [hy176]; exact H) | exact H
                  have Ny176 := Aside0.mk hy176
                  clear hy176
                  by_cases c27 : y173.length + y176.length < 17592186044416
                  rotate_left
                  · rw [if_neg c27] at H
                    exact absurd H (by simp)
                  rw [if_pos c27] at H
                  have LMc27 := Aside0.mk c27
                  clear c27
                  obtain ⟨y180, hy180⟩ : ∃ y_ : List Int, y_ = (y173 ++ y176) := ⟨_, rfl⟩
                  replace H : (des_Keys.l1 kj10 l0 y180 t136 x6_1 ([] : List Int) x24_1 t136 (t136.length : Int) 0) = some (r1, r2) := by first | (rw [hy180]; with_reducible exact H) | (have H2_ := (Option.bind_some _ _).symm.trans H; rw [hy180]; with_reducible exact H2_) | (have H2_ := (Option.bind_some _ _).symm.trans H; with_reducible exact H2_) | with_reducible exact H | (rw [hy180]; exact H) | exact H
                  have Ny180 := Aside0.mk hy180
                  clear hy180
                  have H' := Aside0.mk H
                  clear H
                  try go_wp2
                  have n0_ := Aside0.mk (Kd.Q_drew HO_4.out)
                  have n1_ := Aside0.mk (Kd.R_drew HO_5.out)
                  have n2_ := Aside0.mk (Kd.S_drew HO_6.out)
                  have n3_ := Aside0.mk (below_drew1 HB.out)
                  clear HO_4
                  clear HO_5
                  clear HO_6
                  clear HB
                  have HO_4 := n0_
                  have HO_5 := n1_
                  have HO_6 := n2_
                  have HB := n3_
                  clear n0_ n1_ n2_ n3_
                  obtain ⟨Ao30, co30, eo30, _⟩ := Kd.Q_slice HO_4.out
                  (first | subst eo30 | (injection eo30 with f1_ f2_ f3_; have f4_ := f1_.symm; have f5_ := f3_.symm; clear f1_ f2_ f3_; subst f4_; subst f5_))
                  have q29 : (28 : Int) ≤ ((x4_1.length : Int) : Int) := of_decide_eq_true (by first | (with_reducible assumption) | assumption)
                  obtain ⟨i029, hi029, _, hsz29, _⟩ := info_parts info3
                  have hroom29 : x4_1.length ≤ co30 := (Kd.Q_reads' HO_4.out).2.1
                  have hC29 : Kd.C (Kd.int .i64) _ Ao30 x4_1.length x4_1 := (Kd.Q_reads' HO_4.out).2.2
                  have hcut29 := cut_to (P := Try.prog) 46 3 .i64 Try.underlying46 hi029 Ao30 x4_1.length co30 28 (by omega) q29 hroom29
                  have hr29 := Kd.C_take (m := 28) hC29 (by omega)
                  have hy29 : y144.length = (28 : Int).toNat := (by rw [Ny144.out, List.length_take]; omega)
                  rw [← Ny144.out] at hr29
                  rw [← hy29] at hcut29
                  have HR147 := Aside0.mk hr29
                  have HC147 := Aside0.mk (show y144.length ≤ co30 from by omega)
                  clear hr29 hC29 hroom29 hi029 hsz29
                  have KY29 := Aside0.mk hy29
                  clear hy29
                  have KL29 := Aside0.mk (show 28 ≤ x4_1.length from by omega)
                  replace q29 := eq_true q29
                  have q31 : (28 : Int) ≤ ((x4_1.length : Int) : Int) := of_decide_eq_true (by first | (with_reducible assumption) | assumption)
                  obtain ⟨i031, hi031, _, hsz31, _⟩ := info_parts info3
                  have hroom31 : x4_1.length ≤ co30 := (Kd.Q_reads' HO_4.out).2.1
                  have hC31 : Kd.C (Kd.int .i64) _ Ao30 x4_1.length x4_1 := (Kd.Q_reads' HO_4.out).2.2
                  have hcut31 := cut_from (P := Try.prog) 46 3 .i64 Try.underlying46 hi031 1 hsz31 Ao30 x4_1.length co30 28 (by omega) q31
                  have hr31 := Kd.C_drop (m := (28 : Int).toNat) (c := co30) hC31 (by omega) hroom31
                  obtain ⟨A31, hA31⟩ : ∃ A1, A1 = (if co30 = (28 : Int).toNat then Ao30 else (Ao30 : Option Addr).map (·.add ((28 : Int).toNat * 1))) := ⟨_, rfl⟩
                  obtain ⟨c31, hc31⟩ : ∃ c1, c1 = co30 - (28 : Int).toNat := ⟨_, rfl⟩
                  have hy31 : y151.length = x4_1.length - (28 : Int).toNat := (by rw [Ny151.out, List.length_drop] <;> omega)
                  rw [show (x4_1).drop (28 : Int).toNat = y151 from Ny151.out.symm] at hr31
                  replace hr31 : Kd.C (Kd.int .i64) _ A31 y151.length y151 := (by rw [hA31]; exact hr31)
                  rw [← hy31, ← hA31, ← hc31] at hcut31
                  have HR154 := Aside0.mk hr31
                  have HC154 := Aside0.mk (show y151.length ≤ c31 from by rw [hy31, hc31]; exact Nat.sub_le_sub_right hroom31 _)
                  have KC31 := Aside0.mk hc31
                  clear hr31 hC31 hroom31 hi031 hsz31 hc31
                  have KY31 := Aside0.mk hy31
                  have KA31 := Aside0.mk hA31
                  clear hy31 hA31
                  have KL31 := Aside0.mk (show 28 ≤ x4_1.length from by omega)
                  replace q31 := eq_true q31
                  refine start_ (n := 8) (S := fun w' => True) (ds := []) #[false, false, false, false, false, false, false, false] (by kernel_rfl) rfl rfl trivial (fun hHeld => ?_); refine with_tabW des_Keys.tab11 des_Keys.bits11 (fun HT_ HW_ => ?_)
                  generalize wc.drew = w28 at HO_4 HO_5 HO_6 HB HR147 HR154 hHeld ⊢
                  refine pure_ (i := 0) (N := some 37) (v := ?_) (a' := ?_) #[true, false, false, false, false, false, false, false] rfl rfl (any_of HT_.out (by kernel_rfl)) (fun _ _ _ h => h) (Or.inl ⟨by rfl, ?_⟩) ?_ ?_
                  rotate_left
                  · intro w'
                    go_simp
                    with_reducible rfl
                  rotate_left
                  · simp only [Act.put, List.setIfInBounds_toArray, List.set_cons_zero, List.set_cons_succ, i64_w, i32_w]
                    rfl
                  refine pure_ (i := 1) (N := some 38) (v := ?_) (a' := ?_) #[true, true, false, false, false, false, false, false] rfl rfl (any_of HT_.out (by kernel_rfl)) (fun _ _ _ h => h) (Or.inl ⟨by rfl, ?_⟩) ?_ ?_
                  rotate_left
                  · intro w'
                    go_simp
                    with_reducible rfl
                  rotate_left
                  · simp only [Act.put, List.setIfInBounds_toArray, List.set_cons_zero, List.set_cons_succ, i64_w, i32_w]
                    rfl
                  refine pure_ (i := 3) (N := some 40) (v := ?_) (a' := ?_) #[true, true, false, true, false, false, false, false] rfl rfl (any_of HT_.out (by kernel_rfl)) (fun _ _ _ h => h) (Or.inl ⟨by rfl, ?_⟩) ?_ ?_
                  rotate_left
                  · intro w'
                    go_simp
                    with_reducible rfl
                  rotate_left
                  · simp only [Act.put, List.setIfInBounds_toArray, List.set_cons_zero, List.set_cons_succ, i64_w, i32_w]
                    rfl
                  refine pure_ (i := 4) (N := some 41) (v := ?_) (a' := ?_) #[true, true, false, true, true, false, false, false] rfl rfl (any_of HT_.out (by kernel_rfl)) (fun _ _ _ h => h) (Or.inl ⟨by rfl, ?_⟩) ?_ ?_
                  rotate_left
                  · intro w'
                    go_simp
                    with_reducible rfl
                  rotate_left
                  · simp only [Act.put, List.setIfInBounds_toArray, List.set_cons_zero, List.set_cons_succ, i64_w, i32_w]
                    rfl
                  refine one_ (i := 2) (N := some 39) #[true, true, true, true, true, false, false, false] rfl rfl (one_of HT_.out (by kernel_rfl)) (by decide) (fun K hK => ?_)
                  refine goes_ Try.func25 (by kernel_rfl) rfl #[.slice Ao30 y144.length co30] (by rfl) rfl rfl (by (try simp only [List.map_toArray, List.map_cons, List.map_nil]); first | done | rfl | (simp only [List.length_drop, List.length_take]; rfl)) ?_
                  with_reducible refine (slices_Clone_int_int.calls _ _ y144 t148 _ ?side1 ?side2 A14.out).mono ?_
                  (case side1 => repeat (first | exact (by repeat (first | (with_reducible exact HR147.out) | (with_reducible refine Kd.C_alloc ?_ _) | (with_reducible refine Kd.C_drewN ?_ _) | (with_reducible refine Kd.C_drew ?_) | exact HR147.out)) | (with_reducible refine Kd.C_alloc ?_ _) | (with_reducible refine Kd.C_drewN ?_ _) | (with_reducible refine Kd.C_drew ?_)))
                  (case side2 => exact HC147.out)
                  rintro e w32 ⟨v149, rfl, ho0, hb⟩
                  refine ⟨_, rfl, ?_⟩
                  have n0_ := Aside0.mk (Kd.Q_elder' HO_4.out (Kd.R_base ho0) hb)
                  have n1_ := Aside0.mk (Kd.R_elder' HO_5.out (Kd.R_base ho0) hb)
                  have n2_ := Aside0.mk (Kd.S_below HO_6.out hb)
                  have n3_ := Aside0.mk (Kd.R_lower (Kd.R_new' (Kd.R_new' ho0 (Kd.Q_lt HO_4.out)) (Kd.R_lt HO_5.out)) (below_size HB.out))
                  have n4_ := Aside0.mk (Kd.C_below (by repeat (first | (with_reducible exact HR147.out) | (with_reducible refine Kd.C_alloc ?_ _) | (with_reducible refine Kd.C_drewN ?_ _) | (with_reducible refine Kd.C_drew ?_) | exact HR147.out)) hb)
                  have n5_ := Aside0.mk (Kd.C_below (by repeat (first | (with_reducible exact HR154.out) | (with_reducible refine Kd.C_alloc ?_ _) | (with_reducible refine Kd.C_drewN ?_ _) | (with_reducible refine Kd.C_drew ?_) | exact HR154.out)) hb)
                  have n6_ := Aside0.mk (below_step HB.out hb)
                  clear HO_4
                  clear HO_5
                  clear HO_6
                  clear HR147
                  clear HR154
                  clear HB
                  have HO_4 := n0_
                  have HO_5 := n1_
                  have HO_6 := n2_
                  have HO150 := n3_
                  have HR147 := n4_
                  have HR154 := n5_
                  have HB := n6_
                  clear n0_ n1_ n2_ n3_ n4_ n5_ n6_
                  (try clear hb)
                  (try clear hb2)
                  (try clear hk)
                  (try clear hi)
                  (try clear ho0)
                  refine hK.out _ _ trivial (fun hHeld => ?_)
                  clear hK K
                  refine norm_ (a' := ?_) ?_ ?_
                  rotate_left
                  · show Act.put _ (some 39) _ = _
                    simp only [Act.put, List.setIfInBounds_toArray, List.set_cons_zero, List.set_cons_succ, i64_w, i32_w]
                    rfl
                  refine one_ (i := 5) (N := some 42) #[true, true, true, true, true, true, false, false] rfl rfl (one_of HT_.out (by kernel_rfl)) (by decide) (fun K hK => ?_)
                  refine goes_ Try.func25 (by kernel_rfl) rfl #[.slice A31 y151.length c31] (by rfl) rfl rfl (by (try simp only [List.map_toArray, List.map_cons, List.map_nil]); first | done | rfl | (simp only [List.length_drop, List.length_take]; rfl)) ?_
                  with_reducible refine (slices_Clone_int_int.calls _ _ y151 t155 _ ?side1 ?side2 A16.out).mono ?_
                  (case side1 => repeat (first | exact (by repeat (first | (with_reducible exact HR154.out) | (with_reducible refine Kd.C_alloc ?_ _) | (with_reducible refine Kd.C_drewN ?_ _) | (with_reducible refine Kd.C_drew ?_) | exact HR154.out)) | (with_reducible refine Kd.C_alloc ?_ _) | (with_reducible refine Kd.C_drewN ?_ _) | (with_reducible refine Kd.C_drew ?_)))
                  (case side2 => exact HC154.out)
                  rintro e w33 ⟨v156, rfl, ho0, hb⟩
                  refine ⟨_, rfl, ?_⟩
                  have n0_ := Aside0.mk (Kd.Q_elder' HO_4.out (Kd.R_base ho0) hb)
                  have n1_ := Aside0.mk (Kd.R_elder' HO_5.out (Kd.R_base ho0) hb)
                  have n2_ := Aside0.mk (Kd.S_below HO_6.out hb)
                  have n3_ := Aside0.mk (Kd.R_elder' HO150.out (Kd.R_base ho0) hb)
                  have n4_ := Aside0.mk (Kd.R_lower (Kd.R_new' (Kd.R_new' (Kd.R_new' ho0 (Kd.Q_lt HO_4.out)) (Kd.R_lt HO_5.out)) (Kd.R_lt HO150.out)) (below_size HB.out))
                  have n5_ := Aside0.mk (Kd.C_below (by repeat (first | (with_reducible exact HR147.out) | (with_reducible refine Kd.C_alloc ?_ _) | (with_reducible refine Kd.C_drewN ?_ _) | (with_reducible refine Kd.C_drew ?_) | exact HR147.out)) hb)
                  have n6_ := Aside0.mk (Kd.C_below (by repeat (first | (with_reducible exact HR154.out) | (with_reducible refine Kd.C_alloc ?_ _) | (with_reducible refine Kd.C_drewN ?_ _) | (with_reducible refine Kd.C_drew ?_) | exact HR154.out)) hb)
                  have n7_ := Aside0.mk (below_step HB.out hb)
                  clear HO_4
                  clear HO_5
                  clear HO_6
                  clear HO150
                  clear HR147
                  clear HR154
                  clear HB
                  have HO_4 := n0_
                  have HO_5 := n1_
                  have HO_6 := n2_
                  have HO150 := n3_
                  have HO157 := n4_
                  have HR147 := n5_
                  have HR154 := n6_
                  have HB := n7_
                  clear n0_ n1_ n2_ n3_ n4_ n5_ n6_ n7_
                  (try clear hb)
                  (try clear hb2)
                  (try clear hk)
                  (try clear hi)
                  (try clear ho0)
                  refine hK.out _ _ trivial (fun hHeld => ?_)
                  clear hK K
                  refine norm_ (a' := ?_) ?_ ?_
                  rotate_left
                  · show Act.put _ (some 42) _ = _
                    simp only [Act.put, List.setIfInBounds_toArray, List.set_cons_zero, List.set_cons_succ, i64_w, i32_w]
                    rfl
                  refine pure_ (i := 6) (N := some 9) (v := ?_) (a' := ?_) #[true, true, true, true, true, true, true, false] rfl rfl (any_of HT_.out (by kernel_rfl)) (fun _ _ _ h => h) (Or.inl ⟨by rfl, ?_⟩) ?_ ?_
                  rotate_left
                  · intro w'
                    go_simp
                    with_reducible rfl
                  rotate_left
                  · simp only [Act.put, List.setIfInBounds_toArray, List.set_cons_zero, List.set_cons_succ, i64_w, i32_w]
                    rfl
                  refine pure_ (i := 7) (N := some 10) (v := ?_) (a' := ?_) #[true, true, true, true, true, true, true, true] rfl rfl (any_of HT_.out (by kernel_rfl)) (fun _ _ _ h => h) (Or.inl ⟨by rfl, ?_⟩) ?_ ?_
                  rotate_left
                  · intro w'
                    go_simp
                    with_reducible rfl
                  rotate_left
                  · simp only [Act.put, List.setIfInBounds_toArray, List.set_cons_zero, List.set_cons_succ, i64_w, i32_w]
                    rfl
                  refine done_ (done_of HT_.out (by kernel_rfl)) ?_
                  try go_wp2
                  have n0_ := Aside0.mk (Kd.Q_drew HO_4.out)
                  have n1_ := Aside0.mk (Kd.R_drew HO_5.out)
                  have n2_ := Aside0.mk (Kd.S_drew HO_6.out)
                  have n3_ := Aside0.mk (Kd.R_drew HO150.out)
                  have n4_ := Aside0.mk (Kd.R_drew HO157.out)
                  have n5_ := Aside0.mk (Kd.C_drew HR147.out)
                  have n6_ := Aside0.mk (Kd.C_drew HR154.out)
                  have n7_ := Aside0.mk (below_drew1 HB.out)
                  clear HO_4
                  clear HO_5
                  clear HO_6
                  clear HO150
                  clear HO157
                  clear HR147
                  clear HR154
                  clear HB
                  have HO_4 := n0_
                  have HO_5 := n1_
                  have HO_6 := n2_
                  have HO150 := n3_
                  have HO157 := n4_
                  have HR147 := n5_
                  have HR154 := n6_
                  have HB := n7_
                  clear n0_ n1_ n2_ n3_ n4_ n5_ n6_ n7_
                  obtain ⟨Ao36, co36, eo36⟩ := Kd.R_slice HO150.out
                  (first | subst eo36 | (injection eo36 with f1_ f2_ f3_; have f4_ := f1_.symm; have f5_ := f3_.symm; clear f1_ f2_ f3_; subst f4_; subst f5_))
                  have q35 : (x8_10 : Int) ≤ ((t148.length : Int) : Int) := of_decide_eq_true (by first | (with_reducible assumption) | assumption)
                  obtain ⟨i035, hi035, _, hsz35, _⟩ := info_parts info3
                  have hroom35 : t148.length ≤ co36 := (Kd.R_reads' HO150.out).2.1
                  have hC35 : Kd.C (Kd.int .i64) _ Ao36 t148.length t148 := (Kd.R_reads' HO150.out).2.2
                  have q035 : (0 : Int) ≤ (x8_10 : Int) := of_decide_eq_true (by first | (with_reducible assumption) | assumption)
                  have hcut35 := cut_from (P := Try.prog) 46 3 .i64 Try.underlying46 hi035 1 hsz35 Ao36 t148.length co36 x8_10 q035 q35
                  have hr35 := Kd.C_drop (m := (x8_10 : Int).toNat) (c := co36) hC35 (by omega) hroom35
                  obtain ⟨A35, hA35⟩ : ∃ A1, A1 = (if co36 = (x8_10 : Int).toNat then Ao36 else (Ao36 : Option Addr).map (·.add ((x8_10 : Int).toNat * 1))) := ⟨_, rfl⟩
                  obtain ⟨c35, hc35⟩ : ∃ c1, c1 = co36 - (x8_10 : Int).toNat := ⟨_, rfl⟩
                  have hy35 : y158.length = t148.length - (x8_10 : Int).toNat := (by rw [Ny158.out, List.length_drop] <;> omega)
                  rw [show (t148).drop (x8_10 : Int).toNat = y158 from Ny158.out.symm] at hr35
                  replace hr35 : Kd.C (Kd.int .i64) _ A35 y158.length y158 := (by rw [hA35]; exact hr35)
                  rw [← hy35, ← hA35, ← hc35] at hcut35
                  have HR161 := Aside0.mk hr35
                  have HC161 := Aside0.mk (show y158.length ≤ c35 from by rw [hy35, hc35]; exact Nat.sub_le_sub_right hroom35 _)
                  have KC35 := Aside0.mk hc35
                  clear hr35 hC35 hroom35 hi035 hsz35 hc35
                  have KY35 := Aside0.mk hy35
                  have KA35 := Aside0.mk hA35
                  clear hy35 hA35
                  have KL35 := Aside0.mk (show (x8_10 : Int).toNat ≤ t148.length from by omega)
                  replace q35 := eq_true q35
                  have q37 : (x8_10 : Int) ≤ ((t148.length : Int) : Int) := of_decide_eq_true (by first | (with_reducible assumption) | assumption)
                  obtain ⟨i037, hi037, _, hsz37, _⟩ := info_parts info3
                  have hroom37 : t148.length ≤ co36 := (Kd.R_reads' HO150.out).2.1
                  have hC37 : Kd.C (Kd.int .i64) _ Ao36 t148.length t148 := (Kd.R_reads' HO150.out).2.2
                  have hcut37 := cut_to (P := Try.prog) 46 3 .i64 Try.underlying46 hi037 Ao36 t148.length co36 x8_10 (of_decide_eq_true (by first | (with_reducible assumption) | assumption)) q37 hroom37
                  have hr37 := Kd.C_take (m := (x8_10 : Int).toNat) hC37 (by omega)
                  have hy37 : y162.length = (x8_10 : Int).toNat := (by rw [Ny162.out, List.length_take]; omega)
                  rw [← Ny162.out] at hr37
                  rw [← hy37] at hcut37
                  have HR165 := Aside0.mk hr37
                  have HC165 := Aside0.mk (show y162.length ≤ co36 from by omega)
                  clear hr37 hC37 hroom37 hi037 hsz37
                  have KY37 := Aside0.mk hy37
                  clear hy37
                  have KL37 := Aside0.mk (show (x8_10 : Int).toNat ≤ t148.length from by omega)
                  replace q37 := eq_true q37
                  obtain ⟨Ao39, co39, eo39⟩ := Kd.R_slice HO157.out
                  (first | subst eo39 | (injection eo39 with f1_ f2_ f3_; have f4_ := f1_.symm; have f5_ := f3_.symm; clear f1_ f2_ f3_; subst f4_; subst f5_))
                  have q38 : (x8_10 : Int) ≤ ((t155.length : Int) : Int) := of_decide_eq_true (by first | (with_reducible assumption) | assumption)
                  obtain ⟨i038, hi038, _, hsz38, _⟩ := info_parts info3
                  have hroom38 : t155.length ≤ co39 := (Kd.R_reads' HO157.out).2.1
                  have hC38 : Kd.C (Kd.int .i64) _ Ao39 t155.length t155 := (Kd.R_reads' HO157.out).2.2
                  have q038 : (0 : Int) ≤ (x8_10 : Int) := of_decide_eq_true (by first | (with_reducible assumption) | assumption)
                  have hcut38 := cut_from (P := Try.prog) 46 3 .i64 Try.underlying46 hi038 1 hsz38 Ao39 t155.length co39 x8_10 q038 q38
                  have hr38 := Kd.C_drop (m := (x8_10 : Int).toNat) (c := co39) hC38 (by omega) hroom38
                  obtain ⟨A38, hA38⟩ : ∃ A1, A1 = (if co39 = (x8_10 : Int).toNat then Ao39 else (Ao39 : Option Addr).map (·.add ((x8_10 : Int).toNat * 1))) := ⟨_, rfl⟩
                  obtain ⟨c38, hc38⟩ : ∃ c1, c1 = co39 - (x8_10 : Int).toNat := ⟨_, rfl⟩
                  have hy38 : y169.length = t155.length - (x8_10 : Int).toNat := (by rw [Ny169.out, List.length_drop] <;> omega)
                  rw [show (t155).drop (x8_10 : Int).toNat = y169 from Ny169.out.symm] at hr38
                  replace hr38 : Kd.C (Kd.int .i64) _ A38 y169.length y169 := (by rw [hA38]; exact hr38)
                  rw [← hy38, ← hA38, ← hc38] at hcut38
                  have HR172 := Aside0.mk hr38
                  have HC172 := Aside0.mk (show y169.length ≤ c38 from by rw [hy38, hc38]; exact Nat.sub_le_sub_right hroom38 _)
                  have KC38 := Aside0.mk hc38
                  clear hr38 hC38 hroom38 hi038 hsz38 hc38
                  have KY38 := Aside0.mk hy38
                  have KA38 := Aside0.mk hA38
                  clear hy38 hA38
                  have KL38 := Aside0.mk (show (x8_10 : Int).toNat ≤ t155.length from by omega)
                  replace q38 := eq_true q38
                  have q40 : (x8_10 : Int) ≤ ((t155.length : Int) : Int) := of_decide_eq_true (by first | (with_reducible assumption) | assumption)
                  obtain ⟨i040, hi040, _, hsz40, _⟩ := info_parts info3
                  have hroom40 : t155.length ≤ co39 := (Kd.R_reads' HO157.out).2.1
                  have hC40 : Kd.C (Kd.int .i64) _ Ao39 t155.length t155 := (Kd.R_reads' HO157.out).2.2
                  have hcut40 := cut_to (P := Try.prog) 46 3 .i64 Try.underlying46 hi040 Ao39 t155.length co39 x8_10 (of_decide_eq_true (by first | (with_reducible assumption) | assumption)) q40 hroom40
                  have hr40 := Kd.C_take (m := (x8_10 : Int).toNat) hC40 (by omega)
                  have hy40 : y176.length = (x8_10 : Int).toNat := (by rw [Ny176.out, List.length_take]; omega)
                  rw [← Ny176.out] at hr40
                  rw [← hy40] at hcut40
                  have HR179 := Aside0.mk hr40
                  have HC179 := Aside0.mk (show y176.length ≤ co39 from by omega)
                  clear hr40 hC40 hroom40 hi040 hsz40
                  have KY40 := Aside0.mk hy40
                  clear hy40
                  have KL40 := Aside0.mk (show (x8_10 : Int).toNat ≤ t155.length from by omega)
                  replace q40 := eq_true q40
                  refine start_ (n := 16) (S := fun w' => True) (ds := []) #[false, false, false, false, false, false, false, false, false, false, false, false, false, false, false, false] (by kernel_rfl) rfl rfl trivial (fun hHeld => ?_); refine with_tabW des_Keys.tab12 des_Keys.bits12 (fun HT_ HW_ => ?_)
                  generalize w33.drew = w34 at HO_4 HO_5 HO_6 HO150 HO157 HR147 HR154 HB HR161 HR165 HR172 HR179 hHeld ⊢
                  refine pure_ (i := 0) (N := some 43) (v := ?_) (a' := ?_) #[true, false, false, false, false, false, false, false, false, false, false, false, false, false, false, false] rfl rfl (any_of HT_.out (by kernel_rfl)) (fun _ _ _ h => h) (Or.inl ⟨by rfl, ?_⟩) ?_ ?_
                  rotate_left
                  · intro w'
                    go_simp
                    with_reducible rfl
                  rotate_left
                  · simp only [Act.put, List.setIfInBounds_toArray, List.set_cons_zero, List.set_cons_succ, i64_w, i32_w]
                    rfl
                  refine pure_ (i := 1) (N := some 44) (v := ?_) (a' := ?_) #[true, true, false, false, false, false, false, false, false, false, false, false, false, false, false, false] rfl rfl (any_of HT_.out (by kernel_rfl)) (fun _ _ _ h => h) (Or.inl ⟨by rfl, ?_⟩) ?_ ?_
                  rotate_left
                  · intro w'
                    go_simp
                    with_reducible rfl
                  rotate_left
                  · simp only [Act.put, List.setIfInBounds_toArray, List.set_cons_zero, List.set_cons_succ, i64_w, i32_w]
                    rfl
                  refine pure_ (i := 2) (N := some 45) (v := ?_) (a' := ?_) #[true, true, true, false, false, false, false, false, false, false, false, false, false, false, false, false] rfl rfl (any_of HT_.out (by kernel_rfl)) (fun _ _ _ h => h) (Or.inl ⟨by rfl, ?_⟩) ?_ ?_
                  rotate_left
                  · intro w'
                    go_simp
                    with_reducible rfl
                  rotate_left
                  · simp only [Act.put, List.setIfInBounds_toArray, List.set_cons_zero, List.set_cons_succ, i64_w, i32_w]
                    rfl
                  refine pure_ (i := 3) (N := some 46) (v := ?_) (a' := ?_) #[true, true, true, true, false, false, false, false, false, false, false, false, false, false, false, false] rfl rfl (any_of HT_.out (by kernel_rfl)) (fun _ _ _ h => h) (Or.inl ⟨by rfl, ?_⟩) ?_ ?_
                  rotate_left
                  · intro w'
                    go_simp
                    with_reducible rfl
                  rotate_left
                  · simp only [Act.put, List.setIfInBounds_toArray, List.set_cons_zero, List.set_cons_succ, i64_w, i32_w]
                    rfl
                  refine pure_ (i := 4) (N := some 47) (v := ?_) (a' := ?_) #[true, true, true, true, true, false, false, false, false, false, false, false, false, false, false, false] rfl rfl (any_of HT_.out (by kernel_rfl)) (fun _ _ _ h => h) (Or.inl ⟨by rfl, ?_⟩) ?_ ?_
                  rotate_left
                  · intro w'
                    go_simp
                    with_reducible rfl
                  rotate_left
                  · simp only [Act.put, List.setIfInBounds_toArray, List.set_cons_zero, List.set_cons_succ, i64_w, i32_w]
                    rfl
                  refine pure_ (i := 5) (N := some 48) (v := ?_) (a' := ?_) #[true, true, true, true, true, true, false, false, false, false, false, false, false, false, false, false] rfl rfl (any_of HT_.out (by kernel_rfl)) (fun _ _ _ h => h) (Or.inl ⟨by rfl, ?_⟩) ?_ ?_
                  rotate_left
                  · intro w'
                    go_simp
                    with_reducible rfl
                  rotate_left
                  · simp only [Act.put, List.setIfInBounds_toArray, List.set_cons_zero, List.set_cons_succ, i64_w, i32_w]
                    rfl
                  refine pure_ (i := 7) (N := some 50) (v := ?_) (a' := ?_) #[true, true, true, true, true, true, false, true, false, false, false, false, false, false, false, false] rfl rfl (any_of HT_.out (by kernel_rfl)) (fun _ _ _ h => h) (Or.inl ⟨by rfl, ?_⟩) ?_ ?_
                  rotate_left
                  · intro w'
                    go_simp
                    with_reducible rfl
                  rotate_left
                  · simp only [Act.put, List.setIfInBounds_toArray, List.set_cons_zero, List.set_cons_succ, i64_w, i32_w]
                    rfl
                  refine pure_ (i := 8) (N := some 51) (v := ?_) (a' := ?_) #[true, true, true, true, true, true, false, true, true, false, false, false, false, false, false, false] rfl rfl (any_of HT_.out (by kernel_rfl)) (fun _ _ _ h => h) (Or.inl ⟨by rfl, ?_⟩) ?_ ?_
                  rotate_left
                  · intro w'
                    go_simp
                    with_reducible rfl
                  rotate_left
                  · simp only [Act.put, List.setIfInBounds_toArray, List.set_cons_zero, List.set_cons_succ, i64_w, i32_w]
                    rfl
                  refine pure_ (i := 9) (N := some 52) (v := ?_) (a' := ?_) #[true, true, true, true, true, true, false, true, true, true, false, false, false, false, false, false] rfl rfl (any_of HT_.out (by kernel_rfl)) (fun _ _ _ h => h) (Or.inl ⟨by rfl, ?_⟩) ?_ ?_
                  rotate_left
                  · intro w'
                    go_simp
                    with_reducible rfl
                  rotate_left
                  · simp only [Act.put, List.setIfInBounds_toArray, List.set_cons_zero, List.set_cons_succ, i64_w, i32_w]
                    rfl
                  refine pure_ (i := 11) (N := some 54) (v := ?_) (a' := ?_) #[true, true, true, true, true, true, false, true, true, true, false, true, false, false, false, false] rfl rfl (any_of HT_.out (by kernel_rfl)) (fun _ _ _ h => h) (Or.inl ⟨by rfl, ?_⟩) ?_ ?_
                  rotate_left
                  · intro w'
                    go_simp
                    with_reducible rfl
                  rotate_left
                  · simp only [Act.put, List.setIfInBounds_toArray, List.set_cons_zero, List.set_cons_succ, i64_w, i32_w]
                    rfl
                  refine pure_ (i := 12) (N := some 55) (v := ?_) (a' := ?_) #[true, true, true, true, true, true, false, true, true, true, false, true, true, false, false, false] rfl rfl (any_of HT_.out (by kernel_rfl)) (fun _ _ _ h => h) (Or.inl ⟨by rfl, ?_⟩) ?_ ?_
                  rotate_left
                  · intro w'
                    go_simp
                    with_reducible rfl
                  rotate_left
                  · simp only [Act.put, List.setIfInBounds_toArray, List.set_cons_zero, List.set_cons_succ, i64_w, i32_w]
                    rfl
                  refine pure_ (i := 13) (N := some 56) (v := ?_) (a' := ?_) #[true, true, true, true, true, true, false, true, true, true, false, true, true, true, false, false] rfl rfl (any_of HT_.out (by kernel_rfl)) (fun _ _ _ h => h) (Or.inl ⟨by rfl, ?_⟩) ?_ ?_
                  rotate_left
                  · intro w'
                    go_simp
                    with_reducible rfl
                  rotate_left
                  · simp only [Act.put, List.setIfInBounds_toArray, List.set_cons_zero, List.set_cons_succ, i64_w, i32_w]
                    rfl
                  refine one_ (i := 6) (N := some 49) #[true, true, true, true, true, true, true, true, true, true, false, true, true, true, false, false] rfl rfl (one_of HT_.out (by kernel_rfl)) (by decide) (fun K hK => ?_)
                  refine Go.Proofs.Ytnbopkmhakfmmaa.QRows.Q_append_rows_step .i64 (w0 := w) w.heap.size (.tmp 45) (.tmp 48) 46 3 (.int .i64 0) 8 rfl Try.underlying46 info3 rfl (by omega) (.slice A35 y158.length c35) (.slice Ao36 t148.length co36) y158 y162 _ _ _ (fun k_ => some k_ ≠ (.slice Ao30 x4_1.length co30 : Value).ownBlock ∧ some k_ ≠ (v139 : Value).ownBlock ∧ some k_ ≠ (.slice Ao39 t155.length co39 : Value).ownBlock) rfl rfl (Go.Proofs.Ytnbopkmhakfmmaa.QRows.cut_own KA35.out) ?aO ?aR ?aF ?aB ?aS ?aL (by rfl) ?_
                  (case aR => repeat (first | exact (by repeat (first | (with_reducible exact HR165.out) | (with_reducible refine Kd.C_alloc ?_ _) | (with_reducible refine Kd.C_drewN ?_ _) | (with_reducible refine Kd.C_drew ?_) | exact HR165.out)) | (with_reducible refine Kd.C_alloc ?_ _) | (with_reducible refine Kd.C_drewN ?_ _) | (with_reducible refine Kd.C_drew ?_)))
                  (case aB => exact HB.out)
                  (case aF => exact (fun k_ hk => ⟨Kd.fresh' (Kd.Q_lt HO_4.out) k_ hk, Kd.fresh' (Kd.R_lt HO_5.out) k_ hk, Kd.fresh' (Kd.R_lt HO157.out) k_ hk⟩))
                  (case aO => exact (Go.Proofs.Ytnbopkmhakfmmaa.QRows.Q_cut (Kd.R_mono HO150.out (fun _ hk => ⟨hk.1.1.2, ⟨hk.1.2, hk.2⟩⟩)) KL35.out Ny158.out KA35.out KC35.out))
                  (case aS => exact (below_size HB.out))
                  (case aL => have := LMc21.out; have hlx_ := KY35.out; omega)
                  intro v167 w41 ho hb hg hat
                  rw [← Ny166.out] at ho
                  have n0_ := Aside0.mk (Kd.Q_after (ok := (fun k_ => some k_ ≠ (v139 : Value).ownBlock ∧ some k_ ≠ (.slice Ao39 t155.length co39 : Value).ownBlock)) (Kd.Q_mono HO_4.out (fun _ hk => ⟨⟨hk.1.1, hk.2⟩, hk.1.2⟩)) hg hat)
                  have n1_ := Aside0.mk (Kd.R_after (ok := (fun k_ => some k_ ≠ (.slice Ao30 x4_1.length co30 : Value).ownBlock ∧ some k_ ≠ (.slice Ao39 t155.length co39 : Value).ownBlock)) (Kd.R_mono HO_5.out (fun _ hk => ⟨⟨hk.1.1, hk.2⟩, hk.1.2⟩)) hg hat)
                  have n2_ := Aside0.mk (Kd.S_over' HO_6.out (Kd.R_typed HO150.out) (by decide) hg)
                  have n3_ := Aside0.mk (Kd.R_after (ok := (fun k_ => some k_ ≠ (.slice Ao30 x4_1.length co30 : Value).ownBlock ∧ some k_ ≠ (v139 : Value).ownBlock)) (Kd.R_mono HO157.out (fun _ hk => ⟨⟨hk.1.1.2, hk.1.2⟩, hk.2⟩)) hg hat)
                  have n4_ := Aside0.mk (hb)
                  have n5_ := Aside0.mk ((show Kd.C (Kd.int .i64) w41 Ao30 y144.length y144 from by rw [Ny144.out]; exact Kd.C_take (m := 28) ((Kd.Q_reads' (Kd.Q_after (ok := (fun k_ => some k_ ≠ (v139 : Value).ownBlock ∧ some k_ ≠ (.slice Ao39 t155.length co39 : Value).ownBlock)) (Kd.Q_mono HO_4.out (fun _ hk => ⟨⟨hk.1.1, hk.2⟩, hk.1.2⟩)) hg hat)).2.2) KL29.out))
                  have n6_ := Aside0.mk ((show Kd.C (Kd.int .i64) w41 A31 y151.length y151 from by rw [Ny151.out, KA31.out]; exact Kd.C_drop (m := 28) (c := co30) ((Kd.Q_reads' (Kd.Q_after (ok := (fun k_ => some k_ ≠ (v139 : Value).ownBlock ∧ some k_ ≠ (.slice Ao39 t155.length co39 : Value).ownBlock)) (Kd.Q_mono HO_4.out (fun _ hk => ⟨⟨hk.1.1, hk.2⟩, hk.1.2⟩)) hg hat)).2.2) KL31.out ((Kd.Q_reads' (Kd.Q_after (ok := (fun k_ => some k_ ≠ (v139 : Value).ownBlock ∧ some k_ ≠ (.slice Ao39 t155.length co39 : Value).ownBlock)) (Kd.Q_mono HO_4.out (fun _ hk => ⟨⟨hk.1.1, hk.2⟩, hk.1.2⟩)) hg hat)).2.1)))
                  have n7_ := Aside0.mk ((show Kd.C (Kd.int .i64) w41 A38 y169.length y169 from by rw [Ny169.out, KA38.out]; exact Kd.C_drop (m := (x8_10 : Int).toNat) (c := co39) ((Kd.R_reads' (Kd.R_after (ok := (fun k_ => some k_ ≠ (.slice Ao30 x4_1.length co30 : Value).ownBlock ∧ some k_ ≠ (v139 : Value).ownBlock)) (Kd.R_mono HO157.out (fun _ hk => ⟨⟨hk.1.1.2, hk.1.2⟩, hk.2⟩)) hg hat)).2.2) KL38.out ((Kd.R_reads' (Kd.R_after (ok := (fun k_ => some k_ ≠ (.slice Ao30 x4_1.length co30 : Value).ownBlock ∧ some k_ ≠ (v139 : Value).ownBlock)) (Kd.R_mono HO157.out (fun _ hk => ⟨⟨hk.1.1.2, hk.1.2⟩, hk.2⟩)) hg hat)).2.1)))
                  have n8_ := Aside0.mk ((show Kd.C (Kd.int .i64) w41 Ao39 y176.length y176 from by rw [Ny176.out]; exact Kd.C_take (m := (x8_10 : Int).toNat) ((Kd.R_reads' (Kd.R_after (ok := (fun k_ => some k_ ≠ (.slice Ao30 x4_1.length co30 : Value).ownBlock ∧ some k_ ≠ (v139 : Value).ownBlock)) (Kd.R_mono HO157.out (fun _ hk => ⟨⟨hk.1.1.2, hk.1.2⟩, hk.2⟩)) hg hat)).2.2) KL40.out))
                  have n9_ := Aside0.mk (ho)
                  clear HO_4
                  clear HO_5
                  clear HO_6
                  clear HO157
                  clear HB
                  clear HR147
                  clear HR154
                  clear HR172
                  clear HR179
                  clear HO150
                  have HO_4 := n0_
                  have HO_5 := n1_
                  have HO_6 := n2_
                  have HO157 := n3_
                  have HB := n4_
                  have HR147 := n5_
                  have HR154 := n6_
                  have HR172 := n7_
                  have HR179 := n8_
                  have HO168 := n9_
                  clear n0_ n1_ n2_ n3_ n4_ n5_ n6_ n7_ n8_ n9_
                  clear ho hb hg hat
                  refine hK.out _ _ trivial (fun hHeld => ?_)
                  clear hK K
                  refine norm_ (a' := ?_) ?_ ?_
                  rotate_left
                  · show Act.put _ (some 49) _ = _
                    simp only [Act.put, List.setIfInBounds_toArray, List.set_cons_zero, List.set_cons_succ, i64_w, i32_w]
                    rfl
                  refine one_ (i := 10) (N := some 53) #[true, true, true, true, true, true, true, true, true, true, true, true, true, true, false, false] rfl rfl (one_of HT_.out (by kernel_rfl)) (by decide) (fun K hK => ?_)
                  refine Go.Proofs.Ytnbopkmhakfmmaa.QRows.Q_append_rows_step .i64 (w0 := w) w.heap.size (.tmp 49) (.tmp 52) 46 3 (.int .i64 0) 8 rfl Try.underlying46 info3 rfl (by omega) v167 v167 y166 y169 _ _ _ (fun k_ => some k_ ≠ (.slice Ao30 x4_1.length co30 : Value).ownBlock ∧ some k_ ≠ (v139 : Value).ownBlock ∧ some k_ ≠ (.slice Ao39 t155.length co39 : Value).ownBlock) rfl rfl rfl ?aO ?aR ?aF ?aB ?aS ?aL (by rfl) ?_
                  (case aR => repeat (first | exact (by repeat (first | (with_reducible exact HR172.out) | (with_reducible refine Kd.C_alloc ?_ _) | (with_reducible refine Kd.C_drewN ?_ _) | (with_reducible refine Kd.C_drew ?_) | exact HR172.out)) | (with_reducible refine Kd.C_alloc ?_ _) | (with_reducible refine Kd.C_drewN ?_ _) | (with_reducible refine Kd.C_drew ?_)))
                  (case aB => exact HB.out)
                  (case aF => exact (fun k_ hk => ⟨Kd.fresh' (Kd.Q_lt HO_4.out) k_ hk, Kd.fresh' (Kd.R_lt HO_5.out) k_ hk, Kd.fresh' (Kd.R_lt HO157.out) k_ hk⟩))
                  (case aO => exact HO168.out)
                  (case aS => exact (below_size HB.out))
                  (case aL => have := LMc24.out; omega)
                  intro v174 w42 ho hb hg hat
                  rw [← Ny173.out] at ho
                  have n0_ := Aside0.mk (Kd.Q_after (ok := (fun k_ => some k_ ≠ (v139 : Value).ownBlock ∧ some k_ ≠ (.slice Ao39 t155.length co39 : Value).ownBlock)) HO_4.out hg hat)
                  have n1_ := Aside0.mk (Kd.R_after (ok := (fun k_ => some k_ ≠ (.slice Ao30 x4_1.length co30 : Value).ownBlock ∧ some k_ ≠ (.slice Ao39 t155.length co39 : Value).ownBlock)) HO_5.out hg hat)
                  have n2_ := Aside0.mk (Kd.S_over' HO_6.out (Kd.Q_typed HO168.out) (by decide) hg)
                  have n3_ := Aside0.mk (Kd.R_after (ok := (fun k_ => some k_ ≠ (.slice Ao30 x4_1.length co30 : Value).ownBlock ∧ some k_ ≠ (v139 : Value).ownBlock)) HO157.out hg hat)
                  have n4_ := Aside0.mk (hb)
                  have n5_ := Aside0.mk ((show Kd.C (Kd.int .i64) w42 Ao30 y144.length y144 from by rw [Ny144.out]; exact Kd.C_take (m := 28) ((Kd.Q_reads' (Kd.Q_after (ok := (fun k_ => some k_ ≠ (v139 : Value).ownBlock ∧ some k_ ≠ (.slice Ao39 t155.length co39 : Value).ownBlock)) HO_4.out hg hat)).2.2) KL29.out))
                  have n6_ := Aside0.mk ((show Kd.C (Kd.int .i64) w42 A31 y151.length y151 from by rw [Ny151.out, KA31.out]; exact Kd.C_drop (m := 28) (c := co30) ((Kd.Q_reads' (Kd.Q_after (ok := (fun k_ => some k_ ≠ (v139 : Value).ownBlock ∧ some k_ ≠ (.slice Ao39 t155.length co39 : Value).ownBlock)) HO_4.out hg hat)).2.2) KL31.out ((Kd.Q_reads' (Kd.Q_after (ok := (fun k_ => some k_ ≠ (v139 : Value).ownBlock ∧ some k_ ≠ (.slice Ao39 t155.length co39 : Value).ownBlock)) HO_4.out hg hat)).2.1)))
                  have n7_ := Aside0.mk ((show Kd.C (Kd.int .i64) w42 A38 y169.length y169 from by rw [Ny169.out, KA38.out]; exact Kd.C_drop (m := (x8_10 : Int).toNat) (c := co39) ((Kd.R_reads' (Kd.R_after (ok := (fun k_ => some k_ ≠ (.slice Ao30 x4_1.length co30 : Value).ownBlock ∧ some k_ ≠ (v139 : Value).ownBlock)) HO157.out hg hat)).2.2) KL38.out ((Kd.R_reads' (Kd.R_after (ok := (fun k_ => some k_ ≠ (.slice Ao30 x4_1.length co30 : Value).ownBlock ∧ some k_ ≠ (v139 : Value).ownBlock)) HO157.out hg hat)).2.1)))
                  have n8_ := Aside0.mk ((show Kd.C (Kd.int .i64) w42 Ao39 y176.length y176 from by rw [Ny176.out]; exact Kd.C_take (m := (x8_10 : Int).toNat) ((Kd.R_reads' (Kd.R_after (ok := (fun k_ => some k_ ≠ (.slice Ao30 x4_1.length co30 : Value).ownBlock ∧ some k_ ≠ (v139 : Value).ownBlock)) HO157.out hg hat)).2.2) KL40.out))
                  have n9_ := Aside0.mk (ho)
                  clear HO_4
                  clear HO_5
                  clear HO_6
                  clear HO157
                  clear HB
                  clear HR147
                  clear HR154
                  clear HR172
                  clear HR179
                  clear HO168
                  have HO_4 := n0_
                  have HO_5 := n1_
                  have HO_6 := n2_
                  have HO157 := n3_
                  have HB := n4_
                  have HR147 := n5_
                  have HR154 := n6_
                  have HR172 := n7_
                  have HR179 := n8_
                  have HO175 := n9_
                  clear n0_ n1_ n2_ n3_ n4_ n5_ n6_ n7_ n8_ n9_
                  clear ho hb hg hat
                  refine hK.out _ _ trivial (fun hHeld => ?_)
                  clear hK K
                  refine norm_ (a' := ?_) ?_ ?_
                  rotate_left
                  · show Act.put _ (some 53) _ = _
                    simp only [Act.put, List.setIfInBounds_toArray, List.set_cons_zero, List.set_cons_succ, i64_w, i32_w]
                    rfl
                  refine one_ (i := 14) (N := some 57) #[true, true, true, true, true, true, true, true, true, true, true, true, true, true, true, false] rfl rfl (one_of HT_.out (by kernel_rfl)) (by decide) (fun K hK => ?_)
                  refine Go.Proofs.Ytnbopkmhakfmmaa.QRows.Q_append_rows_step .i64 (w0 := w) w.heap.size (.tmp 53) (.tmp 56) 46 3 (.int .i64 0) 8 rfl Try.underlying46 info3 rfl (by omega) v174 v174 y173 y176 _ _ _ (fun k_ => some k_ ≠ (.slice Ao30 x4_1.length co30 : Value).ownBlock ∧ some k_ ≠ (v139 : Value).ownBlock ∧ some k_ ≠ (.slice Ao39 t155.length co39 : Value).ownBlock) rfl rfl rfl ?aO ?aR ?aF ?aB ?aS ?aL (by rfl) ?_
                  (case aR => repeat (first | exact (by repeat (first | (with_reducible exact HR179.out) | (with_reducible refine Kd.C_alloc ?_ _) | (with_reducible refine Kd.C_drewN ?_ _) | (with_reducible refine Kd.C_drew ?_) | exact HR179.out)) | (with_reducible refine Kd.C_alloc ?_ _) | (with_reducible refine Kd.C_drewN ?_ _) | (with_reducible refine Kd.C_drew ?_)))
                  (case aB => exact HB.out)
                  (case aF => exact (fun k_ hk => ⟨Kd.fresh' (Kd.Q_lt HO_4.out) k_ hk, Kd.fresh' (Kd.R_lt HO_5.out) k_ hk, Kd.fresh' (Kd.R_lt HO157.out) k_ hk⟩))
                  (case aO => exact HO175.out)
                  (case aS => exact (below_size HB.out))
                  (case aL => have := LMc27.out; omega)
                  intro v181 w43 ho hb hg hat
                  rw [← Ny180.out] at ho
                  have n0_ := Aside0.mk (Kd.Q_after (ok := (fun k_ => some k_ ≠ (v139 : Value).ownBlock ∧ some k_ ≠ (.slice Ao39 t155.length co39 : Value).ownBlock)) HO_4.out hg hat)
                  have n1_ := Aside0.mk (Kd.R_after (ok := (fun k_ => some k_ ≠ (.slice Ao30 x4_1.length co30 : Value).ownBlock ∧ some k_ ≠ (.slice Ao39 t155.length co39 : Value).ownBlock)) HO_5.out hg hat)
                  have n2_ := Aside0.mk (Kd.S_over' HO_6.out (Kd.Q_typed HO175.out) (by decide) hg)
                  have n3_ := Aside0.mk (Kd.R_after (ok := (fun k_ => some k_ ≠ (.slice Ao30 x4_1.length co30 : Value).ownBlock ∧ some k_ ≠ (v139 : Value).ownBlock)) HO157.out hg hat)
                  have n4_ := Aside0.mk (hb)
                  have n5_ := Aside0.mk ((show Kd.C (Kd.int .i64) w43 Ao30 y144.length y144 from by rw [Ny144.out]; exact Kd.C_take (m := 28) ((Kd.Q_reads' (Kd.Q_after (ok := (fun k_ => some k_ ≠ (v139 : Value).ownBlock ∧ some k_ ≠ (.slice Ao39 t155.length co39 : Value).ownBlock)) HO_4.out hg hat)).2.2) KL29.out))
                  have n6_ := Aside0.mk ((show Kd.C (Kd.int .i64) w43 A31 y151.length y151 from by rw [Ny151.out, KA31.out]; exact Kd.C_drop (m := 28) (c := co30) ((Kd.Q_reads' (Kd.Q_after (ok := (fun k_ => some k_ ≠ (v139 : Value).ownBlock ∧ some k_ ≠ (.slice Ao39 t155.length co39 : Value).ownBlock)) HO_4.out hg hat)).2.2) KL31.out ((Kd.Q_reads' (Kd.Q_after (ok := (fun k_ => some k_ ≠ (v139 : Value).ownBlock ∧ some k_ ≠ (.slice Ao39 t155.length co39 : Value).ownBlock)) HO_4.out hg hat)).2.1)))
                  have n7_ := Aside0.mk ((show Kd.C (Kd.int .i64) w43 A38 y169.length y169 from by rw [Ny169.out, KA38.out]; exact Kd.C_drop (m := (x8_10 : Int).toNat) (c := co39) ((Kd.R_reads' (Kd.R_after (ok := (fun k_ => some k_ ≠ (.slice Ao30 x4_1.length co30 : Value).ownBlock ∧ some k_ ≠ (v139 : Value).ownBlock)) HO157.out hg hat)).2.2) KL38.out ((Kd.R_reads' (Kd.R_after (ok := (fun k_ => some k_ ≠ (.slice Ao30 x4_1.length co30 : Value).ownBlock ∧ some k_ ≠ (v139 : Value).ownBlock)) HO157.out hg hat)).2.1)))
                  have n8_ := Aside0.mk ((show Kd.C (Kd.int .i64) w43 Ao39 y176.length y176 from by rw [Ny176.out]; exact Kd.C_take (m := (x8_10 : Int).toNat) ((Kd.R_reads' (Kd.R_after (ok := (fun k_ => some k_ ≠ (.slice Ao30 x4_1.length co30 : Value).ownBlock ∧ some k_ ≠ (v139 : Value).ownBlock)) HO157.out hg hat)).2.2) KL40.out))
                  have n9_ := Aside0.mk (ho)
                  clear HO_4
                  clear HO_5
                  clear HO_6
                  clear HO157
                  clear HB
                  clear HR147
                  clear HR154
                  clear HR172
                  clear HR179
                  clear HO175
                  have HO_4 := n0_
                  have HO_5 := n1_
                  have HO_6 := n2_
                  have HO157 := n3_
                  have HB := n4_
                  have HR147 := n5_
                  have HR154 := n6_
                  have HR172 := n7_
                  have HR179 := n8_
                  have HO182 := n9_
                  clear n0_ n1_ n2_ n3_ n4_ n5_ n6_ n7_ n8_ n9_
                  clear ho hb hg hat
                  refine hK.out _ _ trivial (fun hHeld => ?_)
                  clear hK K
                  refine norm_ (a' := ?_) ?_ ?_
                  rotate_left
                  · show Act.put _ (some 57) _ = _
                    simp only [Act.put, List.setIfInBounds_toArray, List.set_cons_zero, List.set_cons_succ, i64_w, i32_w]
                    rfl
                  refine pure_ (i := 15) (N := some 4) (v := ?_) (a' := ?_) #[true, true, true, true, true, true, true, true, true, true, true, true, true, true, true, true] rfl rfl (any_of HT_.out (by kernel_rfl)) (fun _ _ _ h => h) (Or.inl ⟨by rfl, ?_⟩) ?_ ?_
                  rotate_left
                  · intro w'
                    go_simp
                    with_reducible rfl
                  rotate_left
                  · simp only [Act.put, List.setIfInBounds_toArray, List.set_cons_zero, List.set_cons_succ, i64_w, i32_w]
                    rfl
                  refine done_ (done_of HT_.out (by kernel_rfl)) ?_
                  obtain ⟨Ao44, co44, eo44⟩ := Kd.R_slice HO_5.out
                  subst eo44
                  try go_wp2
                  go_loopg [11, 60] kj10 (fun kq v11 v60 w' => ∃ (x11_4 : List Int) (x60_4 : Int), v60 = .int .i64 x60_4 ∧ Aside0 (des_Keys.l1 kq l0 y180 t136 x6_1 x11_4 x24_1 t136 (t136.length : Int) x60_4 = some (r1, r2)) ∧ Aside0 (kq ≤ kj10) ∧ Aside0 (Kd.Q (Kd.int .i64) 3 w' w.heap.size (fun k_ => some k_ ≠ ((.slice Ao44 t136.length co44) : Value).ownBlock ∧ some k_ ≠ (v11 : Value).ownBlock ∧ some k_ ≠ ((.slice Ao44 t136.length co44) : Value).ownBlock) v181 y180) ∧ Aside0 (Kd.R (Kd.int .i64) 3 w' w.heap.size (fun k_ => some k_ ≠ (v181 : Value).ownBlock ∧ some k_ ≠ (v11 : Value).ownBlock) (.slice Ao44 t136.length co44) t136) ∧ Aside0 (Kd.S (Kd.slice 5 (Kd.int .u8)) 22 w' w.heap.size (fun _ => True) u6 x6_1) ∧ Aside0 (Kd.R (Kd.int .i64) 3 w' w.heap.size (fun k_ => some k_ ≠ (v181 : Value).ownBlock ∧ some k_ ≠ ((.slice Ao44 t136.length co44) : Value).ownBlock ∧ some k_ ≠ ((.slice Ao44 t136.length co44) : Value).ownBlock) v11 x11_4) ∧ Aside0 (Kd.R (Kd.int .i64) 3 w' w.heap.size (fun k_ => some k_ ≠ (v181 : Value).ownBlock ∧ some k_ ≠ (v11 : Value).ownBlock) (.slice Ao44 t136.length co44) t136) ∧ Aside0 (Below w.heap.size w w'))
                  case atStart => exact ⟨(([] : List Int)), (0), (by first | rfl | (simp; done) | (simp [*]; done)), H', ⟨Nat.le_refl _⟩, ⟨by (with_reducible repeat (first | apply Kd.Q_alloc | apply Kd.Q_drewN | apply Kd.Q_drew)); exact Kd.Q_mono HO182.out (fun _ hk => ⟨hk.2.1, ⟨(by simp [Value.ownBlock]), hk.2.1⟩⟩)⟩, ⟨by (with_reducible repeat (first | apply Kd.R_alloc | apply Kd.R_drewN | apply Kd.R_drew)); exact Kd.R_mono HO_5.out (fun _ hk => ⟨hk.2, (by simp [Value.ownBlock])⟩)⟩, ⟨by (with_reducible repeat (first | apply Kd.S_alloc | apply Kd.S_drewN | apply Kd.S_drew)); exact HO_6.out⟩, ⟨by first | exact Kd.R_nil _ _ _ _ _ | exact Kd.N_nil _ _ _ _ _ | exact Kd.V_nil _ _ _ _ _ | exact Kd.Q_nil _ _ _ _ _ | exact Kd.S_nil _ _ _ _ _⟩, ⟨by (with_reducible repeat (first | apply Kd.R_alloc | apply Kd.R_drewN | apply Kd.R_drew)); exact Kd.R_mono HO_5.out (fun _ hk => ⟨hk.2, (by simp [Value.ownBlock])⟩)⟩, ⟨by repeat (first | (with_reducible first | exact HB.out | apply below_alloc | apply pw_below_drewN | apply below_drew1) | exact HB.out)⟩⟩
                  case round =>
                    clear H'
                    try clear c1
                    try clear c2
                    try clear p2
                    try clear q2
                    try clear c3
                    try clear q3
                    try clear q4
                    try clear c21
                    try clear c22
                    try clear c22b0
                    try clear c23
                    try clear c23b0
                    try clear c23b1
                    try clear c24
                    try clear c25
                    try clear c25b0
                    try clear c26
                    try clear c26b0
                    try clear c27
                    try clear q29
                    try clear c31
                    try clear q31
                    try clear c35
                    try clear q35
                    try clear q37
                    try clear c38
                    try clear q38
                    try clear q40
                    try clear q035
                    try clear q038
                    try clear q29
                    try clear q31
                    try clear q35
                    try clear q37
                    try clear q38
                    try clear q40
                    obtain ⟨x11_4, x60_4, rfl, HA, HK4, HO_4, HO_5, HO_6, HO_11, HO_58, HB⟩ := hrel
                    cases gk with
                    | zero => exact absurd HA.out (by simp [des_Keys.l1])
                    | succ k4 =>
                      have H := HA.out
                      clear HA
                      simp only [des_Keys.l1] at H
                      by_cases c45 : x60_4 < (t136.length : Int)
                      · rw [if_pos c45] at H
                        have c45b0 : decide (x60_4 < (t136.length : Int)) = true := decide_eq_true c45
                        clear c45
                        by_cases c46 : 0 ≤ x60_4
                        rotate_left
                        · rw [if_neg c46] at H
                          exact absurd H (by simp)
                        rw [if_pos c46] at H
                        have c46b0 : decide (0 ≤ x60_4) = true := decide_eq_true c46
                        clear c46
                        by_cases c47 : x60_4 < (t136.length : Int)
                        rotate_left
                        · rw [if_neg c47] at H
                          exact absurd H (by simp)
                        rw [if_pos c47] at H
                        have c47b0 : decide (x60_4 < (t136.length : Int)) = true := decide_eq_true c47
                        clear c47
                        obtain ⟨ji48, hji48⟩ : ∃ j_ : Int, (wrap64 ((rd t136 x60_4) - 1)) = j_ := ⟨_, rfl⟩
                        replace H : (if 0 ≤ (ji48) then (if (ji48) < (y180.length : Int) then (if x11_4.length < 17592186044416 then (des_Keys.l1 k4 l0 y180 t136 x6_1 (x11_4 ++ [rd y180 (ji48)]) x24_1 t136 (t136.length : Int) (wrap64 (x60_4 + 1))) else (none)) else (none)) else (none)) = some (r1, r2) := by first | (rw [hji48] at H; exact H) | (simp only [hji48] at H ⊢; exact H)
                        have hji48w : (IntKind.i64.wrap ((rd t136 x60_4) - 1)) = ji48 := (i64_w _).trans hji48
                        by_cases c49 : 0 ≤ (ji48)
                        rotate_left
                        · rw [if_neg c49] at H
                          exact absurd H (by simp)
                        rw [if_pos c49] at H
                        have c49b0 : decide (0 ≤ (ji48)) = true := decide_eq_true c49
                        clear c49
                        by_cases c50 : (ji48) < (y180.length : Int)
                        rotate_left
                        · rw [if_neg c50] at H
                          exact absurd H (by simp)
                        rw [if_pos c50] at H
                        have c50b0 : decide ((ji48) < (y180.length : Int)) = true := decide_eq_true c50
                        clear c50
                        by_cases c51 : x11_4.length < 17592186044416
                        rotate_left
                        · rw [if_neg c51] at H
                          exact absurd H (by simp)
                        rw [if_pos c51] at H
                        have LMc51 := Aside0.mk c51
                        clear c51
                        obtain ⟨y185, hy185⟩ : ∃ y_ : List Int, y_ = (x11_4 ++ [rd y180 (ji48)]) := ⟨_, rfl⟩
                        replace H : (des_Keys.l1 k4 l0 y180 t136 x6_1 y185 x24_1 t136 (t136.length : Int) (wrap64 (x60_4 + 1))) = some (r1, r2) := by first | (rw [hy185]; with_reducible exact H) | (have H2_ := (Option.bind_some _ _).symm.trans H; rw [hy185]; with_reducible exact H2_) | (have H2_ := (Option.bind_some _ _).symm.trans H; with_reducible exact H2_) | with_reducible exact H | (rw [hy185]; exact H) | exact H
                        have Ny185 := Aside0.mk hy185
                        clear hy185
                        have H' := Aside0.mk H
                        clear H
                        have p183 : 0 ≤ (x60_4 : Int) := of_decide_eq_true (by first | (with_reducible assumption) | assumption)
                        have q183 : x60_4 < (t136.length : Int) := of_decide_eq_true (by first | (with_reducible assumption) | assumption)
                        obtain ⟨ad183, e183, hx183_0⟩ := Kd.at_int (Kd.R_reads' HO_58.out).2.2 x60_4 p183 q183
                        cases e183
                        replace p183 := eq_true p183
                        replace q183 := eq_true q183
                        obtain ⟨Ao52, co52, eo52, _⟩ := Kd.Q_slice HO_4.out
                        subst eo52
                        have p184 : 0 ≤ ((ji48) : Int) := of_decide_eq_true (by first | (with_reducible assumption) | assumption)
                        have q184 : (ji48) < (y180.length : Int) := of_decide_eq_true (by first | (with_reducible assumption) | assumption)
                        obtain ⟨ad184, e184, hx184_0⟩ := Kd.at_int (Kd.Q_reads' HO_4.out).2.2 (ji48) p184 q184
                        cases e184
                        replace p184 := eq_true p184
                        replace q184 := eq_true q184
                        go_wp2_with (first | ((with_reducible refine gate_builtin (b := .append) (xs := #[.tmp 64, .tmp 70]) rfl ?_); at_builtin; refine Kd.R_append (Kd.int .i64) (w0 := w) w.heap.size rfl (.tmp 64) (.tmp 70) 46 3 (.int .i64 0) 8 rfl Try.underlying46 info3 rfl (by decide) (by omega) u11 x11_4 (rd y180 (ji48)) [.int .i64 (rd y180 (ji48))] (fun k_ => some k_ ≠ (.slice (some ad184) y180.length co52 : Value).ownBlock ∧ some k_ ≠ (.slice (some ad183) t136.length co44 : Value).ownBlock ∧ some k_ ≠ (.slice (some ad183) t136.length co44 : Value).ownBlock) (fun _ => False) rfl rfl ?aP (fun _ hk => hk.elim) ?aF ?aO ?aB ?aS ?aL ?_; (case aP => exact rfl); (case aB => exact HB.out); (case aF => exact (fun k_ hk => ⟨Kd.fresh' (Kd.Q_lt HO_4.out) k_ hk, Kd.fresh' (Kd.R_lt HO_5.out) k_ hk, Kd.fresh' (Kd.R_lt HO_58.out) k_ hk⟩)); (case aO => exact HO_11.out); (case aS => exact (below_size HB.out)); (case aL => have := LMc51.out; omega); intro v186 w53 ho hb hg hat; rw [← Ny185.out] at ho; have n0_ := Aside0.mk (Kd.Q_after (ok := (fun k_ => some k_ ≠ (.slice (some ad183) t136.length co44 : Value).ownBlock ∧ some k_ ≠ (.slice (some ad183) t136.length co44 : Value).ownBlock)) (Kd.Q_mono HO_4.out (fun _ hk => ⟨⟨hk.1, hk.2.2⟩, hk.2.1⟩)) hg hat); have n1_ := Aside0.mk (Kd.R_after (ok := (fun k_ => some k_ ≠ (.slice (some ad184) y180.length co52 : Value).ownBlock)) HO_5.out hg hat); have n2_ := Aside0.mk (Kd.S_over' HO_6.out (Kd.R_typed HO_11.out) (by decide) hg); have n3_ := Aside0.mk (Kd.R_after (ok := (fun k_ => some k_ ≠ (.slice (some ad184) y180.length co52 : Value).ownBlock)) HO_58.out hg hat); have n4_ := Aside0.mk (hb); have n5_ := Aside0.mk (ho); clear HO_4; clear HO_5; clear HO_6; clear HO_58; clear HB; clear HO_11; have HO_4 := n0_; have HO_5 := n1_; have HO_6 := n2_; have HO_58 := n3_; have HB := n4_; have HO187 := n5_; clear n0_ n1_ n2_ n3_ n4_ n5_; clear ho hb hg hat))
                        go_roundg k4
                        case measure => have := HK1.out; have := HJ7.out; have := HJ10.out; have := HK4.out; omega
                        case rel => exact ⟨(y185), (wrap64 (x60_4 + 1)), (by first | rfl | (simp; done) | (simp [*]; done)), H', ⟨by have := HK1.out; have := HJ7.out; have := HJ10.out; have := HK4.out; omega⟩, ⟨by (with_reducible repeat (first | apply Kd.Q_alloc | apply Kd.Q_drewN | apply Kd.Q_drew)); exact Kd.Q_mono HO_4.out (fun _ hk => ⟨hk.1.1, ⟨hk.2, hk.1.2⟩⟩)⟩, ⟨by (with_reducible repeat (first | apply Kd.R_alloc | apply Kd.R_drewN | apply Kd.R_drew)); exact HO_5.out⟩, ⟨by (with_reducible repeat (first | apply Kd.S_alloc | apply Kd.S_drewN | apply Kd.S_drew)); exact HO_6.out⟩, ⟨by (with_reducible repeat (first | apply Kd.R_alloc | apply Kd.R_drewN | apply Kd.R_drew)); exact HO187.out⟩, ⟨by (with_reducible repeat (first | apply Kd.R_alloc | apply Kd.R_drewN | apply Kd.R_drew)); exact HO_58.out⟩, ⟨by repeat (first | (with_reducible first | exact HB.out | apply below_alloc | apply pw_below_drewN | apply below_drew1) | exact HB.out)⟩⟩
                      · rw [if_neg c45] at H
                        have c45b0 : decide (x60_4 < (t136.length : Int)) = false := decide_eq_false c45
                        clear c45
                        replace H := Option.bind_eq_some_iff.mp H
                        obtain ⟨⟨t188, t189⟩, A540, H⟩ := H
                        replace H : (if x6_1.length < 5864062014805 then (des_Keys.l0 k4 l0 y180 t136 (x6_1 ++ [t188]) (wrap64 (x24_1 + 1))) else (none)) = some (r1, r2) := H
                        have A54 := Aside0.mk A540
                        clear A540
                        by_cases c55 : x6_1.length < 5864062014805
                        rotate_left
                        · rw [if_neg c55] at H
                          exact absurd H (by simp)
                        rw [if_pos c55] at H
                        have LMc55 := Aside0.mk c55
                        clear c55
                        obtain ⟨y192, hy192⟩ : ∃ y_ : List (List Int), y_ = (x6_1 ++ [t188]) := ⟨_, rfl⟩
                        replace H : (des_Keys.l0 k4 l0 y180 t136 y192 (wrap64 (x24_1 + 1))) = some (r1, r2) := by first | (rw [hy192]; with_reducible exact H) | (have H2_ := (Option.bind_some _ _).symm.trans H; rw [hy192]; with_reducible exact H2_) | (have H2_ := (Option.bind_some _ _).symm.trans H; with_reducible exact H2_) | with_reducible exact H | (rw [hy192]; exact H) | exact H
                        have Ny192 := Aside0.mk hy192
                        clear hy192
                        have H' := Aside0.mk H
                        clear H
                        obtain ⟨Ao56, co56, eo56⟩ := Kd.R_slice HO_11.out
                        subst eo56
                        go_wp2_with (first | ((with_reducible refine gate_callee (f := 26) rfl ?_); refine goesL_ (some 76) rfl rfl Try.func26 (by kernel_rfl) rfl #[.slice A0 l0.length c0, .slice Ao56 x11_4.length co56] rfl (by (try simp only [List.map_toArray, List.map_cons, List.map_nil]); first | done | rfl | (simp only [List.length_drop, List.length_take]; rfl)) ?_; (with_reducible refine (bits_Permute.calls k4 _ _ l0 _ _ x11_4 t188 t189 _ ?side1 ?side2 ?side3 ?side4 A54.out).mono ?_); (case side1 => repeat (first | exact (Kd.C_below HR0.out HB.out) | (with_reducible refine Kd.C_alloc ?_ _) | (with_reducible refine Kd.C_drewN ?_ _) | (with_reducible refine Kd.C_drew ?_))); (case side2 => exact HC0.out); (case side3 => repeat (first | exact (Kd.R_reads' HO_11.out).2.2 | (with_reducible refine Kd.C_alloc ?_ _) | (with_reducible refine Kd.C_drewN ?_ _) | (with_reducible refine Kd.C_drew ?_))); (case side4 => exact (Kd.R_reads' HO_11.out).2.1); rintro e w57 ⟨v190, rfl, ho0, hb⟩; refine ⟨_, rfl, ?_⟩; have n0_ := Aside0.mk (Kd.Q_below HO_4.out hb); have n1_ := Aside0.mk (Kd.R_below HO_5.out hb); have n2_ := Aside0.mk (Kd.S_elder' HO_6.out (Kd.R_base ho0) hb); have n3_ := Aside0.mk (Kd.R_below HO_11.out hb); have n4_ := Aside0.mk (Kd.R_below HO_58.out hb); have n5_ := Aside0.mk (Kd.R_lower ho0 (below_size HB.out)); have n6_ := Aside0.mk (below_step HB.out hb); clear HO_4; clear HO_5; clear HO_6; clear HO_11; clear HO_58; clear HB; have HO_4 := n0_; have HO_5 := n1_; have HO_6 := n2_; have HO_11 := n3_; have HO_58 := n4_; have HO191 := n5_; have HB := n6_; clear n0_ n1_ n2_ n3_ n4_ n5_ n6_; (try clear hb); (try clear hb2); (try clear hk); (try clear hi); (try clear ho0); obtain ⟨Ao59, co59, eo59⟩ := Kd.R_slice HO191.out; subst eo59) | ((with_reducible refine gate_builtin (b := .append) (xs := #[.tmp 79, .tmp 81]) rfl ?_); at_builtin; refine Kd.S_append (Kd.slice 5 (Kd.int .u8)) (w0 := w) w.heap.size rfl (.tmp 79) (.tmp 81) 24 22 (.slice none 0 0) 24 rfl Try.underlying24 info22 rfl (by decide) (by omega) u6 x6_1 t188 [.slice Ao59 t188.length co59] (fun _ => True) (fun k_ => some k_ = (.slice Ao59 t188.length co59 : Value).ownBlock) rfl rfl ?aP (fun k_ hk_ => ((Kd.R_mono (ok' := fun k_ => ((fun _ => True)) k_ ∧ some k_ ≠ (u6 : Value).ownBlock) (Kd.R_apart' (HO191.out) (Kd.S_typed HO_6.out) (by decide)) (fun k_ hk => ⟨trivial, hk.2⟩))).1 k_ hk_.symm) ?aF ?aO ?aB ?aS ?aL ?_; (case aP => exact Kd.M_row (Kd.R_mono (Kd.R_tight rfl (Kd.R_mono (ok' := fun k_ => ((fun _ => True)) k_ ∧ some k_ ≠ (u6 : Value).ownBlock) (Kd.R_apart' (HO191.out) (Kd.S_typed HO_6.out) (by decide)) (fun k_ hk => ⟨trivial, hk.2⟩))) (fun _ h_ => h_))); (case aB => exact HB.out); (case aF => exact (fun _ _ => trivial)); (case aO => exact (Kd.S_mono HO_6.out (fun k_ hk => ⟨trivial, fun e_ => hk.2 e_⟩))); (case aS => exact (below_size HB.out)); (case aL => have := LMc55.out; omega); intro v193 w58 ho hb hg hat; rw [← Ny192.out] at ho; have n0_ := Aside0.mk (Kd.Q_over' HO_4.out (Kd.S_typed HO_6.out) (by decide) hg); have n1_ := Aside0.mk (Kd.R_over' HO_5.out (Kd.S_typed HO_6.out) (by decide) hg); have n2_ := Aside0.mk (Kd.R_over' HO_11.out (Kd.S_typed HO_6.out) (by decide) hg); have n3_ := Aside0.mk (Kd.R_over' HO_58.out (Kd.S_typed HO_6.out) (by decide) hg); have n4_ := Aside0.mk (hb); have n5_ := Aside0.mk (ho); clear HO_4; clear HO_5; clear HO_11; clear HO_58; clear HB; clear HO_6; clear HO191; have HO_4 := n0_; have HO_5 := n1_; have HO_11 := n2_; have HO_58 := n3_; have HB := n4_; have HO194 := n5_; clear n0_ n1_ n2_ n3_ n4_ n5_; clear ho hb hg hat))
                        go_roundg k4
                        case measure => have := HK1.out; have := HJ7.out; have := HJ10.out; have := HK4.out; omega
                        case rel => exact ⟨(y180), (y192), (wrap64 (x24_1 + 1)), (by first | rfl | (simp; done) | (simp [*]; done)), H', ⟨by have := HK1.out; have := HJ7.out; have := HJ10.out; have := HK4.out; omega⟩, ⟨by (with_reducible repeat (first | apply Kd.Q_alloc | apply Kd.Q_drewN | apply Kd.Q_drew)); exact Kd.Q_mono HO_4.out (fun _ hk => hk.1)⟩, ⟨by (with_reducible repeat (first | apply Kd.R_alloc | apply Kd.R_drewN | apply Kd.R_drew)); exact Kd.R_mono HO_5.out (fun _ hk => hk.1)⟩, ⟨by (with_reducible repeat (first | apply Kd.S_alloc | apply Kd.S_drewN | apply Kd.S_drew)); exact HO194.out⟩, ⟨by repeat (first | (with_reducible first | exact HB.out | apply below_alloc | apply pw_below_drewN | apply below_drew1) | exact HB.out)⟩⟩
        · rw [if_neg c7] at H
          have c7b0 : decide (x24_1 < 16) = false := decide_eq_false c7
          clear c7
          simp only [Option.some.injEq, Prod.mk.injEq] at H
          obtain ⟨rfl, rfl⟩ := H
          go_wp2
          go_ret2
          exact ⟨_, by first | rfl | (simp [errW_none, errW_some] <;> rfl) | (simp [*, errW_none, errW_some] <;> rfl), by (with_reducible repeat (first | apply Kd.S_alloc | apply Kd.S_drewN | apply Kd.S_drew)); exact HO_6.out, by repeat (first | (with_reducible first | exact HB.out | apply below_alloc | apply pw_below_drewN | apply below_drew1) | exact HB.out)⟩
  · rw [if_neg c2] at H
    have c2b0 : ((l0.length : Int) == 8) = false := beq_eq_false_iff_ne.mpr c2
    have c2b1 : ((l0.length : Int) != 8) = true := bne_iff_ne.mpr c2
    simp only [Option.some.injEq, Prod.mk.injEq] at H
    obtain ⟨rfl, rfl⟩ := H
    go_enter Try.func11, Try.ntmps11
    go_wp2
    go_ret2
    exact ⟨_, by first | rfl | (simp [errW_none, errW_some] <;> rfl) | (simp [*, errW_none, errW_some] <;> rfl), by first | exact Kd.S_nil _ _ _ _ _ | exact Kd.N_nil _ _ _ _ _ | exact Kd.V_nil _ _ _ _ _ | exact Kd.Q_nil _ _ _ _ _ | exact Kd.R_nil _ _ _ _ _, by repeat (first | (with_reducible first | exact HB.out | apply below_alloc | apply pw_below_drewN | apply below_drew1) | exact HB.out)⟩

end Go.Proofs.Ytnbopkmhakfmmaa.MDes
