/- A walk: each Go function that is named here answers what its plain function answers. Conditions: its arguments are read as lists and numbers. -/
import Derived.Test.YtnbopkmhakfmmaaMDesx0
import Derived.Test.YtnbopkmhakfmmaaMDesc
import Derived.Test.YtnbopkmhakfmmaaMDesg
import Derived.Test.YtnbopkmhakfmmaaMDesh
import Derived.Test.YtnbopkmhakfmmaaMDesi
namespace Go.Proofs.Ytnbopkmhakfmmaa.MDes
open Go.RowKit Go.Proofs.YtnbopkmhakfmmaaW.PrintWords Go.Proofs.YtnbopkmhakfmmaaW.PrintLast Go.Proofs.YtnbopkmhakfmmaaW.PrintMore
attribute [local go_sem] max2_int min2_int max_two min_two max_three min_three max_four min_four   -- for this text's walks alone
set_option linter.unusedVariables false
set_option linter.unusedSimpArgs false

/-! ### scrimlaw6_DesTurned: function 6 -/
mutual
def scrimlaw6_DesTurned.l0 : Nat → List Int → List Int → List Int → List Int → Int → Option (Bool)
  | 0, _, _, _, _, _ => none
  | k + 1, x7, x8, x9, x10, x11 => if x11 < (x7.length : Int) then (if 0 ≤ x11 then (if x11 < (x9.length : Int) then (scrimlaw6_DesTurned.l0 k x7 x8 (x9.set (x11 : Int).toNat (Go.bits .xor .u8 (rd x7 x11) 255)) x10 (wrap64 (x11 + 1))) else (none)) else (none)) else (scrimlaw6_DesTurned.l1 k x7 x8 x9 x10 0)
def scrimlaw6_DesTurned.l1 : Nat → List Int → List Int → List Int → List Int → Int → Option (Bool)
  | 0, _, _, _, _, _ => none
  | k + 1, x7, x8, x9, x10, x12 => if x12 < 8 then (if 0 ≤ x12 then (if x12 < (x8.length : Int) then (if x12 < (x10.length : Int) then (scrimlaw6_DesTurned.l1 k x7 x8 x9 (x10.set (x12 : Int).toNat (Go.bits .xor .u8 (rd x8 x12) 255)) (wrap64 (x12 + 1))) else (none)) else (none)) else (none)) else ((des_New.f k x7).bind fun bt645 => ((des_New.f k x9).bind fun bt649 => (if bt645.1 = [] then (none) else (if bt649.1 = [] then (none) else ((des_Des_Block.f k bt645.1 x8 false).bind fun bt653 => ((des_Des_Block.f k bt649.1 x10 false).bind fun bt657 => (if (bt653.1.length : Int) = 8 then (if (bt657.1.length : Int) = 8 then (scrimlaw6_DesTurned.l2 k bt653.1 bt657.1 0) else (none)) else (none))))))))
def scrimlaw6_DesTurned.l2 : Nat → List Int → List Int → Int → Option (Bool)
  | 0, _, _, _ => none
  | k + 1, x17, x19, x21 => if x21 < 8 then (if 0 ≤ x21 then (if x21 < (x17.length : Int) then (if x21 < (x19.length : Int) then (if (Go.bits .xor .u8 (rd x17 x21) (rd x19 x21)) = 255 then (scrimlaw6_DesTurned.l2 k x17 x19 (wrap64 (x21 + 1))) else (none)) else (none)) else (none)) else (none)) else (some true)
end
def scrimlaw6_DesTurned.f (k : Nat) (l0 : List Int) (a1 : Int) (l2 : List Int) : Option (Bool) := (scrimlaw6_known.f k).bind fun t628 => (if t628 = true then ((scrimlaw6_key.f k l0 a1).bind fun t629 => ((scrimlaw6_Bytes.f k 8 l2).bind fun t632 => (if 0 ≤ (t629.length : Int) then (if ((t629.length : Int) : Int).toNat ≤ 281474976710656 then (if 8 ≤ 281474976710656 then (scrimlaw6_DesTurned.l0 k t629 t632 (List.replicate ((t629.length : Int) : Int).toNat 0) (List.replicate 8 0) 0) else (none)) else (none)) else (none)))) else (none))
theorem scrimlaw6_DesTurned.mono_l : ∀ k, (∀ y0 y1 y2 y3 y4, LeO (scrimlaw6_DesTurned.l0 k y0 y1 y2 y3 y4) (scrimlaw6_DesTurned.l0 (k + 1) y0 y1 y2 y3 y4)) ∧ (∀ y0 y1 y2 y3 y4, LeO (scrimlaw6_DesTurned.l1 k y0 y1 y2 y3 y4) (scrimlaw6_DesTurned.l1 (k + 1) y0 y1 y2 y3 y4)) ∧ (∀ y0 y1 y2, LeO (scrimlaw6_DesTurned.l2 k y0 y1 y2) (scrimlaw6_DesTurned.l2 (k + 1) y0 y1 y2))
  | 0 => ⟨fun _ _ _ _ _ r h => by simp [scrimlaw6_DesTurned.l0] at h, fun _ _ _ _ _ r h => by simp [scrimlaw6_DesTurned.l1] at h, fun _ _ _ r h => by simp [scrimlaw6_DesTurned.l2] at h⟩
  | k + 1 => by
    obtain ⟨ih0, ih1, ih2⟩ := scrimlaw6_DesTurned.mono_l k
    refine ⟨?_, ?_, ?_⟩
    · intro y0 y1 y2 y3 y4
      unfold scrimlaw6_DesTurned.l0
      repeat' first
      | (with_reducible exact ih0 _ _ _ _ _)
      | (with_reducible exact ih1 _ _ _ _ _)
      | (with_reducible exact ih2 _ _ _)
      | (with_reducible exact des_Des_Block.mono _ _ _ _)
      | (with_reducible exact des_New.mono _ _)
      | (with_reducible exact scrimlaw6_Bytes.mono _ _ _)
      | (with_reducible exact scrimlaw6_key.mono _ _ _)
      | (with_reducible exact scrimlaw6_known.mono _)
      | (with_reducible exact LeO.refl _)
      | (with_reducible exact LeO.none _)
      | (with_reducible refine LeO.ite ?_ ?_)
      | (with_reducible refine LeO.bind ?_ (fun _ => ?_))
      | exact ih0 _ _ _ _ _
      | exact ih1 _ _ _ _ _
      | exact ih2 _ _ _
      | exact des_Des_Block.mono _ _ _ _
      | exact des_New.mono _ _
      | exact scrimlaw6_Bytes.mono _ _ _
      | exact scrimlaw6_key.mono _ _ _
      | exact scrimlaw6_known.mono _
      | exact LeO.none _
      | refine LeO.ite ?_ ?_
      | refine LeO.bind ?_ (fun _ => ?_)
    · intro y0 y1 y2 y3 y4
      unfold scrimlaw6_DesTurned.l1
      repeat' first
      | (with_reducible exact ih0 _ _ _ _ _)
      | (with_reducible exact ih1 _ _ _ _ _)
      | (with_reducible exact ih2 _ _ _)
      | (with_reducible exact des_Des_Block.mono _ _ _ _)
      | (with_reducible exact des_New.mono _ _)
      | (with_reducible exact scrimlaw6_Bytes.mono _ _ _)
      | (with_reducible exact scrimlaw6_key.mono _ _ _)
      | (with_reducible exact scrimlaw6_known.mono _)
      | (with_reducible exact LeO.refl _)
      | (with_reducible exact LeO.none _)
      | (with_reducible refine LeO.ite ?_ ?_)
      | (with_reducible refine LeO.bind ?_ (fun _ => ?_))
      | exact ih0 _ _ _ _ _
      | exact ih1 _ _ _ _ _
      | exact ih2 _ _ _
      | exact des_Des_Block.mono _ _ _ _
      | exact des_New.mono _ _
      | exact scrimlaw6_Bytes.mono _ _ _
      | exact scrimlaw6_key.mono _ _ _
      | exact scrimlaw6_known.mono _
      | exact LeO.none _
      | refine LeO.ite ?_ ?_
      | refine LeO.bind ?_ (fun _ => ?_)
    · intro y0 y1 y2
      unfold scrimlaw6_DesTurned.l2
      repeat' first
      | (with_reducible exact ih0 _ _ _ _ _)
      | (with_reducible exact ih1 _ _ _ _ _)
      | (with_reducible exact ih2 _ _ _)
      | (with_reducible exact des_Des_Block.mono _ _ _ _)
      | (with_reducible exact des_New.mono _ _)
      | (with_reducible exact scrimlaw6_Bytes.mono _ _ _)
      | (with_reducible exact scrimlaw6_key.mono _ _ _)
      | (with_reducible exact scrimlaw6_known.mono _)
      | (with_reducible exact LeO.refl _)
      | (with_reducible exact LeO.none _)
      | (with_reducible refine LeO.ite ?_ ?_)
      | (with_reducible refine LeO.bind ?_ (fun _ => ?_))
      | exact ih0 _ _ _ _ _
      | exact ih1 _ _ _ _ _
      | exact ih2 _ _ _
      | exact des_Des_Block.mono _ _ _ _
      | exact des_New.mono _ _
      | exact scrimlaw6_Bytes.mono _ _ _
      | exact scrimlaw6_key.mono _ _ _
      | exact scrimlaw6_known.mono _
      | exact LeO.none _
      | refine LeO.ite ?_ ?_
      | refine LeO.bind ?_ (fun _ => ?_)
theorem scrimlaw6_DesTurned.mono : ∀ a0 a1 a2 k, LeO (scrimlaw6_DesTurned.f k a0 a1 a2) (scrimlaw6_DesTurned.f (k + 1) a0 a1 a2) := by
  intro a0 a1 a2 k
  obtain ⟨ih0, ih1, ih2⟩ := scrimlaw6_DesTurned.mono_l k
  unfold scrimlaw6_DesTurned.f
  repeat' first
      | (with_reducible exact ih0 _ _ _ _ _)
      | (with_reducible exact ih1 _ _ _ _ _)
      | (with_reducible exact ih2 _ _ _)
      | (with_reducible exact des_Des_Block.mono _ _ _ _)
      | (with_reducible exact des_New.mono _ _)
      | (with_reducible exact scrimlaw6_Bytes.mono _ _ _)
      | (with_reducible exact scrimlaw6_key.mono _ _ _)
      | (with_reducible exact scrimlaw6_known.mono _)
      | (with_reducible exact LeO.refl _)
      | (with_reducible exact LeO.none _)
      | (with_reducible refine LeO.ite ?_ ?_)
      | (with_reducible refine LeO.bind ?_ (fun _ => ?_))
      | exact ih0 _ _ _ _ _
      | exact ih1 _ _ _ _ _
      | exact ih2 _ _ _
      | exact des_Des_Block.mono _ _ _ _
      | exact des_New.mono _ _
      | exact scrimlaw6_Bytes.mono _ _ _
      | exact scrimlaw6_key.mono _ _ _
      | exact scrimlaw6_known.mono _
      | exact LeO.none _
      | refine LeO.ite ?_ ?_
      | refine LeO.bind ?_ (fun _ => ?_)
def scrimlaw6_DesTurned.T24 : Bool × List (List Nat × List Nat) := (true, [([], []), ([], []), ([0, 1], [0, 1]), ([2], [2]), ([], []), ([], []), ([4, 5], [4, 5]), ([6], [6]), ([3, 7], [3, 7]), ([8], [8])])
def scrimlaw6_DesTurned.B24 : List Nat := [0, 0, 3, 7, 0, 0, 48, 112, 255, 511]
theorem scrimlaw6_DesTurned.tab24 : rtab .any (opsOf Try.f6 24) = scrimlaw6_DesTurned.T24 := by kernel_rfl
theorem scrimlaw6_DesTurned.bits24 : waitsOk scrimlaw6_DesTurned.T24.2 scrimlaw6_DesTurned.B24 = true := by kernel_rfl
set_option maxHeartbeats 8000000 in
set_option maxRecDepth 100000 in
theorem scrimlaw6_DesTurned.calls (k : Nat) (A0 : Option Addr) (c0 : Nat) (l0 : List Int) (a1 : Int) (A2 : Option Addr) (c2 : Nat) (l2 : List Int) (r : Bool) (w : World) (hr0 : Kd.C (Kd.int .u8) w A0 l0.length l0) (hc0 : l0.length ≤ c0) (hr2 : Kd.C (Kd.int .u8) w A2 l2.length l2) (hc2 : l2.length ≤ c2) (h : scrimlaw6_DesTurned.f k l0 a1 l2 = some r) :
    Calls Try.prog 6 #[.slice A0 l0.length c0, .int .i64 a1, .slice A2 l2.length c2] w fun e w' => e = .returned (.bool r) ∧ Below w.heap.size w w' := by
  have HR0 := Aside0.mk hr0
  have HC0 := Aside0.mk hc0
  clear hr0 hc0
  have HR2 := Aside0.mk hr2
  have HC2 := Aside0.mk hc2
  clear hr2 hc2
  have HB := Aside0.mk (Below.refl w.heap.size w)
  have H : ((scrimlaw6_known.f k).bind fun t628 => (if t628 = true then ((scrimlaw6_key.f k l0 a1).bind fun t629 => ((scrimlaw6_Bytes.f k 8 l2).bind fun t632 => (if 0 ≤ (t629.length : Int) then (if ((t629.length : Int) : Int).toNat ≤ 281474976710656 then (if 8 ≤ 281474976710656 then (scrimlaw6_DesTurned.l0 k t629 t632 (List.replicate ((t629.length : Int) : Int).toNat 0) (List.replicate 8 0) 0) else (none)) else (none)) else (none)))) else (none))) = some r := h
  clear h
  replace H := Option.bind_eq_some_iff.mp H
  obtain ⟨t628, A40, H⟩ := H
  replace H : (if t628 = true then ((scrimlaw6_key.f k l0 a1).bind fun t629 => ((scrimlaw6_Bytes.f k 8 l2).bind fun t632 => (if 0 ≤ (t629.length : Int) then (if ((t629.length : Int) : Int).toNat ≤ 281474976710656 then (if 8 ≤ 281474976710656 then (scrimlaw6_DesTurned.l0 k t629 t632 (List.replicate ((t629.length : Int) : Int).toNat 0) (List.replicate 8 0) 0) else (none)) else (none)) else (none)))) else (none)) = some r := H
  have A4 := Aside0.mk A40
  clear A40
  by_cases c5 : t628 = true
  · subst c5
    have H1 : ((scrimlaw6_key.f k l0 a1).bind fun t629 => ((scrimlaw6_Bytes.f k 8 l2).bind fun t632 => (if 0 ≤ (t629.length : Int) then (if ((t629.length : Int) : Int).toNat ≤ 281474976710656 then (if 8 ≤ 281474976710656 then (scrimlaw6_DesTurned.l0 k t629 t632 (List.replicate ((t629.length : Int) : Int).toNat 0) (List.replicate 8 0) 0) else (none)) else (none)) else (none)))) = some r := by rw [if_pos rfl] at H; exact H
    clear H
    have H := H1
    clear H1
    replace H := Option.bind_eq_some_iff.mp H
    obtain ⟨t629, A60, H⟩ := H
    replace H : ((scrimlaw6_Bytes.f k 8 l2).bind fun t632 => (if 0 ≤ (t629.length : Int) then (if ((t629.length : Int) : Int).toNat ≤ 281474976710656 then (if 8 ≤ 281474976710656 then (scrimlaw6_DesTurned.l0 k t629 t632 (List.replicate ((t629.length : Int) : Int).toNat 0) (List.replicate 8 0) 0) else (none)) else (none)) else (none))) = some r := H
    have A6 := Aside0.mk A60
    clear A60
    replace H := Option.bind_eq_some_iff.mp H
    obtain ⟨t632, A70, H⟩ := H
    replace H : (if 0 ≤ (t629.length : Int) then (if ((t629.length : Int) : Int).toNat ≤ 281474976710656 then (if 8 ≤ 281474976710656 then (scrimlaw6_DesTurned.l0 k t629 t632 (List.replicate ((t629.length : Int) : Int).toNat 0) (List.replicate 8 0) 0) else (none)) else (none)) else (none)) = some r := H
    have A7 := Aside0.mk A70
    clear A70
    by_cases c8 : 0 ≤ (t629.length : Int)
    · rw [if_pos c8] at H
      have c8b0 := eq_true c8
      have c8b1 : decide (0 ≤ (t629.length : Int)) = true := decide_eq_true c8
      clear c8
      by_cases c9 : ((t629.length : Int) : Int).toNat ≤ 281474976710656
      · rw [if_pos c9] at H
        have c9b0 := eq_true c9
        have c9b1 : decide (((t629.length : Int) : Int).toNat ≤ 281474976710656) = true := decide_eq_true c9
        clear c9
        obtain ⟨y635, hy635⟩ : ∃ y_ : List Int, y_ = (List.replicate ((t629.length : Int) : Int).toNat 0) := ⟨_, rfl⟩
        replace H : (if 8 ≤ 281474976710656 then (scrimlaw6_DesTurned.l0 k t629 t632 y635 (List.replicate 8 0) 0) else (none)) = some r := by first | (rw [hy635]; with_reducible exact H) | (have H2_ := (Option.bind_some _ _).symm.trans H; rw [hy635]; with_reducible exact H2_) | (have H2_ := (Option.bind_some _ _).symm.trans H; with_reducible exact H2_) | with_reducible exact H | (rw [hy635]; exact H) | exact H
        have Ny635 := Aside0.mk hy635
        clear hy635
        by_cases c10 : 8 ≤ 281474976710656
        · rw [if_pos c10] at H
          have c10b0 := eq_true c10
          have c10b1 : decide (8 ≤ 281474976710656) = true := decide_eq_true c10
          clear c10
          obtain ⟨y638, hy638⟩ : ∃ y_ : List Int, y_ = (List.replicate 8 0) := ⟨_, rfl⟩
          replace H : (scrimlaw6_DesTurned.l0 k t629 t632 y635 y638 0) = some r := by first | (rw [hy638]; with_reducible exact H) | (have H2_ := (Option.bind_some _ _).symm.trans H; rw [hy638]; with_reducible exact H2_) | (have H2_ := (Option.bind_some _ _).symm.trans H; with_reducible exact H2_) | with_reducible exact H | (rw [hy638]; exact H) | exact H
          have Ny638 := Aside0.mk hy638
          clear hy638
          have H' := Aside0.mk H
          clear H
          go_enter Try.func6, Try.ntmps6
          try go_wp2_with (first | ((with_reducible refine gate_callee (f := 10) rfl ?_); refine goesL_ (some 22) rfl rfl Try.func10 (by kernel_rfl) rfl #[] rfl (by (try simp only [List.map_toArray, List.map_cons, List.map_nil]); first | done | rfl | (simp only [List.length_drop, List.length_take]; rfl)) ?_; (with_reducible refine (scrimlaw6_known.calls k  true _ A4.out).mono ?_); rintro e w11 ⟨rfl, hb⟩; refine ⟨_, rfl, ?_⟩; have n0_ := Aside0.mk (below_step (by repeat (first | (with_reducible first | exact HB.out | apply below_alloc | apply pw_below_drewN | apply below_drew1) | exact HB.out)) hb); clear HB; have HB := n0_; clear n0_; (try clear hb); (try clear hb2); (try clear hk); (try clear hi)) | ((with_reducible refine gate_callee (f := 17) rfl ?_); refine goesL_ (some 26) rfl rfl Try.func17 (by kernel_rfl) rfl #[.slice A0 l0.length c0, .int .i64 a1] rfl (by (try simp only [List.map_toArray, List.map_cons, List.map_nil]); first | done | rfl | (simp only [List.length_drop, List.length_take]; rfl)) ?_; (with_reducible refine (scrimlaw6_key.calls k _ _ l0 a1 t629 _ ?side1 ?side2 A6.out).mono ?_); (case side1 => repeat (first | exact (Kd.C_below HR0.out HB.out) | (with_reducible refine Kd.C_alloc ?_ _) | (with_reducible refine Kd.C_drewN ?_ _) | (with_reducible refine Kd.C_drew ?_))); (case side2 => exact HC0.out); rintro e w12 ⟨v630, rfl, ho0, hb⟩; refine ⟨_, rfl, ?_⟩; have n0_ := Aside0.mk (Kd.R_lower ho0 (below_size (by repeat (first | (with_reducible first | exact HB.out | apply below_alloc | apply pw_below_drewN | apply below_drew1) | exact HB.out)))); have n1_ := Aside0.mk (below_step (by repeat (first | (with_reducible first | exact HB.out | apply below_alloc | apply pw_below_drewN | apply below_drew1) | exact HB.out)) hb); clear HB; have HO631 := n0_; have HB := n1_; clear n0_ n1_; (try clear hb); (try clear hb2); (try clear hk); (try clear hi); (try clear ho0)) | ((with_reducible refine gate_callee (f := 12) rfl ?_); refine goesL_ (some 28) rfl rfl Try.func12 (by kernel_rfl) rfl #[.int .i64 8, .slice A2 l2.length c2] rfl (by (try simp only [List.map_toArray, List.map_cons, List.map_nil]); first | done | rfl | (simp only [List.length_drop, List.length_take]; rfl)) ?_; (with_reducible refine (scrimlaw6_Bytes.calls k 8 _ _ l2 t632 _ ?side1 ?side2 A7.out).mono ?_); (case side1 => repeat (first | exact (Kd.C_below HR2.out HB.out) | (with_reducible refine Kd.C_alloc ?_ _) | (with_reducible refine Kd.C_drewN ?_ _) | (with_reducible refine Kd.C_drew ?_))); (case side2 => exact HC2.out); rintro e w13 ⟨v633, rfl, ho0, hb⟩; refine ⟨_, rfl, ?_⟩; have n0_ := Aside0.mk (Kd.R_elder' (by (with_reducible repeat (first | apply Kd.R_alloc | apply Kd.R_drewN | apply Kd.R_drew)); exact HO631.out) (Kd.R_base ho0) hb); have n1_ := Aside0.mk (Kd.R_lower (Kd.R_new' ho0 (Kd.R_lt (by (with_reducible repeat (first | apply Kd.R_alloc | apply Kd.R_drewN | apply Kd.R_drew)); exact HO631.out))) (below_size (by repeat (first | (with_reducible first | exact HB.out | apply below_alloc | apply pw_below_drewN | apply below_drew1) | exact HB.out)))); have n2_ := Aside0.mk (below_step (by repeat (first | (with_reducible first | exact HB.out | apply below_alloc | apply pw_below_drewN | apply below_drew1) | exact HB.out)) hb); clear HO631; clear HB; have HO631 := n0_; have HO634 := n1_; have HB := n2_; clear n0_ n1_ n2_; (try clear hb); (try clear hb2); (try clear hk); (try clear hi); (try clear ho0)))
          have n0_ := Aside0.mk (Kd.R_drew HO631.out)
          have n1_ := Aside0.mk (Kd.R_drew HO634.out)
          have n2_ := Aside0.mk (below_drew1 HB.out)
          clear HO631
          clear HO634
          clear HB
          have HO631 := n0_
          have HO634 := n1_
          have HB := n2_
          clear n0_ n1_ n2_
          obtain ⟨Ao15, co15, eo15⟩ := Kd.R_slice HO631.out
          (first | subst eo15 | (injection eo15 with f1_ f2_ f3_; have f4_ := f1_.symm; have f5_ := f3_.symm; clear f1_ f2_ f3_; subst f4_; subst f5_))
          refine start_ (n := 6) (S := fun w' => True) (ds := []) #[false, false, false, false, false, false] (by kernel_rfl) rfl rfl trivial (fun hHeld => ?_)
          generalize w13.drew = w14 at HO631 HO634 HB hHeld ⊢
          refine pure_ (i := 0) (N := some 29) (v := ?_) (a' := ?_) #[true, false, false, false, false, false] rfl rfl (by kernel_rfl) (fun _ _ _ h => h) (Or.inl ⟨by rfl, ?_⟩) ?_ ?_
          rotate_left
          · intro w'
            go_simp
            with_reducible rfl
          rotate_left
          · simp only [Act.put, List.setIfInBounds_toArray, List.set_cons_zero, List.set_cons_succ, i64_w, i32_w]
            rfl
          refine pure_ (i := 1) (N := some 30) (v := ?_) (a' := ?_) #[true, true, false, false, false, false] rfl rfl (by kernel_rfl) (fun _ _ _ h => h) (Or.inl ⟨by rfl, ?_⟩) ?_ ?_
          rotate_left
          · intro w'
            go_simp
            with_reducible rfl
          rotate_left
          · simp only [Act.put, List.setIfInBounds_toArray, List.set_cons_zero, List.set_cons_succ, i64_w, i32_w]
            rfl
          refine join_ (σ := Value × Value) 1 #[true, true, true, true, true, false] (fun s_ => [(31, s_.1), (32, s_.2), (9, s_.1)]) (fun s_ w' => (Kd.R (Kd.int .u8) 5 w' w.heap.size (fun k_ => some k_ ≠ (v633 : Value).ownBlock ∧ some k_ ≠ (s_.1 : Value).ownBlock ∧ some k_ ≠ (s_.2 : Value).ownBlock) (.slice Ao15 t629.length co15) t629) ∧ (Kd.R (Kd.int .u8) 5 w' w.heap.size (fun k_ => some k_ ≠ (.slice Ao15 t629.length co15 : Value).ownBlock ∧ some k_ ≠ (s_.1 : Value).ownBlock ∧ some k_ ≠ (s_.2 : Value).ownBlock) v633 t632) ∧ (Kd.R (Kd.int .u8) 5 w' w.heap.size (fun k_ => some k_ ≠ (.slice Ao15 t629.length co15 : Value).ownBlock ∧ some k_ ≠ (v633 : Value).ownBlock ∧ some k_ ≠ (s_.2 : Value).ownBlock) s_.1 y635) ∧ (Kd.R (Kd.int .u8) 5 w' w.heap.size (fun k_ => some k_ ≠ (.slice Ao15 t629.length co15 : Value).ownBlock ∧ some k_ ≠ (v633 : Value).ownBlock ∧ some k_ ≠ (s_.1 : Value).ownBlock) s_.2 y638) ∧ (Below w.heap.size w w')) ?_ ?_
          rotate_left
          · intro hCont
            refine two_ (i := 2) (j := 3) (Ni := some 31) (Nj := some 32) #[true, true, true, false, false, false] #[true, true, false, true, false, false] rfl rfl rfl rfl (by kernel_rfl) (by decide) (by decide) (fun K hK => ?_) (fun K hK => ?_)
            · skip
              refine Kd.R_make_step (Kd.int .u8) _ 5 (by rfl) (N := 31) rfl 22 _ _ rfl (t629.length : Int) rfl rfl Try.underlying22 (.int .u8 0) 1 info5 rfl (by decide) (by omega) 0 (ok := fun _ => True) (okp := fun _ => True) rfl (fun _ hk => hk) trivial (of_decide_eq_true (by first | (with_reducible assumption) | assumption)) (Nat.le_trans (Nat.mul_le_mul_right _ (of_decide_eq_true (by first | (with_reducible assumption) | assumption) : (t629.length : Int).toNat ≤ 281474976710656)) (by omega)) (Below.refl _ _) (Nat.le_refl _) ?_
              intro v636 w16 ho17 hb hg_ hnew_
              clear hg_ hnew_
              (first | rw [← Ny635.out] at ho17 | (simp only [Int.reduceToNat] at ho17; rw [← Ny635.out] at ho17))
              have n0_ := Aside0.mk (Kd.R_elder' (by (with_reducible repeat (first | apply Kd.R_alloc | apply Kd.R_drewN | apply Kd.R_drew)); exact HO631.out) (Kd.R_base ho17) hb)
              have n1_ := Aside0.mk (Kd.R_elder' (by (with_reducible repeat (first | apply Kd.R_alloc | apply Kd.R_drewN | apply Kd.R_drew)); exact HO634.out) (Kd.R_base ho17) hb)
              have n2_ := Aside0.mk (Kd.R_lower (Kd.R_new' (Kd.R_new' ho17 (Kd.R_lt (by (with_reducible repeat (first | apply Kd.R_alloc | apply Kd.R_drewN | apply Kd.R_drew)); exact HO631.out))) (Kd.R_lt (by (with_reducible repeat (first | apply Kd.R_alloc | apply Kd.R_drewN | apply Kd.R_drew)); exact HO634.out))) (below_size (by repeat (first | (with_reducible first | exact HB.out | apply below_alloc | apply pw_below_drewN | apply below_drew1) | exact HB.out))))
              have n3_ := Aside0.mk (below_step (by repeat (first | (with_reducible first | exact HB.out | apply below_alloc | apply pw_below_drewN | apply below_drew1) | exact HB.out)) hb)
              clear HO631
              clear HO634
              clear HB
              have HO631 := n0_
              have HO634 := n1_
              have HO637 := n2_
              have HB := n3_
              clear n0_ n1_ n2_ n3_
              clear hb ho17
              refine hK.out _ _ trivial (fun hHeld => ?_)
              clear hK K
              refine norm_ (a' := ?_) ?_ ?_
              rotate_left
              · show Act.put _ (some 31) _ = _
                simp only [Act.put, List.setIfInBounds_toArray, List.set_cons_zero, List.set_cons_succ, i64_w, i32_w]
                rfl
              refine pure_ (i := 4) (N := some 9) (v := ?_) (a' := ?_) #[true, true, true, false, true, false] rfl rfl (by kernel_rfl) (fun _ _ _ h => h) (Or.inl ⟨by rfl, ?_⟩) ?_ ?_
              rotate_left
              · intro w'
                go_simp
                with_reducible rfl
              rotate_left
              · simp only [Act.put, List.setIfInBounds_toArray, List.set_cons_zero, List.set_cons_succ, i64_w, i32_w]
                rfl
              refine one_ (i := 3) (N := some 32) #[true, true, true, true, true, false] rfl rfl (by kernel_rfl) (by decide) (fun K hK => ?_)
              refine Kd.R_make_step (Kd.int .u8) _ 5 (by rfl) (N := 32) rfl 22 _ _ rfl 8 rfl rfl Try.underlying22 (.int .u8 0) 1 info5 rfl (by decide) (by omega) 0 (ok := fun _ => True) (okp := fun _ => True) rfl (fun _ hk => hk) trivial (by omega) (by omega) (Below.refl _ _) (Nat.le_refl _) ?_
              intro v639 w18 ho19 hb hg_ hnew_
              clear hg_ hnew_
              (first | rw [← Ny638.out] at ho19 | (simp only [Int.reduceToNat] at ho19; rw [← Ny638.out] at ho19))
              have n0_ := Aside0.mk (Kd.R_elder' (by (with_reducible repeat (first | apply Kd.R_alloc | apply Kd.R_drewN | apply Kd.R_drew)); exact HO631.out) (Kd.R_base ho19) hb)
              have n1_ := Aside0.mk (Kd.R_elder' (by (with_reducible repeat (first | apply Kd.R_alloc | apply Kd.R_drewN | apply Kd.R_drew)); exact HO634.out) (Kd.R_base ho19) hb)
              have n2_ := Aside0.mk (Kd.R_elder' (by (with_reducible repeat (first | apply Kd.R_alloc | apply Kd.R_drewN | apply Kd.R_drew)); exact HO637.out) (Kd.R_base ho19) hb)
              have n3_ := Aside0.mk (Kd.R_lower (Kd.R_new' (Kd.R_new' (Kd.R_new' ho19 (Kd.R_lt (by (with_reducible repeat (first | apply Kd.R_alloc | apply Kd.R_drewN | apply Kd.R_drew)); exact HO631.out))) (Kd.R_lt (by (with_reducible repeat (first | apply Kd.R_alloc | apply Kd.R_drewN | apply Kd.R_drew)); exact HO634.out))) (Kd.R_lt (by (with_reducible repeat (first | apply Kd.R_alloc | apply Kd.R_drewN | apply Kd.R_drew)); exact HO637.out))) (below_size (by repeat (first | (with_reducible first | exact HB.out | apply below_alloc | apply pw_below_drewN | apply below_drew1) | exact HB.out))))
              have n4_ := Aside0.mk (below_step (by repeat (first | (with_reducible first | exact HB.out | apply below_alloc | apply pw_below_drewN | apply below_drew1) | exact HB.out)) hb)
              clear HO631
              clear HO634
              clear HO637
              clear HB
              have HO631 := n0_
              have HO634 := n1_
              have HO637 := n2_
              have HO640 := n3_
              have HB := n4_
              clear n0_ n1_ n2_ n3_ n4_
              clear hb ho19
              refine hK.out _ _ trivial (fun hHeld => ?_)
              clear hK K
              refine norm_ (a' := ?_) ?_ ?_
              rotate_left
              · show Act.put _ (some 32) _ = _
                simp only [Act.put, List.setIfInBounds_toArray, List.set_cons_zero, List.set_cons_succ, i64_w, i32_w]
                rfl
              exact norm_ (by simp only [putAll, Act.put, List.setIfInBounds_toArray, List.set_cons_zero, List.set_cons_succ]) (hCont (v636, v639) _ ⟨(by (with_reducible repeat (first | apply Kd.R_alloc | apply Kd.R_drewN | apply Kd.R_drew)); exact Kd.R_mono HO631.out (fun _ hk => ⟨hk.1.1.2, ⟨hk.1.2, hk.2⟩⟩)), (by (with_reducible repeat (first | apply Kd.R_alloc | apply Kd.R_drewN | apply Kd.R_drew)); exact Kd.R_mono HO634.out (fun _ hk => ⟨hk.1.1.2, ⟨hk.1.2, hk.2⟩⟩)), (by (with_reducible repeat (first | apply Kd.R_alloc | apply Kd.R_drewN | apply Kd.R_drew)); exact Kd.R_mono HO637.out (fun _ hk => ⟨hk.1.1.2, ⟨hk.1.2, hk.2⟩⟩)), (by (with_reducible repeat (first | apply Kd.R_alloc | apply Kd.R_drewN | apply Kd.R_drew)); exact Kd.R_mono HO640.out (fun _ hk => ⟨hk.1.1.2, ⟨hk.1.2, hk.2⟩⟩)), (by repeat (first | (with_reducible first | exact HB.out | apply below_alloc | apply pw_below_drewN | apply below_drew1) | exact HB.out))⟩)
            · skip
              refine Kd.R_make_step (Kd.int .u8) _ 5 (by rfl) (N := 32) rfl 22 _ _ rfl 8 rfl rfl Try.underlying22 (.int .u8 0) 1 info5 rfl (by decide) (by omega) 0 (ok := fun _ => True) (okp := fun _ => True) rfl (fun _ hk => hk) trivial (by omega) (by omega) (Below.refl _ _) (Nat.le_refl _) ?_
              intro v639 w16 ho17 hb hg_ hnew_
              clear hg_ hnew_
              (first | rw [← Ny638.out] at ho17 | (simp only [Int.reduceToNat] at ho17; rw [← Ny638.out] at ho17))
              have n0_ := Aside0.mk (Kd.R_elder' (by (with_reducible repeat (first | apply Kd.R_alloc | apply Kd.R_drewN | apply Kd.R_drew)); exact HO631.out) (Kd.R_base ho17) hb)
              have n1_ := Aside0.mk (Kd.R_elder' (by (with_reducible repeat (first | apply Kd.R_alloc | apply Kd.R_drewN | apply Kd.R_drew)); exact HO634.out) (Kd.R_base ho17) hb)
              have n2_ := Aside0.mk (Kd.R_lower (Kd.R_new' (Kd.R_new' ho17 (Kd.R_lt (by (with_reducible repeat (first | apply Kd.R_alloc | apply Kd.R_drewN | apply Kd.R_drew)); exact HO631.out))) (Kd.R_lt (by (with_reducible repeat (first | apply Kd.R_alloc | apply Kd.R_drewN | apply Kd.R_drew)); exact HO634.out))) (below_size (by repeat (first | (with_reducible first | exact HB.out | apply below_alloc | apply pw_below_drewN | apply below_drew1) | exact HB.out))))
              have n3_ := Aside0.mk (below_step (by repeat (first | (with_reducible first | exact HB.out | apply below_alloc | apply pw_below_drewN | apply below_drew1) | exact HB.out)) hb)
              clear HO631
              clear HO634
              clear HB
              have HO631 := n0_
              have HO634 := n1_
              have HO640 := n2_
              have HB := n3_
              clear n0_ n1_ n2_ n3_
              clear hb ho17
              refine hK.out _ _ trivial (fun hHeld => ?_)
              clear hK K
              refine norm_ (a' := ?_) ?_ ?_
              rotate_left
              · show Act.put _ (some 32) _ = _
                simp only [Act.put, List.setIfInBounds_toArray, List.set_cons_zero, List.set_cons_succ, i64_w, i32_w]
                rfl
              refine one_ (i := 2) (N := some 31) #[true, true, true, true, false, false] rfl rfl (by kernel_rfl) (by decide) (fun K hK => ?_)
              refine Kd.R_make_step (Kd.int .u8) _ 5 (by rfl) (N := 31) rfl 22 _ _ rfl (t629.length : Int) rfl rfl Try.underlying22 (.int .u8 0) 1 info5 rfl (by decide) (by omega) 0 (ok := fun _ => True) (okp := fun _ => True) rfl (fun _ hk => hk) trivial (of_decide_eq_true (by first | (with_reducible assumption) | assumption)) (Nat.le_trans (Nat.mul_le_mul_right _ (of_decide_eq_true (by first | (with_reducible assumption) | assumption) : (t629.length : Int).toNat ≤ 281474976710656)) (by omega)) (Below.refl _ _) (Nat.le_refl _) ?_
              intro v636 w18 ho19 hb hg_ hnew_
              clear hg_ hnew_
              (first | rw [← Ny635.out] at ho19 | (simp only [Int.reduceToNat] at ho19; rw [← Ny635.out] at ho19))
              have n0_ := Aside0.mk (Kd.R_elder' (by (with_reducible repeat (first | apply Kd.R_alloc | apply Kd.R_drewN | apply Kd.R_drew)); exact HO631.out) (Kd.R_base ho19) hb)
              have n1_ := Aside0.mk (Kd.R_elder' (by (with_reducible repeat (first | apply Kd.R_alloc | apply Kd.R_drewN | apply Kd.R_drew)); exact HO634.out) (Kd.R_base ho19) hb)
              have n2_ := Aside0.mk (Kd.R_elder' (by (with_reducible repeat (first | apply Kd.R_alloc | apply Kd.R_drewN | apply Kd.R_drew)); exact HO640.out) (Kd.R_base ho19) hb)
              have n3_ := Aside0.mk (Kd.R_lower (Kd.R_new' (Kd.R_new' (Kd.R_new' ho19 (Kd.R_lt (by (with_reducible repeat (first | apply Kd.R_alloc | apply Kd.R_drewN | apply Kd.R_drew)); exact HO631.out))) (Kd.R_lt (by (with_reducible repeat (first | apply Kd.R_alloc | apply Kd.R_drewN | apply Kd.R_drew)); exact HO634.out))) (Kd.R_lt (by (with_reducible repeat (first | apply Kd.R_alloc | apply Kd.R_drewN | apply Kd.R_drew)); exact HO640.out))) (below_size (by repeat (first | (with_reducible first | exact HB.out | apply below_alloc | apply pw_below_drewN | apply below_drew1) | exact HB.out))))
              have n4_ := Aside0.mk (below_step (by repeat (first | (with_reducible first | exact HB.out | apply below_alloc | apply pw_below_drewN | apply below_drew1) | exact HB.out)) hb)
              clear HO631
              clear HO634
              clear HO640
              clear HB
              have HO631 := n0_
              have HO634 := n1_
              have HO640 := n2_
              have HO637 := n3_
              have HB := n4_
              clear n0_ n1_ n2_ n3_ n4_
              clear hb ho19
              refine hK.out _ _ trivial (fun hHeld => ?_)
              clear hK K
              refine norm_ (a' := ?_) ?_ ?_
              rotate_left
              · show Act.put _ (some 31) _ = _
                simp only [Act.put, List.setIfInBounds_toArray, List.set_cons_zero, List.set_cons_succ, i64_w, i32_w]
                rfl
              refine pure_ (i := 4) (N := some 9) (v := ?_) (a' := ?_) #[true, true, true, true, true, false] rfl rfl (by kernel_rfl) (fun _ _ _ h => h) (Or.inl ⟨by rfl, ?_⟩) ?_ ?_
              rotate_left
              · intro w'
                go_simp
                with_reducible rfl
              rotate_left
              · simp only [Act.put, List.setIfInBounds_toArray, List.set_cons_zero, List.set_cons_succ, i64_w, i32_w]
                rfl
              exact norm_ (by simp only [putAll, Act.put, List.setIfInBounds_toArray, List.set_cons_zero, List.set_cons_succ]) (hCont (v636, v639) _ ⟨(by (with_reducible repeat (first | apply Kd.R_alloc | apply Kd.R_drewN | apply Kd.R_drew)); exact Kd.R_mono HO631.out (fun _ hk => ⟨hk.1.1.2, ⟨hk.2, hk.1.2⟩⟩)), (by (with_reducible repeat (first | apply Kd.R_alloc | apply Kd.R_drewN | apply Kd.R_drew)); exact Kd.R_mono HO634.out (fun _ hk => ⟨hk.1.1.2, ⟨hk.2, hk.1.2⟩⟩)), (by (with_reducible repeat (first | apply Kd.R_alloc | apply Kd.R_drewN | apply Kd.R_drew)); exact Kd.R_mono HO637.out (fun _ hk => ⟨hk.1.1.2, ⟨hk.1.2, hk.2⟩⟩)), (by (with_reducible repeat (first | apply Kd.R_alloc | apply Kd.R_drewN | apply Kd.R_drew)); exact Kd.R_mono HO640.out (fun _ hk => ⟨hk.1.1.2, ⟨hk.1.2, hk.2⟩⟩)), (by repeat (first | (with_reducible first | exact HB.out | apply below_alloc | apply pw_below_drewN | apply below_drew1) | exact HB.out))⟩)
          rintro ⟨v636, v639⟩ w20 ⟨h0_, h1_, h2_, h3_, h4_⟩
          have n0_ : Aside0 (Kd.R (Kd.int .u8) 5 w20 w.heap.size (fun k_ => some k_ ≠ (v633 : Value).ownBlock ∧ some k_ ≠ (v636 : Value).ownBlock ∧ some k_ ≠ (v639 : Value).ownBlock) (.slice Ao15 t629.length co15) t629) := ⟨h0_⟩
          have n1_ : Aside0 (Kd.R (Kd.int .u8) 5 w20 w.heap.size (fun k_ => some k_ ≠ (.slice Ao15 t629.length co15 : Value).ownBlock ∧ some k_ ≠ (v636 : Value).ownBlock ∧ some k_ ≠ (v639 : Value).ownBlock) v633 t632) := ⟨h1_⟩
          have n2_ : Aside0 (Kd.R (Kd.int .u8) 5 w20 w.heap.size (fun k_ => some k_ ≠ (.slice Ao15 t629.length co15 : Value).ownBlock ∧ some k_ ≠ (v633 : Value).ownBlock ∧ some k_ ≠ (v639 : Value).ownBlock) v636 y635) := ⟨h2_⟩
          have n3_ : Aside0 (Kd.R (Kd.int .u8) 5 w20 w.heap.size (fun k_ => some k_ ≠ (.slice Ao15 t629.length co15 : Value).ownBlock ∧ some k_ ≠ (v633 : Value).ownBlock ∧ some k_ ≠ (v636 : Value).ownBlock) v639 y638) := ⟨h3_⟩
          have n4_ : Aside0 (Below w.heap.size w w20) := ⟨h4_⟩
          clear HO631
          clear HO634
          clear HB
          clear h0_ h1_ h2_ h3_ h4_
          have HO631 := n0_
          have HO634 := n1_
          have HO637 := n2_
          have HO640 := n3_
          have HB := n4_
          clear n0_ n1_ n2_ n3_ n4_
          have hHeld := trivial
          refine norm_ (a' := ?_) ?_ ?_
          rotate_left
          · simp only [putAll, Act.put, List.setIfInBounds_toArray, List.set_cons_zero, List.set_cons_succ]
            rfl
          refine pure_ (i := 5) (N := some 10) (v := ?_) (a' := ?_) #[true, true, true, true, true, true] rfl rfl (by kernel_rfl) (fun _ _ _ h => h) (Or.inl ⟨by rfl, ?_⟩) ?_ ?_
          rotate_left
          · intro w'
            go_simp
            with_reducible rfl
          rotate_left
          · simp only [Act.put, List.setIfInBounds_toArray, List.set_cons_zero, List.set_cons_succ, i64_w, i32_w]
            rfl
          refine done_ (by kernel_rfl) ?_
          try go_wp2
          go_loopg [11] k (fun kq v11 w' => ∃ (x9_1 : List Int) (x11_1 : Int), v11 = .int .i64 x11_1 ∧ Aside0 (scrimlaw6_DesTurned.l0 kq t629 t632 x9_1 y638 x11_1 = some r) ∧ Aside0 (kq ≤ k) ∧ Aside0 (Kd.R (Kd.int .u8) 5 w' w.heap.size (fun k_ => some k_ ≠ (v633 : Value).ownBlock ∧ some k_ ≠ (v636 : Value).ownBlock ∧ some k_ ≠ (v639 : Value).ownBlock) (.slice Ao15 t629.length co15) t629) ∧ Aside0 (Kd.R (Kd.int .u8) 5 w' w.heap.size (fun k_ => some k_ ≠ ((.slice Ao15 t629.length co15) : Value).ownBlock ∧ some k_ ≠ (v636 : Value).ownBlock ∧ some k_ ≠ (v639 : Value).ownBlock) v633 t632) ∧ Aside0 (Kd.R (Kd.int .u8) 5 w' w.heap.size (fun k_ => some k_ ≠ ((.slice Ao15 t629.length co15) : Value).ownBlock ∧ some k_ ≠ (v633 : Value).ownBlock ∧ some k_ ≠ (v639 : Value).ownBlock) v636 x9_1) ∧ Aside0 (Kd.R (Kd.int .u8) 5 w' w.heap.size (fun k_ => some k_ ≠ ((.slice Ao15 t629.length co15) : Value).ownBlock ∧ some k_ ≠ (v633 : Value).ownBlock ∧ some k_ ≠ (v636 : Value).ownBlock) v639 y638) ∧ Aside0 (Below w.heap.size w w'))
          case atStart => exact ⟨(y635), (0), (by first | rfl | (simp; done) | (simp [*]; done)), H', ⟨Nat.le_refl _⟩, ⟨by (with_reducible repeat (first | apply Kd.R_alloc | apply Kd.R_drewN | apply Kd.R_drew)); exact HO631.out⟩, ⟨by (with_reducible repeat (first | apply Kd.R_alloc | apply Kd.R_drewN | apply Kd.R_drew)); exact HO634.out⟩, ⟨by (with_reducible repeat (first | apply Kd.R_alloc | apply Kd.R_drewN | apply Kd.R_drew)); exact HO637.out⟩, ⟨by (with_reducible repeat (first | apply Kd.R_alloc | apply Kd.R_drewN | apply Kd.R_drew)); exact HO640.out⟩, ⟨by repeat (first | (with_reducible first | exact HB.out | apply below_alloc | apply pw_below_drewN | apply below_drew1) | exact HB.out)⟩⟩
          case round =>
            clear H'
            try clear c1
            try clear c2
            try clear p2
            try clear c5
            try clear c6
            try clear c8
            try clear c8b0
            try clear c8b1
            try clear c9
            try clear c9b0
            try clear c9b1
            try clear c10
            try clear c10b0
            try clear c10b1
            try clear c12
            try clear c17
            obtain ⟨x9_1, x11_1, rfl, HA, HK1, HO_7, HO_8, HO_9, HO_10, HB⟩ := hrel
            cases gk with
            | zero => exact absurd HA.out (by simp [scrimlaw6_DesTurned.l0])
            | succ k1 =>
              have H := HA.out
              clear HA
              simp only [scrimlaw6_DesTurned.l0] at H
              by_cases c21 : x11_1 < (t629.length : Int)
              · rw [if_pos c21] at H
                have c21b0 : decide (x11_1 < (t629.length : Int)) = true := decide_eq_true c21
                clear c21
                by_cases c22 : 0 ≤ x11_1
                · rw [if_pos c22] at H
                  have c22b0 : decide (0 ≤ x11_1) = true := decide_eq_true c22
                  clear c22
                  by_cases c23 : x11_1 < (x9_1.length : Int)
                  · rw [if_pos c23] at H
                    have c23b0 : decide (x11_1 < (x9_1.length : Int)) = true := decide_eq_true c23
                    clear c23
                    obtain ⟨y642, hy642⟩ : ∃ y_ : List Int, y_ = (x9_1.set (x11_1 : Int).toNat (Go.bits .xor .u8 (rd t629 x11_1) 255)) := ⟨_, rfl⟩
                    replace H : (scrimlaw6_DesTurned.l0 k1 t629 t632 y642 y638 (wrap64 (x11_1 + 1))) = some r := by first | (rw [hy642]; with_reducible exact H) | (have H2_ := (Option.bind_some _ _).symm.trans H; rw [hy642]; with_reducible exact H2_) | (have H2_ := (Option.bind_some _ _).symm.trans H; with_reducible exact H2_) | with_reducible exact H | (rw [hy642]; exact H) | exact H
                    have Ny642 := Aside0.mk hy642
                    clear hy642
                    have H' := Aside0.mk H
                    clear H
                    have p641 : 0 ≤ (x11_1 : Int) := of_decide_eq_true (by first | (with_reducible assumption) | assumption)
                    have q641 : x11_1 < (t629.length : Int) := of_decide_eq_true (by first | (with_reducible assumption) | assumption)
                    obtain ⟨ad641, e641, hx641_0⟩ := Kd.at_int (Kd.R_reads' HO_7.out).2.2 x11_1 p641 q641
                    cases e641
                    replace p641 := eq_true p641
                    replace q641 := eq_true q641
                    have p24 : 0 ≤ (x11_1 : Int) := of_decide_eq_true (by first | (with_reducible assumption) | assumption)
                    have q24 : (x11_1 : Int) < ((x9_1.length : Int) : Int) := of_decide_eq_true (by first | (with_reducible assumption) | assumption)
                    obtain ⟨go24, co24, eo24, gb24, gl24, cl24, HG24⟩ := Kd.R_form HO_9.out (by omega)
                    (first | cases eo24 | (injection eo24 with ea_ en_ ec_; (first | subst ea_ | (injection ea_ with ea_; subst ea_)); subst ec_; clear en_))
                    have GB24 := Aside0.mk gb24
                    have GG24 := Aside0.mk HG24
                    clear gb24 gl24 HG24
                    obtain ⟨hx24_0, hf24_0⟩ := Kd.R_celln 0 HO_9.out (x11_1 : Int) p24 q24
                    replace p24 := eq_true p24
                    replace q24 := eq_true q24
                    have HP25 := Kd.R_putg HO_9.out (x11_1 : Int) (Go.bits .xor .u8 (rd t629 x11_1) 255)
                    go_wp2_with (first | ((with_reducible refine gate_store (t := 5) (p := 46) rfl ?_); refine store_event (t := 5) (p := 46) (v := ?vo_w26) (w1 := (wr.setCell ⟨go24, (x11_1 : Int).toNat, none⟩ (.int .u8 (Go.bits .xor .u8 (rd t629 x11_1) 255)))) ?hg ?ho ?hn ?hr ?_; (case ho => rfl); (case hg => rfl); (case hn => rfl); (case hr => first | (go_simp; done) | (go_simp; rfl)); intro w26 hw; have hg : wr.grownBy w26 (some go24) := (by rw [hw]; exact HP25.2); have hp_ : Kd.R (Kd.int .u8) 5 w26 w.heap.size (fun k_ => some k_ ≠ (.slice (some ad641) t629.length co15 : Value).ownBlock ∧ some k_ ≠ (v633 : Value).ownBlock ∧ some k_ ≠ (v639 : Value).ownBlock) (.slice (some ⟨go24, 0, none⟩) x9_1.length co24) y642 := (by rw [hw, Ny642.out]; exact HP25.1); clear HP25; have n0_ := Aside0.mk (Kd.R_after (v := (.slice (some ⟨go24, 0, none⟩) x9_1.length co24)) (v1 := (.slice (some ⟨go24, 0, none⟩) x9_1.length co24)) (ok := (fun k_ => some k_ ≠ (v633 : Value).ownBlock ∧ some k_ ≠ (v639 : Value).ownBlock)) (by (with_reducible repeat (first | apply Kd.R_alloc | apply Kd.R_drewN | apply Kd.R_drew)); exact Kd.R_mono HO_7.out (fun _ hk => ⟨⟨hk.1, hk.2.2⟩, hk.2.1⟩)) hg (.inl rfl)); have n1_ := Aside0.mk (Kd.R_after (v := (.slice (some ⟨go24, 0, none⟩) x9_1.length co24)) (v1 := (.slice (some ⟨go24, 0, none⟩) x9_1.length co24)) (ok := (fun k_ => some k_ ≠ (.slice (some ad641) t629.length co15 : Value).ownBlock ∧ some k_ ≠ (v639 : Value).ownBlock)) (by (with_reducible repeat (first | apply Kd.R_alloc | apply Kd.R_drewN | apply Kd.R_drew)); exact Kd.R_mono HO_8.out (fun _ hk => ⟨⟨hk.1, hk.2.2⟩, hk.2.1⟩)) hg (.inl rfl)); have n2_ := Aside0.mk (hp_); have n3_ := Aside0.mk (Kd.R_after (v := (.slice (some ⟨go24, 0, none⟩) x9_1.length co24)) (v1 := (.slice (some ⟨go24, 0, none⟩) x9_1.length co24)) (ok := (fun k_ => some k_ ≠ (.slice (some ad641) t629.length co15 : Value).ownBlock ∧ some k_ ≠ (v633 : Value).ownBlock)) (by (with_reducible repeat (first | apply Kd.R_alloc | apply Kd.R_drewN | apply Kd.R_drew)); exact Kd.R_mono HO_10.out (fun _ hk => ⟨⟨hk.1, hk.2.1⟩, hk.2.2⟩)) hg (.inl rfl)); have n4_ := Aside0.mk ((by rw [hw]; exact below_set (HB.out) GB24.out : Below w.heap.size w w26)); clear HO_7; clear HO_8; clear HO_9; clear HO_10; clear HB; have HO_7 := n0_; have HO_8 := n1_; have HO_9 := n2_; have HO_10 := n3_; have HB := n4_; clear n0_ n1_ n2_ n3_ n4_; clear hg hw hp_))
                    go_roundg k1
                    case measure => have := HK1.out; omega
                    case rel => exact ⟨(y642), (wrap64 (x11_1 + 1)), (by first | rfl | (simp; done) | (simp [*]; done)), H', ⟨by have := HK1.out; omega⟩, ⟨by (with_reducible repeat (first | apply Kd.R_alloc | apply Kd.R_drewN | apply Kd.R_drew)); exact Kd.R_mono HO_7.out (fun _ hk => ⟨hk.1.1, ⟨hk.2, hk.1.2⟩⟩)⟩, ⟨by (with_reducible repeat (first | apply Kd.R_alloc | apply Kd.R_drewN | apply Kd.R_drew)); exact Kd.R_mono HO_8.out (fun _ hk => ⟨hk.1.1, ⟨hk.2, hk.1.2⟩⟩)⟩, ⟨by (with_reducible repeat (first | apply Kd.R_alloc | apply Kd.R_drewN | apply Kd.R_drew)); exact HO_9.out⟩, ⟨by (with_reducible repeat (first | apply Kd.R_alloc | apply Kd.R_drewN | apply Kd.R_drew)); exact Kd.R_mono HO_10.out (fun _ hk => ⟨hk.1.1, ⟨hk.1.2, hk.2⟩⟩)⟩, ⟨by repeat (first | (with_reducible first | exact HB.out | apply below_alloc | apply pw_below_drewN | apply below_drew1) | exact HB.out)⟩⟩
                  · rw [if_neg c23] at H
                    exact absurd H (by simp)
                · rw [if_neg c22] at H
                  exact absurd H (by simp)
              · rw [if_neg c21] at H
                have c21b0 : decide (x11_1 < (t629.length : Int)) = false := decide_eq_false c21
                clear c21
                have H' := Aside0.mk H
                clear H
                go_wp2
                go_loopg [12] k1 (fun kq v12 w' => ∃ (x10_2 : List Int) (x12_2 : Int), v12 = .int .i64 x12_2 ∧ Aside0 (scrimlaw6_DesTurned.l1 kq t629 t632 x9_1 x10_2 x12_2 = some r) ∧ Aside0 (kq ≤ k1) ∧ Aside0 (Kd.R (Kd.int .u8) 5 w' w.heap.size (fun k_ => some k_ ≠ (v633 : Value).ownBlock ∧ some k_ ≠ (v636 : Value).ownBlock ∧ some k_ ≠ (v639 : Value).ownBlock) (.slice Ao15 t629.length co15) t629) ∧ Aside0 (Kd.R (Kd.int .u8) 5 w' w.heap.size (fun k_ => some k_ ≠ ((.slice Ao15 t629.length co15) : Value).ownBlock ∧ some k_ ≠ (v636 : Value).ownBlock ∧ some k_ ≠ (v639 : Value).ownBlock) v633 t632) ∧ Aside0 (Kd.R (Kd.int .u8) 5 w' w.heap.size (fun k_ => some k_ ≠ ((.slice Ao15 t629.length co15) : Value).ownBlock ∧ some k_ ≠ (v633 : Value).ownBlock ∧ some k_ ≠ (v639 : Value).ownBlock) v636 x9_1) ∧ Aside0 (Kd.R (Kd.int .u8) 5 w' w.heap.size (fun k_ => some k_ ≠ ((.slice Ao15 t629.length co15) : Value).ownBlock ∧ some k_ ≠ (v633 : Value).ownBlock ∧ some k_ ≠ (v636 : Value).ownBlock) v639 x10_2) ∧ Aside0 (Below w.heap.size w w'))
                case atStart => exact ⟨(y638), (0), (by first | rfl | (simp; done) | (simp [*]; done)), H', ⟨Nat.le_refl _⟩, ⟨by (with_reducible repeat (first | apply Kd.R_alloc | apply Kd.R_drewN | apply Kd.R_drew)); exact HO_7.out⟩, ⟨by (with_reducible repeat (first | apply Kd.R_alloc | apply Kd.R_drewN | apply Kd.R_drew)); exact HO_8.out⟩, ⟨by (with_reducible repeat (first | apply Kd.R_alloc | apply Kd.R_drewN | apply Kd.R_drew)); exact HO_9.out⟩, ⟨by (with_reducible repeat (first | apply Kd.R_alloc | apply Kd.R_drewN | apply Kd.R_drew)); exact HO_10.out⟩, ⟨by repeat (first | (with_reducible first | exact HB.out | apply below_alloc | apply pw_below_drewN | apply below_drew1) | exact HB.out)⟩⟩
                case round =>
                  clear H'
                  try clear c1
                  try clear c2
                  try clear p2
                  try clear q2
                  try clear hx2
                  try clear c5
                  try clear c6
                  try clear p6
                  try clear q6
                  try clear hx6
                  try clear c8
                  try clear c8b0
                  try clear c8b1
                  try clear c9
                  try clear c9b0
                  try clear c9b1
                  try clear c10
                  try clear c10b0
                  try clear c10b1
                  try clear c12
                  try clear c17
                  try clear c21
                  try clear c21b0
                  try clear c22
                  try clear c22b0
                  try clear c23
                  try clear c23b0
                  try clear p24
                  try clear q24
                  try clear hx24
                  try clear hf24
                  try clear hx24_0
                  try clear hx641_0
                  try clear p2
                  try clear p24
                  try clear p641
                  try clear q24
                  try clear q641
                  obtain ⟨x10_2, x12_2, rfl, HA, HK2, HO_7, HO_8, HO_9, HO_10, HB⟩ := hrel
                  cases gk with
                  | zero => exact absurd HA.out (by simp [scrimlaw6_DesTurned.l1])
                  | succ k2 =>
                    have H := HA.out
                    clear HA
                    simp only [scrimlaw6_DesTurned.l1] at H
                    by_cases c27 : x12_2 < 8
                    · rw [if_pos c27] at H
                      have c27b0 : decide (x12_2 < 8) = true := decide_eq_true c27
                      clear c27
                      by_cases c28 : 0 ≤ x12_2
                      · rw [if_pos c28] at H
                        have c28b0 : decide (0 ≤ x12_2) = true := decide_eq_true c28
                        clear c28
                        by_cases c29 : x12_2 < (t632.length : Int)
                        · rw [if_pos c29] at H
                          have c29b0 : decide (x12_2 < (t632.length : Int)) = true := decide_eq_true c29
                          clear c29
                          by_cases c30 : x12_2 < (x10_2.length : Int)
                          · rw [if_pos c30] at H
                            have c30b0 : decide (x12_2 < (x10_2.length : Int)) = true := decide_eq_true c30
                            clear c30
                            obtain ⟨y644, hy644⟩ : ∃ y_ : List Int, y_ = (x10_2.set (x12_2 : Int).toNat (Go.bits .xor .u8 (rd t632 x12_2) 255)) := ⟨_, rfl⟩
                            replace H : (scrimlaw6_DesTurned.l1 k2 t629 t632 x9_1 y644 (wrap64 (x12_2 + 1))) = some r := by first | (rw [hy644]; with_reducible exact H) | (have H2_ := (Option.bind_some _ _).symm.trans H; rw [hy644]; with_reducible exact H2_) | (have H2_ := (Option.bind_some _ _).symm.trans H; with_reducible exact H2_) | with_reducible exact H | (rw [hy644]; exact H) | exact H
                            have Ny644 := Aside0.mk hy644
                            clear hy644
                            have H' := Aside0.mk H
                            clear H
                            obtain ⟨Ao32, co32, eo32⟩ := Kd.R_slice HO_8.out
                            subst eo32
                            have p643 : 0 ≤ (x12_2 : Int) := of_decide_eq_true (by first | (with_reducible assumption) | assumption)
                            have q643 : x12_2 < (t632.length : Int) := of_decide_eq_true (by first | (with_reducible assumption) | assumption)
                            obtain ⟨ad643, e643, hx643_0⟩ := Kd.at_int (Kd.R_reads' HO_8.out).2.2 x12_2 p643 q643
                            cases e643
                            replace p643 := eq_true p643
                            replace q643 := eq_true q643
                            have p31 : 0 ≤ (x12_2 : Int) := of_decide_eq_true (by first | (with_reducible assumption) | assumption)
                            have q31 : (x12_2 : Int) < ((x10_2.length : Int) : Int) := of_decide_eq_true (by first | (with_reducible assumption) | assumption)
                            obtain ⟨go31, co31, eo31, gb31, gl31, cl31, HG31⟩ := Kd.R_form HO_10.out (by omega)
                            (first | cases eo31 | (injection eo31 with ea_ en_ ec_; (first | subst ea_ | (injection ea_ with ea_; subst ea_)); subst ec_; clear en_))
                            have GB31 := Aside0.mk gb31
                            have GG31 := Aside0.mk HG31
                            clear gb31 gl31 HG31
                            obtain ⟨hx31_0, hf31_0⟩ := Kd.R_celln 0 HO_10.out (x12_2 : Int) p31 q31
                            replace p31 := eq_true p31
                            replace q31 := eq_true q31
                            have HP33 := Kd.R_putg HO_10.out (x12_2 : Int) (Go.bits .xor .u8 (rd t632 x12_2) 255)
                            go_wp2_with (first | ((with_reducible refine gate_store (t := 5) (p := 58) rfl ?_); refine store_event (t := 5) (p := 58) (v := ?vo_w34) (w1 := (wr.setCell ⟨go31, (x12_2 : Int).toNat, none⟩ (.int .u8 (Go.bits .xor .u8 (rd t632 x12_2) 255)))) ?hg ?ho ?hn ?hr ?_; (case ho => rfl); (case hg => rfl); (case hn => rfl); (case hr => first | (go_simp; done) | (go_simp; rfl)); intro w34 hw; have hg : wr.grownBy w34 (some go31) := (by rw [hw]; exact HP33.2); have hp_ : Kd.R (Kd.int .u8) 5 w34 w.heap.size (fun k_ => some k_ ≠ (.slice Ao15 t629.length co15 : Value).ownBlock ∧ some k_ ≠ (.slice (some ad643) t632.length co32 : Value).ownBlock ∧ some k_ ≠ (v636 : Value).ownBlock) (.slice (some ⟨go31, 0, none⟩) x10_2.length co31) y644 := (by rw [hw, Ny644.out]; exact HP33.1); clear HP33; have n0_ := Aside0.mk (Kd.R_after (v := (.slice (some ⟨go31, 0, none⟩) x10_2.length co31)) (v1 := (.slice (some ⟨go31, 0, none⟩) x10_2.length co31)) (ok := (fun k_ => some k_ ≠ (.slice (some ad643) t632.length co32 : Value).ownBlock ∧ some k_ ≠ (v636 : Value).ownBlock)) (by (with_reducible repeat (first | apply Kd.R_alloc | apply Kd.R_drewN | apply Kd.R_drew)); exact Kd.R_mono HO_7.out (fun _ hk => ⟨⟨hk.1, hk.2.1⟩, hk.2.2⟩)) hg (.inl rfl)); have n1_ := Aside0.mk (Kd.R_after (v := (.slice (some ⟨go31, 0, none⟩) x10_2.length co31)) (v1 := (.slice (some ⟨go31, 0, none⟩) x10_2.length co31)) (ok := (fun k_ => some k_ ≠ (.slice Ao15 t629.length co15 : Value).ownBlock ∧ some k_ ≠ (v636 : Value).ownBlock)) (by (with_reducible repeat (first | apply Kd.R_alloc | apply Kd.R_drewN | apply Kd.R_drew)); exact Kd.R_mono HO_8.out (fun _ hk => ⟨⟨hk.1, hk.2.1⟩, hk.2.2⟩)) hg (.inl rfl)); have n2_ := Aside0.mk (Kd.R_after (v := (.slice (some ⟨go31, 0, none⟩) x10_2.length co31)) (v1 := (.slice (some ⟨go31, 0, none⟩) x10_2.length co31)) (ok := (fun k_ => some k_ ≠ (.slice Ao15 t629.length co15 : Value).ownBlock ∧ some k_ ≠ (.slice (some ad643) t632.length co32 : Value).ownBlock)) (by (with_reducible repeat (first | apply Kd.R_alloc | apply Kd.R_drewN | apply Kd.R_drew)); exact Kd.R_mono HO_9.out (fun _ hk => ⟨⟨hk.1, hk.2.1⟩, hk.2.2⟩)) hg (.inl rfl)); have n3_ := Aside0.mk (hp_); have n4_ := Aside0.mk ((by rw [hw]; exact below_set (HB.out) GB31.out : Below w.heap.size w w34)); clear HO_7; clear HO_8; clear HO_9; clear HO_10; clear HB; have HO_7 := n0_; have HO_8 := n1_; have HO_9 := n2_; have HO_10 := n3_; have HB := n4_; clear n0_ n1_ n2_ n3_ n4_; clear hg hw hp_))
                            go_roundg k2
                            case measure => have := HK1.out; have := HK2.out; omega
                            case rel => exact ⟨(y644), (wrap64 (x12_2 + 1)), (by first | rfl | (simp; done) | (simp [*]; done)), H', ⟨by have := HK1.out; have := HK2.out; omega⟩, ⟨by (with_reducible repeat (first | apply Kd.R_alloc | apply Kd.R_drewN | apply Kd.R_drew)); exact Kd.R_mono HO_7.out (fun _ hk => ⟨hk.1.1, ⟨hk.1.2, hk.2⟩⟩)⟩, ⟨by (with_reducible repeat (first | apply Kd.R_alloc | apply Kd.R_drewN | apply Kd.R_drew)); exact Kd.R_mono HO_8.out (fun _ hk => ⟨hk.1.1, ⟨hk.1.2, hk.2⟩⟩)⟩, ⟨by (with_reducible repeat (first | apply Kd.R_alloc | apply Kd.R_drewN | apply Kd.R_drew)); exact Kd.R_mono HO_9.out (fun _ hk => ⟨hk.1.1, ⟨hk.1.2, hk.2⟩⟩)⟩, ⟨by (with_reducible repeat (first | apply Kd.R_alloc | apply Kd.R_drewN | apply Kd.R_drew)); exact HO_10.out⟩, ⟨by repeat (first | (with_reducible first | exact HB.out | apply below_alloc | apply pw_below_drewN | apply below_drew1) | exact HB.out)⟩⟩
                          · rw [if_neg c30] at H
                            exact absurd H (by simp)
                        · rw [if_neg c29] at H
                          exact absurd H (by simp)
                      · rw [if_neg c28] at H
                        exact absurd H (by simp)
                    · rw [if_neg c27] at H
                      have c27b0 : decide (x12_2 < 8) = false := decide_eq_false c27
                      clear c27
                      replace H := Option.bind_eq_some_iff.mp H
                      obtain ⟨⟨t645, t646⟩, A350, H⟩ := H
                      replace H : ((des_New.f k2 x9_1).bind fun bt649 => (if t645 = [] then (none) else (if bt649.1 = [] then (none) else ((des_Des_Block.f k2 t645 t632 false).bind fun bt653 => ((des_Des_Block.f k2 bt649.1 x10_2 false).bind fun bt657 => (if (bt653.1.length : Int) = 8 then (if (bt657.1.length : Int) = 8 then (scrimlaw6_DesTurned.l2 k2 bt653.1 bt657.1 0) else (none)) else (none))))))) = some r := H
                      have A35 := Aside0.mk A350
                      clear A350
                      replace H := Option.bind_eq_some_iff.mp H
                      obtain ⟨⟨t649, t650⟩, A360, H⟩ := H
                      replace H : (if t645 = [] then (none) else (if t649 = [] then (none) else ((des_Des_Block.f k2 t645 t632 false).bind fun bt653 => ((des_Des_Block.f k2 t649 x10_2 false).bind fun bt657 => (if (bt653.1.length : Int) = 8 then (if (bt657.1.length : Int) = 8 then (scrimlaw6_DesTurned.l2 k2 bt653.1 bt657.1 0) else (none)) else (none)))))) = some r := H
                      have A36 := Aside0.mk A360
                      clear A360
                      by_cases c37 : t645 = []
                      · rw [if_pos c37] at H
                        exact absurd H (by simp)
                      · rw [if_neg c37] at H
                        have NN645 := Aside0.mk c37
                        clear c37
                        by_cases c38 : t649 = []
                        · rw [if_pos c38] at H
                          exact absurd H (by simp)
                        · rw [if_neg c38] at H
                          have NN649 := Aside0.mk c38
                          clear c38
                          replace H := Option.bind_eq_some_iff.mp H
                          obtain ⟨⟨t653, t654⟩, A390, H⟩ := H
                          replace H : ((des_Des_Block.f k2 t649 x10_2 false).bind fun bt657 => (if (t653.length : Int) = 8 then (if (bt657.1.length : Int) = 8 then (scrimlaw6_DesTurned.l2 k2 t653 bt657.1 0) else (none)) else (none))) = some r := H
                          have A39 := Aside0.mk A390
                          clear A390
                          replace H := Option.bind_eq_some_iff.mp H
                          obtain ⟨⟨t657, t658⟩, A400, H⟩ := H
                          replace H : (if (t653.length : Int) = 8 then (if (t657.length : Int) = 8 then (scrimlaw6_DesTurned.l2 k2 t653 t657 0) else (none)) else (none)) = some r := H
                          have A40 := Aside0.mk A400
                          clear A400
                          by_cases c41 : (t653.length : Int) = 8
                          · rw [if_pos c41] at H
                            have c41b0 : ((t653.length : Int) == 8) = true := beq_iff_eq.mpr c41
                            have c41b1 : ((t653.length : Int) != 8) = false := bne_eq_false_iff_eq.mpr c41
                            clear c41
                            by_cases c42 : (t657.length : Int) = 8
                            · rw [if_pos c42] at H
                              have c42b0 : ((t657.length : Int) == 8) = true := beq_iff_eq.mpr c42
                              have c42b1 : ((t657.length : Int) != 8) = false := bne_eq_false_iff_eq.mpr c42
                              clear c42
                              have H' := Aside0.mk H
                              clear H
                              go_wp2_with (first | ((with_reducible refine gate_callee (f := 18) rfl ?_); refine goesL_ (some 61) rfl rfl Try.func18 (by kernel_rfl) rfl #[.slice Ao15 t629.length co15] rfl (by (try simp only [List.map_toArray, List.map_cons, List.map_nil]); first | done | rfl | (simp only [List.length_drop, List.length_take]; rfl)) ?_; (with_reducible refine (des_New.calls k2 _ _ t629 t645 t646 _ ?side1 ?side2 A35.out).mono ?_); (case side1 => repeat (first | exact (Kd.R_reads' HO_7.out).2.2 | (with_reducible refine Kd.C_alloc ?_ _) | (with_reducible refine Kd.C_drewN ?_ _) | (with_reducible refine Kd.C_drew ?_))); (case side2 => exact (Kd.R_reads' HO_7.out).2.1); rintro e w43 ⟨v647, rfl, ho0, hb⟩; refine ⟨_, rfl, ?_⟩; have n0_ := Aside0.mk (Kd.R_below (by (with_reducible repeat (first | apply Kd.R_alloc | apply Kd.R_drewN | apply Kd.R_drew)); exact HO_7.out) hb); have n1_ := Aside0.mk (Kd.R_below (by (with_reducible repeat (first | apply Kd.R_alloc | apply Kd.R_drewN | apply Kd.R_drew)); exact HO_8.out) hb); have n2_ := Aside0.mk (Kd.R_below (by (with_reducible repeat (first | apply Kd.R_alloc | apply Kd.R_drewN | apply Kd.R_drew)); exact HO_9.out) hb); have n3_ := Aside0.mk (Kd.R_below (by (with_reducible repeat (first | apply Kd.R_alloc | apply Kd.R_drewN | apply Kd.R_drew)); exact HO_10.out) hb); have n4_ := Aside0.mk (Ptr.D_lower (Ptr.D_mono (ok' := fun k_ => some k_ ≠ (.slice Ao15 t629.length co15 : Value).ownBlock ∧ some k_ ≠ (v633 : Value).ownBlock ∧ some k_ ≠ (v636 : Value).ownBlock ∧ some k_ ≠ (v639 : Value).ownBlock) ho0 (fun k_ hk0_ => by have hk_ := And.intro trivial (And.intro hk0_ trivial); exact ⟨(Kd.fresh' (Kd.R_lt (by (with_reducible repeat (first | apply Kd.R_alloc | apply Kd.R_drewN | apply Kd.R_drew)); exact HO_7.out)) k_ hk_.2.1), (Kd.fresh' (Kd.R_lt (by (with_reducible repeat (first | apply Kd.R_alloc | apply Kd.R_drewN | apply Kd.R_drew)); exact HO_8.out)) k_ hk_.2.1), (Kd.fresh' (Kd.R_lt (by (with_reducible repeat (first | apply Kd.R_alloc | apply Kd.R_drewN | apply Kd.R_drew)); exact HO_9.out)) k_ hk_.2.1), (Kd.fresh' (Kd.R_lt (by (with_reducible repeat (first | apply Kd.R_alloc | apply Kd.R_drewN | apply Kd.R_drew)); exact HO_10.out)) k_ hk_.2.1)⟩)) (below_size (by repeat (first | (with_reducible first | exact HB.out | apply below_alloc | apply pw_below_drewN | apply below_drew1) | exact HB.out)))); have n5_ := Aside0.mk (below_step (by repeat (first | (with_reducible first | exact HB.out | apply below_alloc | apply pw_below_drewN | apply below_drew1) | exact HB.out)) hb); clear HO_7; clear HO_8; clear HO_9; clear HO_10; clear HB; have HO_7 := n0_; have HO_8 := n1_; have HO_9 := n2_; have HO_10 := n3_; have HO648 := n4_; have HB := n5_; clear n0_ n1_ n2_ n3_ n4_ n5_; (try clear hb); (try clear hb2); (try clear hk); (try clear hi); (try clear ho0); obtain ⟨gN645, AN645, cN645, eN645, _, _⟩ := Ptr.D_open HO648.out NN645.out; subst eN645; obtain ⟨Ao44, co44, eo44⟩ := Kd.R_slice HO_9.out; subst eo44) | ((with_reducible refine gate_callee (f := 18) rfl ?_); refine goesL_ (some 66) rfl rfl Try.func18 (by kernel_rfl) rfl #[.slice Ao44 x9_1.length co44] rfl (by (try simp only [List.map_toArray, List.map_cons, List.map_nil]); first | done | rfl | (simp only [List.length_drop, List.length_take]; rfl)) ?_; (with_reducible refine (des_New.calls k2 _ _ x9_1 t649 t650 _ ?side1 ?side2 A36.out).mono ?_); (case side1 => repeat (first | exact (Kd.R_reads' HO_9.out).2.2 | (with_reducible refine Kd.C_alloc ?_ _) | (with_reducible refine Kd.C_drewN ?_ _) | (with_reducible refine Kd.C_drew ?_))); (case side2 => exact (Kd.R_reads' HO_9.out).2.1); rintro e w45 ⟨v651, rfl, ho0, hb⟩; refine ⟨_, rfl, ?_⟩; have n0_ := Aside0.mk (Kd.R_below (by (with_reducible repeat (first | apply Kd.R_alloc | apply Kd.R_drewN | apply Kd.R_drew)); exact HO_7.out) hb); have n1_ := Aside0.mk (Kd.R_below (by (with_reducible repeat (first | apply Kd.R_alloc | apply Kd.R_drewN | apply Kd.R_drew)); exact HO_8.out) hb); have n2_ := Aside0.mk (Kd.R_below (by (with_reducible repeat (first | apply Kd.R_alloc | apply Kd.R_drewN | apply Kd.R_drew)); exact HO_9.out) hb); have n3_ := Aside0.mk (Kd.R_below (by (with_reducible repeat (first | apply Kd.R_alloc | apply Kd.R_drewN | apply Kd.R_drew)); exact HO_10.out) hb); have n4_ := Aside0.mk (Ptr.D_below (by (with_reducible repeat (first | apply Ptr.D_alloc | apply Ptr.D_drewN | apply Ptr.D_drew)); exact HO648.out) hb); have n5_ := Aside0.mk (Ptr.D_lower (Ptr.D_mono (ok' := fun k_ => some k_ ≠ (.slice Ao15 t629.length co15 : Value).ownBlock ∧ some k_ ≠ (v633 : Value).ownBlock ∧ some k_ ≠ (.slice Ao44 x9_1.length co44 : Value).ownBlock ∧ some k_ ≠ (v639 : Value).ownBlock) ho0 (fun k_ hk0_ => by have hk_ := And.intro trivial (And.intro hk0_ trivial); exact ⟨(Kd.fresh' (Kd.R_lt (by (with_reducible repeat (first | apply Kd.R_alloc | apply Kd.R_drewN | apply Kd.R_drew)); exact HO_7.out)) k_ hk_.2.1), (Kd.fresh' (Kd.R_lt (by (with_reducible repeat (first | apply Kd.R_alloc | apply Kd.R_drewN | apply Kd.R_drew)); exact HO_8.out)) k_ hk_.2.1), (Kd.fresh' (Kd.R_lt (by (with_reducible repeat (first | apply Kd.R_alloc | apply Kd.R_drewN | apply Kd.R_drew)); exact HO_9.out)) k_ hk_.2.1), (Kd.fresh' (Kd.R_lt (by (with_reducible repeat (first | apply Kd.R_alloc | apply Kd.R_drewN | apply Kd.R_drew)); exact HO_10.out)) k_ hk_.2.1)⟩)) (below_size (by repeat (first | (with_reducible first | exact HB.out | apply below_alloc | apply pw_below_drewN | apply below_drew1) | exact HB.out)))); have n6_ := Aside0.mk (below_step (by repeat (first | (with_reducible first | exact HB.out | apply below_alloc | apply pw_below_drewN | apply below_drew1) | exact HB.out)) hb); clear HO_7; clear HO_8; clear HO_9; clear HO_10; clear HO648; clear HB; have HO_7 := n0_; have HO_8 := n1_; have HO_9 := n2_; have HO_10 := n3_; have HO648 := n4_; have HO652 := n5_; have HB := n6_; clear n0_ n1_ n2_ n3_ n4_ n5_ n6_; (try clear hb); (try clear hb2); (try clear hk); (try clear hi); (try clear ho0); obtain ⟨gN649, AN649, cN649, eN649, _, _⟩ := Ptr.D_open HO652.out NN649.out; subst eN649; obtain ⟨Ao47, co47, eo47⟩ := Kd.R_slice HO_8.out; subst eo47) | ((with_reducible refine gate_callee (f := 19) rfl ?_); refine goesL_ (some 78) rfl rfl Try.func19 (by kernel_rfl) rfl #[.pointer (some ⟨gN645, 0, none⟩), .slice Ao47 t632.length co47, .bool false] rfl (by (try simp only [List.map_toArray, List.map_cons, List.map_nil]); first | done | rfl | (simp only [List.length_drop, List.length_take]; rfl)) ?_; (with_reducible refine (des_Des_Block.calls k2 _ t645 _ _ t632 false t653 t654 _ ?side1 ?side3 ?side4 A39.out).mono ?_); (case side1 => apply Exists.intro; apply Exists.intro; (with_reducible repeat (first | apply Ptr.D_alloc | apply Ptr.D_drewN | apply Ptr.D_drew)); exact HO648.out); (case side3 => repeat (first | exact (Kd.R_reads' HO_8.out).2.2 | (with_reducible refine Kd.C_alloc ?_ _) | (with_reducible refine Kd.C_drewN ?_ _) | (with_reducible refine Kd.C_drew ?_))); (case side4 => exact (Kd.R_reads' HO_8.out).2.1); rintro e w48 ⟨v655, rfl, ho0, hb⟩; refine ⟨_, rfl, ?_⟩; have n0_ := Aside0.mk (Kd.R_below (by (with_reducible repeat (first | apply Kd.R_alloc | apply Kd.R_drewN | apply Kd.R_drew)); exact HO_7.out) hb); have n1_ := Aside0.mk (Kd.R_below (by (with_reducible repeat (first | apply Kd.R_alloc | apply Kd.R_drewN | apply Kd.R_drew)); exact HO_8.out) hb); have n2_ := Aside0.mk (Kd.R_below (by (with_reducible repeat (first | apply Kd.R_alloc | apply Kd.R_drewN | apply Kd.R_drew)); exact HO_9.out) hb); have n3_ := Aside0.mk (Kd.R_below (by (with_reducible repeat (first | apply Kd.R_alloc | apply Kd.R_drewN | apply Kd.R_drew)); exact HO_10.out) hb); have n4_ := Aside0.mk (Ptr.D_below (by (with_reducible repeat (first | apply Ptr.D_alloc | apply Ptr.D_drewN | apply Ptr.D_drew)); exact HO648.out) hb); have n5_ := Aside0.mk (Ptr.D_below (by (with_reducible repeat (first | apply Ptr.D_alloc | apply Ptr.D_drewN | apply Ptr.D_drew)); exact HO652.out) hb); have n6_ := Aside0.mk (Kd.V_lower (Kd.V_mono (ok' := fun k_ => some k_ ≠ (.slice Ao15 t629.length co15 : Value).ownBlock ∧ some k_ ≠ (.slice Ao47 t632.length co47 : Value).ownBlock ∧ some k_ ≠ (.slice Ao44 x9_1.length co44 : Value).ownBlock ∧ some k_ ≠ (v639 : Value).ownBlock) ho0 (fun k_ hk0_ => by have hk_ := And.intro trivial (And.intro hk0_ trivial); exact ⟨(Kd.fresh' (Kd.R_lt (by (with_reducible repeat (first | apply Kd.R_alloc | apply Kd.R_drewN | apply Kd.R_drew)); exact HO_7.out)) k_ hk_.2.1), (Kd.fresh' (Kd.R_lt (by (with_reducible repeat (first | apply Kd.R_alloc | apply Kd.R_drewN | apply Kd.R_drew)); exact HO_8.out)) k_ hk_.2.1), (Kd.fresh' (Kd.R_lt (by (with_reducible repeat (first | apply Kd.R_alloc | apply Kd.R_drewN | apply Kd.R_drew)); exact HO_9.out)) k_ hk_.2.1), (Kd.fresh' (Kd.R_lt (by (with_reducible repeat (first | apply Kd.R_alloc | apply Kd.R_drewN | apply Kd.R_drew)); exact HO_10.out)) k_ hk_.2.1)⟩)) (below_size (by repeat (first | (with_reducible first | exact HB.out | apply below_alloc | apply pw_below_drewN | apply below_drew1) | exact HB.out)))); have n7_ := Aside0.mk (below_step (by repeat (first | (with_reducible first | exact HB.out | apply below_alloc | apply pw_below_drewN | apply below_drew1) | exact HB.out)) hb); clear HO_7; clear HO_8; clear HO_9; clear HO_10; clear HO648; clear HO652; clear HB; have HO_7 := n0_; have HO_8 := n1_; have HO_9 := n2_; have HO_10 := n3_; have HO648 := n4_; have HO652 := n5_; have HO656 := n6_; have HB := n7_; clear n0_ n1_ n2_ n3_ n4_ n5_ n6_ n7_; (try clear hb); (try clear hb2); (try clear hk); (try clear hi); (try clear ho0); obtain ⟨Ao50, co50, eo50⟩ := Kd.R_slice HO_10.out; subst eo50) | ((with_reducible refine gate_callee (f := 19) rfl ?_); refine goesL_ (some 84) rfl rfl Try.func19 (by kernel_rfl) rfl #[.pointer (some ⟨gN649, 0, none⟩), .slice Ao50 x10_2.length co50, .bool false] rfl (by (try simp only [List.map_toArray, List.map_cons, List.map_nil]); first | done | rfl | (simp only [List.length_drop, List.length_take]; rfl)) ?_; (with_reducible refine (des_Des_Block.calls k2 _ t649 _ _ x10_2 false t657 t658 _ ?side1 ?side3 ?side4 A40.out).mono ?_); (case side1 => apply Exists.intro; apply Exists.intro; (with_reducible repeat (first | apply Ptr.D_alloc | apply Ptr.D_drewN | apply Ptr.D_drew)); exact HO652.out); (case side3 => repeat (first | exact (Kd.R_reads' HO_10.out).2.2 | (with_reducible refine Kd.C_alloc ?_ _) | (with_reducible refine Kd.C_drewN ?_ _) | (with_reducible refine Kd.C_drew ?_))); (case side4 => exact (Kd.R_reads' HO_10.out).2.1); rintro e w51 ⟨v659, rfl, ho0, hb⟩; refine ⟨_, rfl, ?_⟩; have n0_ := Aside0.mk (Kd.R_below (by (with_reducible repeat (first | apply Kd.R_alloc | apply Kd.R_drewN | apply Kd.R_drew)); exact HO_7.out) hb); have n1_ := Aside0.mk (Kd.R_below (by (with_reducible repeat (first | apply Kd.R_alloc | apply Kd.R_drewN | apply Kd.R_drew)); exact HO_8.out) hb); have n2_ := Aside0.mk (Kd.R_below (by (with_reducible repeat (first | apply Kd.R_alloc | apply Kd.R_drewN | apply Kd.R_drew)); exact HO_9.out) hb); have n3_ := Aside0.mk (Kd.R_below (by (with_reducible repeat (first | apply Kd.R_alloc | apply Kd.R_drewN | apply Kd.R_drew)); exact HO_10.out) hb); have n4_ := Aside0.mk (Ptr.D_below (by (with_reducible repeat (first | apply Ptr.D_alloc | apply Ptr.D_drewN | apply Ptr.D_drew)); exact HO648.out) hb); have n5_ := Aside0.mk (Ptr.D_below (by (with_reducible repeat (first | apply Ptr.D_alloc | apply Ptr.D_drewN | apply Ptr.D_drew)); exact HO652.out) hb); have n6_ := Aside0.mk (Kd.V_below (by (with_reducible repeat (first | apply Kd.V_alloc | apply Kd.V_drewN | apply Kd.V_drew)); exact HO656.out) hb); have n7_ := Aside0.mk (Kd.V_lower (Kd.V_mono (ok' := fun k_ => some k_ ≠ (.slice Ao15 t629.length co15 : Value).ownBlock ∧ some k_ ≠ (.slice Ao47 t632.length co47 : Value).ownBlock ∧ some k_ ≠ (.slice Ao44 x9_1.length co44 : Value).ownBlock ∧ some k_ ≠ (.slice Ao50 x10_2.length co50 : Value).ownBlock) ho0 (fun k_ hk0_ => by have hk_ := And.intro trivial (And.intro hk0_ trivial); exact ⟨(Kd.fresh' (Kd.R_lt (by (with_reducible repeat (first | apply Kd.R_alloc | apply Kd.R_drewN | apply Kd.R_drew)); exact HO_7.out)) k_ hk_.2.1), (Kd.fresh' (Kd.R_lt (by (with_reducible repeat (first | apply Kd.R_alloc | apply Kd.R_drewN | apply Kd.R_drew)); exact HO_8.out)) k_ hk_.2.1), (Kd.fresh' (Kd.R_lt (by (with_reducible repeat (first | apply Kd.R_alloc | apply Kd.R_drewN | apply Kd.R_drew)); exact HO_9.out)) k_ hk_.2.1), (Kd.fresh' (Kd.R_lt (by (with_reducible repeat (first | apply Kd.R_alloc | apply Kd.R_drewN | apply Kd.R_drew)); exact HO_10.out)) k_ hk_.2.1)⟩)) (below_size (by repeat (first | (with_reducible first | exact HB.out | apply below_alloc | apply pw_below_drewN | apply below_drew1) | exact HB.out)))); have n8_ := Aside0.mk (below_step (by repeat (first | (with_reducible first | exact HB.out | apply below_alloc | apply pw_below_drewN | apply below_drew1) | exact HB.out)) hb); clear HO_7; clear HO_8; clear HO_9; clear HO_10; clear HO648; clear HO652; clear HO656; clear HB; have HO_7 := n0_; have HO_8 := n1_; have HO_9 := n2_; have HO_10 := n3_; have HO648 := n4_; have HO652 := n5_; have HO656 := n6_; have HO660 := n7_; have HB := n8_; clear n0_ n1_ n2_ n3_ n4_ n5_ n6_ n7_ n8_; (try clear hb); (try clear hb2); (try clear hk); (try clear hi); (try clear ho0); obtain ⟨Ao52, co52, eo52⟩ := Kd.V_slice HO656.out; subst eo52; obtain ⟨Ao53, co53, eo53⟩ := Kd.V_slice HO660.out; subst eo53))
                              go_loopg [21] k2 (fun kq v21 w' => ∃ (x21_3 : Int), v21 = .int .i64 x21_3 ∧ Aside0 (scrimlaw6_DesTurned.l2 kq t653 t657 x21_3 = some r) ∧ Aside0 (kq ≤ k2) ∧ Aside0 (Kd.V (Kd.int .u8) 5 w' w.heap.size (fun _ => True) (.slice Ao52 t653.length co52) t653) ∧ Aside0 (Kd.V (Kd.int .u8) 5 w' w.heap.size (fun _ => True) (.slice Ao53 t657.length co53) t657) ∧ Aside0 (Below w.heap.size w w'))
                              case atStart => exact ⟨(0), (by first | rfl | (simp; done) | (simp [*]; done)), H', ⟨Nat.le_refl _⟩, ⟨by (with_reducible repeat (first | apply Kd.V_alloc | apply Kd.V_drewN | apply Kd.V_drew)); exact Kd.V_mono HO656.out (fun _ hk => trivial)⟩, ⟨by (with_reducible repeat (first | apply Kd.V_alloc | apply Kd.V_drewN | apply Kd.V_drew)); exact Kd.V_mono HO660.out (fun _ hk => trivial)⟩, ⟨by repeat (first | (with_reducible first | exact HB.out | apply below_alloc | apply pw_below_drewN | apply below_drew1) | exact HB.out)⟩⟩
                              case round =>
                                clear H'
                                try clear c1
                                try clear c2
                                try clear p2
                                try clear q2
                                try clear hx2
                                try clear c3
                                try clear p3
                                try clear q3
                                try clear hx3
                                try clear hf3
                                try clear c4
                                try clear c5
                                try clear c6
                                try clear p6
                                try clear q6
                                try clear hx6
                                try clear c8
                                try clear c8b0
                                try clear c8b1
                                try clear c9
                                try clear c9b0
                                try clear c9b1
                                try clear c10
                                try clear c10b0
                                try clear c10b1
                                try clear c12
                                try clear c17
                                try clear c18
                                try clear c19
                                try clear c21
                                try clear c21b0
                                try clear c22
                                try clear c22b0
                                try clear c23
                                try clear c23b0
                                try clear p24
                                try clear q24
                                try clear hx24
                                try clear hf24
                                try clear c27
                                try clear c27b0
                                try clear c28
                                try clear c28b0
                                try clear c29
                                try clear c29b0
                                try clear c30
                                try clear c30b0
                                try clear p31
                                try clear q31
                                try clear hx31
                                try clear hf31
                                try clear c37
                                try clear c37b0
                                try clear c37b1
                                try clear c38
                                try clear c38b0
                                try clear c38b1
                                try clear c41
                                try clear c41b0
                                try clear c41b1
                                try clear c42
                                try clear c42b0
                                try clear c42b1
                                try clear hx24_0
                                try clear hx31_0
                                try clear hx641_0
                                try clear hx643_0
                                try clear p2
                                try clear p24
                                try clear p31
                                try clear p6
                                try clear p641
                                try clear p643
                                try clear q2
                                try clear q24
                                try clear q31
                                try clear q6
                                try clear q641
                                try clear q643
                                obtain ⟨x21_3, rfl, HA, HK3, HO_17, HO_19, HB⟩ := hrel
                                cases gk with
                                | zero => exact absurd HA.out (by simp [scrimlaw6_DesTurned.l2])
                                | succ k3 =>
                                  have H := HA.out
                                  clear HA
                                  simp only [scrimlaw6_DesTurned.l2] at H
                                  by_cases c54 : x21_3 < 8
                                  · rw [if_pos c54] at H
                                    have c54b0 : decide (x21_3 < 8) = true := decide_eq_true c54
                                    clear c54
                                    by_cases c55 : 0 ≤ x21_3
                                    · rw [if_pos c55] at H
                                      have c55b0 : decide (0 ≤ x21_3) = true := decide_eq_true c55
                                      clear c55
                                      by_cases c56 : x21_3 < (t653.length : Int)
                                      · rw [if_pos c56] at H
                                        have c56b0 : decide (x21_3 < (t653.length : Int)) = true := decide_eq_true c56
                                        clear c56
                                        by_cases c57 : x21_3 < (t657.length : Int)
                                        · rw [if_pos c57] at H
                                          have c57b0 : decide (x21_3 < (t657.length : Int)) = true := decide_eq_true c57
                                          clear c57
                                          by_cases c58 : (Go.bits .xor .u8 (rd t653 x21_3) (rd t657 x21_3)) = 255
                                          · rw [if_pos c58] at H
                                            have c58b0 : ((Go.bits .xor .u8 (rd t653 x21_3) (rd t657 x21_3)) == 255) = true := beq_iff_eq.mpr c58
                                            have c58b1 : ((Go.bits .xor .u8 (rd t653 x21_3) (rd t657 x21_3)) != 255) = false := bne_eq_false_iff_eq.mpr c58
                                            clear c58
                                            have H' := Aside0.mk H
                                            clear H
                                            try go_wp2
                                            have n0_ := Aside0.mk (Kd.V_drew HO_17.out)
                                            have n1_ := Aside0.mk (Kd.V_drew HO_19.out)
                                            have n2_ := Aside0.mk (below_drew1 HB.out)
                                            clear HO_17
                                            clear HO_19
                                            clear HB
                                            have HO_17 := n0_
                                            have HO_19 := n1_
                                            have HB := n2_
                                            clear n0_ n1_ n2_
                                            have p661 : 0 ≤ (x21_3 : Int) := of_decide_eq_true (by first | (with_reducible assumption) | assumption)
                                            have q661 : x21_3 < (t653.length : Int) := of_decide_eq_true (by first | (with_reducible assumption) | assumption)
                                            obtain ⟨ad661, e661, hx661_0⟩ := Kd.at_int (Kd.V_reads' HO_17.out).2.2 x21_3 p661 q661
                                            cases e661
                                            replace p661 := eq_true p661
                                            replace q661 := eq_true q661
                                            have p662 : 0 ≤ (x21_3 : Int) := of_decide_eq_true (by first | (with_reducible assumption) | assumption)
                                            have q662 : x21_3 < (t657.length : Int) := of_decide_eq_true (by first | (with_reducible assumption) | assumption)
                                            obtain ⟨ad662, e662, hx662_0⟩ := Kd.at_int (Kd.V_reads' HO_19.out).2.2 x21_3 p662 q662
                                            cases e662
                                            replace p662 := eq_true p662
                                            replace q662 := eq_true q662
                                            refine start_ (n := 10) (S := fun w' => w'.cell? (ad661.add (x21_3).toNat) = some (.int .u8 (rd t653 x21_3)) ∧ w'.cell? (ad662.add (x21_3).toNat) = some (.int .u8 (rd t657 x21_3))) (ds := []) #[false, false, false, false, false, false, false, false, false, false] (by kernel_rfl) rfl rfl ⟨hx661_0, hx662_0⟩ (fun hHeld => ?_); refine with_tabW scrimlaw6_DesTurned.tab24 scrimlaw6_DesTurned.bits24 (fun HT_ HW_ => ?_)
                                            generalize wr.drew = w59 at HO_17 HO_19 HB hx661_0 hx662_0 hHeld ⊢
                                            refine pure_ (i := 0) (N := some 99) (v := ?_) (a' := ?_) #[true, false, false, false, false, false, false, false, false, false] rfl rfl (any_of HT_.out (by kernel_rfl)) (fun _ _ _ h => h) (Or.inl ⟨by rfl, ?_⟩) ?_ ?_
                                            rotate_left
                                            · intro w'
                                              go_simp
                                              with_reducible rfl
                                            rotate_left
                                            · simp only [Act.put, List.setIfInBounds_toArray, List.set_cons_zero, List.set_cons_succ, i64_w, i32_w]
                                              rfl
                                            refine pure_ (i := 1) (N := some 100) (v := ?_) (a' := ?_) #[true, true, false, false, false, false, false, false, false, false] rfl rfl (any_of HT_.out (by kernel_rfl)) (fun _ _ _ h => h) (Or.inl ⟨by rfl, ?_⟩) ?_ ?_
                                            rotate_left
                                            · intro w'
                                              go_simp
                                              with_reducible rfl
                                            rotate_left
                                            · simp only [Act.put, List.setIfInBounds_toArray, List.set_cons_zero, List.set_cons_succ, i64_w, i32_w]
                                              rfl
                                            refine pure_ (i := 2) (N := some 101) (v := ?_) (a' := ?_) #[true, true, true, false, false, false, false, false, false, false] rfl rfl (any_of HT_.out (by kernel_rfl)) (fun _ _ _ h => h) (Or.inl ⟨by rfl, ?_⟩) ?_ ?_
                                            rotate_left
                                            · intro w'
                                              go_simp
                                              with_reducible rfl
                                            rotate_left
                                            · simp only [Act.put, List.setIfInBounds_toArray, List.set_cons_zero, List.set_cons_succ, i64_w, i32_w]
                                              rfl
                                            refine pure_ (i := 4) (N := some 103) (v := ?_) (a' := ?_) #[true, true, true, false, true, false, false, false, false, false] rfl rfl (any_of HT_.out (by kernel_rfl)) (fun _ _ _ h => h) (Or.inl ⟨by rfl, ?_⟩) ?_ ?_
                                            rotate_left
                                            · intro w'
                                              go_simp
                                              with_reducible rfl
                                            rotate_left
                                            · simp only [Act.put, List.setIfInBounds_toArray, List.set_cons_zero, List.set_cons_succ, i64_w, i32_w]
                                              rfl
                                            refine pure_ (i := 5) (N := some 104) (v := ?_) (a' := ?_) #[true, true, true, false, true, true, false, false, false, false] rfl rfl (any_of HT_.out (by kernel_rfl)) (fun _ _ _ h => h) (Or.inl ⟨by rfl, ?_⟩) ?_ ?_
                                            rotate_left
                                            · intro w'
                                              go_simp
                                              with_reducible rfl
                                            rotate_left
                                            · simp only [Act.put, List.setIfInBounds_toArray, List.set_cons_zero, List.set_cons_succ, i64_w, i32_w]
                                              rfl
                                            refine pure_ (i := 6) (N := some 105) (v := ?_) (a' := ?_) #[true, true, true, false, true, true, true, false, false, false] rfl rfl (any_of HT_.out (by kernel_rfl)) (fun _ _ _ h => h) (Or.inl ⟨by rfl, ?_⟩) ?_ ?_
                                            rotate_left
                                            · intro w'
                                              go_simp
                                              with_reducible rfl
                                            rotate_left
                                            · simp only [Act.put, List.setIfInBounds_toArray, List.set_cons_zero, List.set_cons_succ, i64_w, i32_w]
                                              rfl
                                            refine take_ (i := 3) (N := some 102) (v := ?_) (a' := ?_) #[true, true, true, true, true, true, true, false, false, false] rfl rfl (take_ofW HT_.out HW_.out (by kernel_rfl)) (fun _ _ _ h => h) (Or.inl ⟨by rfl, ?_⟩) hHeld ?_ ?_
                                            rotate_left
                                            · rintro w' ⟨s0, s1⟩
                                              go_simp
                                              with_reducible rfl
                                            rotate_left
                                            · simp only [Act.put, List.setIfInBounds_toArray, List.set_cons_zero, List.set_cons_succ, i64_w, i32_w]
                                              rfl
                                            refine take_ (i := 7) (N := some 106) (v := ?_) (a' := ?_) #[true, true, true, true, true, true, true, true, false, false] rfl rfl (take_ofW HT_.out HW_.out (by kernel_rfl)) (fun _ _ _ h => h) (Or.inl ⟨by rfl, ?_⟩) hHeld ?_ ?_
                                            rotate_left
                                            · rintro w' ⟨s0, s1⟩
                                              go_simp
                                              with_reducible rfl
                                            rotate_left
                                            · simp only [Act.put, List.setIfInBounds_toArray, List.set_cons_zero, List.set_cons_succ, i64_w, i32_w]
                                              rfl
                                            refine pure_ (i := 8) (N := some 107) (v := ?_) (a' := ?_) #[true, true, true, true, true, true, true, true, true, false] rfl rfl (any_of HT_.out (by kernel_rfl)) (fun _ _ _ h => h) (Or.inl ⟨by rfl, ?_⟩) ?_ ?_
                                            rotate_left
                                            · intro w'
                                              go_simp
                                              with_reducible rfl
                                            rotate_left
                                            · simp only [Act.put, List.setIfInBounds_toArray, List.set_cons_zero, List.set_cons_succ, i64_w, i32_w]
                                              rfl
                                            refine pure_ (i := 9) (N := some 108) (v := ?_) (a' := ?_) #[true, true, true, true, true, true, true, true, true, true] rfl rfl (any_of HT_.out (by kernel_rfl)) (fun _ _ _ h => h) (Or.inl ⟨by rfl, ?_⟩) ?_ ?_
                                            rotate_left
                                            · intro w'
                                              go_simp
                                              with_reducible rfl
                                            rotate_left
                                            · simp only [Act.put, List.setIfInBounds_toArray, List.set_cons_zero, List.set_cons_succ, i64_w, i32_w]
                                              rfl
                                            refine done_ (done_of HT_.out (by kernel_rfl)) ?_
                                            try go_wp2
                                            go_roundg k3
                                            case measure => have := HK1.out; have := HK2.out; have := HK3.out; omega
                                            case rel => exact ⟨(wrap64 (x21_3 + 1)), (by first | rfl | (simp; done) | (simp [*]; done)), H', ⟨by have := HK1.out; have := HK2.out; have := HK3.out; omega⟩, ⟨by (with_reducible repeat (first | apply Kd.V_alloc | apply Kd.V_drewN | apply Kd.V_drew)); exact HO_17.out⟩, ⟨by (with_reducible repeat (first | apply Kd.V_alloc | apply Kd.V_drewN | apply Kd.V_drew)); exact HO_19.out⟩, ⟨by repeat (first | (with_reducible first | exact HB.out | apply below_alloc | apply pw_below_drewN | apply below_drew1) | exact HB.out)⟩⟩
                                          · rw [if_neg c58] at H
                                            exact absurd H (by simp)
                                        · rw [if_neg c57] at H
                                          exact absurd H (by simp)
                                      · rw [if_neg c56] at H
                                        exact absurd H (by simp)
                                    · rw [if_neg c55] at H
                                      exact absurd H (by simp)
                                  · rw [if_neg c54] at H
                                    have c54b0 : decide (x21_3 < 8) = false := decide_eq_false c54
                                    clear c54
                                    obtain rfl := Option.some.inj H
                                    go_wp2
                                    go_ret
                                    exact ⟨by first | rfl | (simp [errW_none, errW_some] <;> rfl) | (simp [*, errW_none, errW_some] <;> rfl), by repeat (first | (with_reducible first | exact HB.out | apply below_alloc | apply pw_below_drewN | apply below_drew1) | exact HB.out)⟩
                            · rw [if_neg c42] at H
                              exact absurd H (by simp)
                          · rw [if_neg c41] at H
                            exact absurd H (by simp)
        · rw [if_neg c10] at H
          exact absurd H (by simp)
      · rw [if_neg c9] at H
        exact absurd H (by simp)
    · rw [if_neg c8] at H
      exact absurd H (by simp)
  · replace c5 := Bool.eq_false_iff.mpr c5
    subst c5
    have H1 : (none) = some r := by rw [if_neg (show ¬ (false = true) by decide)] at H; exact H
    clear H
    have H := H1
    clear H1
    exact absurd H (by simp)

/-- THE ONE PURE STATEMENT of scrimlaw6_DesTurned: yours. -/
def scrimlaw6_DesTurned.Pure : Prop := ∀ (l0 : List Int) (a1 : Int) (l2 : List Int), l0.length ≤ maxLen → l0.length * 1 ≤ 140737488351232 → (∀ x ∈ l0, (Lit.int .u8 x).wf = true) → (Lit.int .i64 a1).wf = true → l2.length ≤ maxLen → l2.length * 1 ≤ 140737488351232 → (∀ x ∈ l2, (Lit.int .u8 x).wf = true) → ∃ k, scrimlaw6_DesTurned.f k l0 a1 l2 = some true
theorem scrimlaw6_DesTurned.walk (P : scrimlaw6_DesTurned.Pure) (a0 : Option Addr) (len0 cap0 : Nat) (z0 : List Int) (a1 : Int) (a2 : Option Addr) (len2 cap2 : Nat) (z2 : List Int) (w : World) (w0 : (a0 = none ∧ len0 = 0 ∧ cap0 = 0 ∧ z0 = []) ∨ ∃ x, a0 = some x ∧ len0 ≤ cap0 ∧ cap0 ≤ maxLen ∧ z0.length = cap0 ∧ (∀ i, i < z0.length → w.cell? (x.add i) = some (.int .u8 (z0.getD i 0))) ∧ ∀ n ∈ z0, (Lit.int .u8 n).wf = true) (y0 : len0 * 1 ≤ 140737488351232) (w1 : (Lit.int .i64 a1).wf = true) (w2 : (a2 = none ∧ len2 = 0 ∧ cap2 = 0 ∧ z2 = []) ∨ ∃ x, a2 = some x ∧ len2 ≤ cap2 ∧ cap2 ≤ maxLen ∧ z2.length = cap2 ∧ (∀ i, i < z2.length → w.cell? (x.add i) = some (.int .u8 (z2.getD i 0))) ∧ ∀ n ∈ z2, (Lit.int .u8 n).wf = true) (y2 : len2 * 1 ≤ 140737488351232) :
    Calls Try.prog 6 #[.slice a0 len0 cap0, .int .i64 a1, .slice a2 len2 cap2] w fun e w' => e = .returned (.bool true) ∧ Below w.heap.size w w' := by
  obtain ⟨l0, rfl, hr0, hm0, hw0, hc0⟩ := ReadsInt.ofRowC w0
  obtain ⟨l2, rfl, hr2, hm2, hw2, hc2⟩ := ReadsInt.ofRowC w2
  obtain ⟨k, h⟩ := P l0 a1 l2 hm0 y0 hw0 w1 hm2 y2 hw2
  refine (scrimlaw6_DesTurned.calls k _ _ l0 a1 _ _ l2 true w (Kd.C_of_reads (d := (0 : Int)) (h1 := fun _ => rfl) hr0) hc0 (Kd.C_of_reads (d := (0 : Int)) (h1 := fun _ => rfl) hr2) hc2 h).mono ?_
  rintro e w' ⟨rfl, hd⟩
  exact ⟨rfl, hd⟩

end Go.Proofs.Ytnbopkmhakfmmaa.MDes
