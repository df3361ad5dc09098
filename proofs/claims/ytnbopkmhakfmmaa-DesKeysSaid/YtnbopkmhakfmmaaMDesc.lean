/- A walk: each Go function that is named here answers what its plain function answers. Conditions: its arguments are read as lists and numbers. -/
import Derived.Test.YtnbopkmhakfmmaaMDesx0
import Derived.Test.YtnbopkmhakfmmaaMDesb
namespace Go.Proofs.Ytnbopkmhakfmmaa.MDes
open Go.RowKit Go.Proofs.YtnbopkmhakfmmaaW.PrintWords Go.Proofs.YtnbopkmhakfmmaaW.PrintLast Go.Proofs.YtnbopkmhakfmmaaW.PrintMore
attribute [local go_sem] max2_int min2_int max_two min_two max_three min_three max_four min_four   -- for this text's walks alone
set_option linter.unusedVariables false
set_option linter.unusedSimpArgs false

/-! ### des_New: function 18 -/
mutual
def des_New.j0 : Nat → List Int → Int → Bool → Option ((List (List (List Int))) × Int)
  | 0, _, _, _ => none
  | k + 1, x0, x4, x23 => if x23 = true then (some (([] : List (List (List Int))), 4)) else (des_New.l0 k x0 x4 ([] : List (List (List Int))) x4 0)
def des_New.l0 : Nat → List Int → Int → List (List (List Int)) → Int → Int → Option ((List (List (List Int))) × Int)
  | 0, _, _, _, _, _ => none
  | k + 1, x0, x4, x5, x26, x27 => if x27 < x26 then (if 0 ≤ (wrap64 (8 * x27)) then (if (wrap64 (8 * x27)) ≤ (wrap64 (8 * (wrap64 (x27 + 1)))) then (if (wrap64 (8 * (wrap64 (x27 + 1)))) ≤ (x0.length : Int) then ((des_Keys.f k ((x0.take ((wrap64 (8 * (wrap64 (x27 + 1)))) : Int).toNat).drop ((wrap64 (8 * x27)) : Int).toNat)).bind fun bt196 => (if x5.length < 5864062014805 then (des_New.l0 k x0 x4 (x5 ++ [bt196.1]) x26 (wrap64 (x27 + 1))) else (none))) else (none)) else (none)) else (none)) else (if x4 = 2 then (if 0 < (x5.length : Int) then (if x5.length < 5864062014805 then (some ((x5 ++ [rd_L3 x5 0]), 0)) else (none)) else (none)) else (if 0 < (x5.length : Int) then (some (x5, 0)) else (none)))
end
def des_New.f (k : Nat) (l0 : List Int) : Option ((List (List (List Int))) × Int) := if ((l0.length : Int) % 8) > 0 then (des_New.j0 k l0 (wrap64 ((l0.length : Int) / 8)) true) else (if (wrap64 ((l0.length : Int) / 8)) < 1 then (des_New.j0 k l0 (wrap64 ((l0.length : Int) / 8)) true) else (des_New.j0 k l0 (wrap64 ((l0.length : Int) / 8)) (decide ((wrap64 ((l0.length : Int) / 8)) > 3))))
theorem des_New.mono_l : ∀ k, (∀ y0 y1 y2, LeO (des_New.j0 k y0 y1 y2) (des_New.j0 (k + 1) y0 y1 y2)) ∧ (∀ y0 y1 y2 y3 y4, LeO (des_New.l0 k y0 y1 y2 y3 y4) (des_New.l0 (k + 1) y0 y1 y2 y3 y4))
  | 0 => ⟨fun _ _ _ r h => by simp [des_New.j0] at h, fun _ _ _ _ _ r h => by simp [des_New.l0] at h⟩
  | k + 1 => by
    obtain ⟨ih0, ih1⟩ := des_New.mono_l k
    refine ⟨?_, ?_⟩
    · intro y0 y1 y2
      unfold des_New.j0
      repeat' first
      | (with_reducible exact ih0 _ _ _)
      | (with_reducible exact ih1 _ _ _ _ _)
      | (with_reducible exact des_Keys.mono _ _)
      | (with_reducible exact LeO.refl _)
      | (with_reducible exact LeO.none _)
      | (with_reducible refine LeO.ite ?_ ?_)
      | (with_reducible refine LeO.bind ?_ (fun _ => ?_))
      | exact ih0 _ _ _
      | exact ih1 _ _ _ _ _
      | exact des_Keys.mono _ _
      | exact LeO.none _
      | refine LeO.ite ?_ ?_
      | refine LeO.bind ?_ (fun _ => ?_)
    · intro y0 y1 y2 y3 y4
      unfold des_New.l0
      repeat' first
      | (with_reducible exact ih0 _ _ _)
      | (with_reducible exact ih1 _ _ _ _ _)
      | (with_reducible exact des_Keys.mono _ _)
      | (with_reducible exact LeO.refl _)
      | (with_reducible exact LeO.none _)
      | (with_reducible refine LeO.ite ?_ ?_)
      | (with_reducible refine LeO.bind ?_ (fun _ => ?_))
      | exact ih0 _ _ _
      | exact ih1 _ _ _ _ _
      | exact des_Keys.mono _ _
      | exact LeO.none _
      | refine LeO.ite ?_ ?_
      | refine LeO.bind ?_ (fun _ => ?_)
theorem des_New.mono : ∀ a0 k, LeO (des_New.f k a0) (des_New.f (k + 1) a0) := by
  intro a0 k
  obtain ⟨ih0, ih1⟩ := des_New.mono_l k
  unfold des_New.f
  repeat' first
      | (with_reducible exact ih0 _ _ _)
      | (with_reducible exact ih1 _ _ _ _ _)
      | (with_reducible exact des_Keys.mono _ _)
      | (with_reducible exact LeO.refl _)
      | (with_reducible exact LeO.none _)
      | (with_reducible refine LeO.ite ?_ ?_)
      | (with_reducible refine LeO.bind ?_ (fun _ => ?_))
      | exact ih0 _ _ _
      | exact ih1 _ _ _ _ _
      | exact des_Keys.mono _ _
      | exact LeO.none _
      | refine LeO.ite ?_ ?_
      | refine LeO.bind ?_ (fun _ => ?_)
set_option maxHeartbeats 8000000 in
set_option maxRecDepth 100000 in
theorem des_New.calls (k : Nat) (A0 : Option Addr) (c0 : Nat) (l0 : List Int) (r1 : List (List (List Int))) (r2 : Int) (w : World) (hr0 : Kd.C (Kd.int .u8) w A0 l0.length l0) (hc0 : l0.length ≤ c0) (h : des_New.f k l0 = some (r1, r2)) :
    Calls Try.prog 18 #[.slice A0 l0.length c0] w fun e w' => ∃ v0_ : Value, e = .returned (.tuple #[v0_, .int .i64 r2]) ∧ Ptr.D (Kd.slice 22 (Kd.slice 5 (Kd.int .u8))) 24 w' w.heap.size (fun k_ => (w.heap.size ≤ k_)) v0_ r1 ∧ Below w.heap.size w w' := by
  have HR0 := Aside0.mk hr0
  have HC0 := Aside0.mk hc0
  clear hr0 hc0
  have HB := Aside0.mk (Below.refl w.heap.size w)
  have H : (if ((l0.length : Int) % 8) > 0 then (des_New.j0 k l0 (wrap64 ((l0.length : Int) / 8)) true) else (if (wrap64 ((l0.length : Int) / 8)) < 1 then (des_New.j0 k l0 (wrap64 ((l0.length : Int) / 8)) true) else (des_New.j0 k l0 (wrap64 ((l0.length : Int) / 8)) (decide ((wrap64 ((l0.length : Int) / 8)) > 3))))) = some (r1, r2) := h
  clear h
  have HC2 := Aside0.mk H
  clear H
  go_enter Try.func18, Try.ntmps18
  go_upto_region 2 with (fail)
  go_cut [23] (fun v23 wc => ∃ (kq : Nat) (x23_1 : Bool), v23 = .bool x23_1 ∧ Aside0 (des_New.j0 kq l0 (wrap64 ((l0.length : Int) / 8)) x23_1 = some (r1, r2)) ∧ Aside0 (kq ≤ k) ∧ Aside0 (Below w.heap.size w wc))
  case first =>
    have H := HC2.out
    clear HC2
    by_cases c3 : ((l0.length : Int) % 8) > 0
    · rw [if_pos c3] at H
      have c3b0 : decide (0 < ((l0.length : Int) % 8)) = true := decide_eq_true c3
      clear c3
      (first | rw [c3b0] | (simp only [i64_w, i32_w]; rw [c3b0]) | skip)
      have H' := Aside0.mk H
      clear H
      go_wp2
      go_meet
      case rel => exact ⟨_, (true), (by first | rfl | (simp; done) | (simp [*]; done)), H', ⟨by first | omega | exact Nat.le_refl _⟩, ⟨by repeat (first | (with_reducible first | exact HB.out | apply below_alloc | apply pw_below_drewN | apply below_drew1) | exact HB.out)⟩⟩
    · rw [if_neg c3] at H
      have c3b0 : decide (0 < ((l0.length : Int) % 8)) = false := decide_eq_false c3
      clear c3
      (first | rw [c3b0] | (simp only [i64_w, i32_w]; rw [c3b0]) | skip)
      by_cases c4 : (wrap64 ((l0.length : Int) / 8)) < 1
      · rw [if_pos c4] at H
        have c4b0 : decide ((wrap64 ((l0.length : Int) / 8)) < 1) = true := decide_eq_true c4
        clear c4
        have H' := Aside0.mk H
        clear H
        go_wp2
        go_meet
        case rel => exact ⟨_, (true), (by first | rfl | (simp; done) | (simp [*]; done)), H', ⟨by first | omega | exact Nat.le_refl _⟩, ⟨by repeat (first | (with_reducible first | exact HB.out | apply below_alloc | apply pw_below_drewN | apply below_drew1) | exact HB.out)⟩⟩
      · rw [if_neg c4] at H
        have c4b0 : decide ((wrap64 ((l0.length : Int) / 8)) < 1) = false := decide_eq_false c4
        clear c4
        have H' := Aside0.mk H
        clear H
        go_wp2
        go_meet
        case rel => exact ⟨_, (decide ((wrap64 ((l0.length : Int) / 8)) > 3)), (by first | rfl | (simp; done) | (simp [*]; done)), H', ⟨by first | omega | exact Nat.le_refl _⟩, ⟨by repeat (first | (with_reducible first | exact HB.out | apply below_alloc | apply pw_below_drewN | apply below_drew1) | exact HB.out)⟩⟩
  case rest =>
    clear HC2
    try clear c1
    try clear p2
    try clear c3
    try clear c3b0
    try clear c4
    try clear c4b0
    obtain ⟨kq, x23_1, rfl, HA, HJ1, HB⟩ := hcut
    cases kq with
    | zero => exact absurd HA.out (by simp [des_New.j0])
    | succ kj1 =>
      have H := HA.out
      clear HA
      simp only [des_New.j0] at H
      by_cases c5 : x23_1 = true
      · subst c5
        have H1 : (some (([] : List (List (List Int))), 4)) = some (r1, r2) := by rw [if_pos rfl] at H; exact H
        clear H
        have H := H1
        clear H1
        simp only [Option.some.injEq, Prod.mk.injEq] at H
        obtain ⟨rfl, rfl⟩ := H
        go_wp2
        go_ret2
        exact ⟨_, by first | rfl | (simp [errW_none, errW_some] <;> rfl) | (simp [*, errW_none, errW_some] <;> rfl), Ptr.D_nil _ _ _ _ _, by repeat (first | (with_reducible first | exact HB.out | apply below_alloc | apply pw_below_drewN | apply below_drew1) | exact HB.out)⟩
      · replace c5 := Bool.eq_false_iff.mpr c5
        subst c5
        have H1 : (des_New.l0 kj1 l0 (wrap64 ((l0.length : Int) / 8)) ([] : List (List (List Int))) (wrap64 ((l0.length : Int) / 8)) 0) = some (r1, r2) := by rw [if_neg (show ¬ (false = true) by decide)] at H; exact H
        clear H
        have H := H1
        clear H1
        have H' := Aside0.mk H
        clear H
        go_wp2
        have HWC := Aside0.mk (below_size HB.out)
        go_loopg [27] kj1 (fun kq v27 w' => ∃ (u5 : Value) (x5_2 : List (List (List Int))) (x27_2 : Int), v27 = .int .i64 x27_2 ∧ Aside0 (des_New.l0 kq l0 (wrap64 ((l0.length : Int) / 8)) x5_2 (wrap64 ((l0.length : Int) / 8)) x27_2 = some (r1, r2)) ∧ Aside0 (kq ≤ kj1) ∧ Aside0 (Kd.N (Kd.slice 22 (Kd.slice 5 (Kd.int .u8))) 24 w' w.heap.size (fun k_ => (w.heap.size ≤ k_ ∧ k_ ≠ wc.heap.size)) u5 x5_2) ∧ Aside0 (w'.heap[wc.heap.size]? = some (.cells #[u5] 66 (0, 0))) ∧ Aside0 (Below w.heap.size w w'))
        case atStart => exact ⟨.slice none 0 0, (([] : List (List (List Int)))), (0), (by first | rfl | (simp; done) | (simp [*]; done)), H', ⟨Nat.le_refl _⟩, ⟨by first | exact Kd.R_nil _ _ _ _ _ | exact Kd.N_nil _ _ _ _ _ | exact Kd.V_nil _ _ _ _ _ | exact Kd.Q_nil _ _ _ _ _ | exact Kd.S_nil _ _ _ _ _⟩, ⟨blk_new wc _⟩, ⟨by repeat (first | (with_reducible first | exact HB.out | apply below_alloc | apply pw_below_drewN | apply below_drew1) | exact HB.out)⟩⟩
        case round =>
          clear H'
          try clear c1
          try clear p2
          try clear c3
          try clear c3b0
          try clear c4
          try clear c4b0
          try clear c5
          try clear p2
          obtain ⟨u5, x5_2, x27_2, rfl, HA, HK2, HO_5, HG, HB⟩ := hrel
          cases gk with
          | zero => exact absurd HA.out (by simp [des_New.l0])
          | succ k2 =>
            have H := HA.out
            clear HA
            simp only [des_New.l0] at H
            by_cases c6 : x27_2 < (wrap64 ((l0.length : Int) / 8))
            · rw [if_pos c6] at H
              have c6b0 : decide (x27_2 < (wrap64 ((l0.length : Int) / 8))) = true := decide_eq_true c6
              clear c6
              obtain ⟨ji7, hji7⟩ : ∃ j_ : Int, (wrap64 (8 * x27_2)) = j_ := ⟨_, rfl⟩
              replace H : (if 0 ≤ (ji7) then (if (ji7) ≤ (wrap64 (8 * (wrap64 (x27_2 + 1)))) then (if (wrap64 (8 * (wrap64 (x27_2 + 1)))) ≤ (l0.length : Int) then ((des_Keys.f k2 ((l0.take ((wrap64 (8 * (wrap64 (x27_2 + 1)))) : Int).toNat).drop ((ji7) : Int).toNat)).bind fun bt196 => (if x5_2.length < 5864062014805 then (des_New.l0 k2 l0 (wrap64 ((l0.length : Int) / 8)) (x5_2 ++ [bt196.1]) (wrap64 ((l0.length : Int) / 8)) (wrap64 (x27_2 + 1))) else (none))) else (none)) else (none)) else (none)) = some (r1, r2) := by first | (rw [hji7] at H; exact H) | (simp only [hji7] at H ⊢; exact H)
              have hji7w : (IntKind.i64.wrap (8 * x27_2)) = ji7 := (i64_w _).trans hji7
              by_cases c8 : 0 ≤ (ji7)
              rotate_left
              · rw [if_neg c8] at H
                exact absurd H (by simp)
              rw [if_pos c8] at H
              have c8b0 := eq_true c8
              have c8b1 : decide (0 ≤ (ji7)) = true := decide_eq_true c8
              clear c8
              by_cases c9 : (ji7) ≤ (wrap64 (8 * (wrap64 (x27_2 + 1))))
              rotate_left
              · rw [if_neg c9] at H
                exact absurd H (by simp)
              rw [if_pos c9] at H
              have c9b0 := eq_true c9
              have c9b1 : decide ((ji7) ≤ (wrap64 (8 * (wrap64 (x27_2 + 1))))) = true := decide_eq_true c9
              by_cases c10 : (wrap64 (8 * (wrap64 (x27_2 + 1)))) ≤ (l0.length : Int)
              rotate_left
              · rw [if_neg c10] at H
                exact absurd H (by simp)
              rw [if_pos c10] at H
              have c10b0 := eq_true c10
              have c10b1 : decide ((wrap64 (8 * (wrap64 (x27_2 + 1)))) ≤ (l0.length : Int)) = true := decide_eq_true c10
              replace H := Option.bind_eq_some_iff.mp H
              obtain ⟨⟨t196, t197⟩, A110, H⟩ := H
              replace H : (if x5_2.length < 5864062014805 then (des_New.l0 k2 l0 (wrap64 ((l0.length : Int) / 8)) (x5_2 ++ [t196]) (wrap64 ((l0.length : Int) / 8)) (wrap64 (x27_2 + 1))) else (none)) = some (r1, r2) := H
              have A11 := Aside0.mk A110
              clear A110
              by_cases c12 : x5_2.length < 5864062014805
              rotate_left
              · rw [if_neg c12] at H
                exact absurd H (by simp)
              rw [if_pos c12] at H
              have LMc12 := Aside0.mk c12
              clear c12
              obtain ⟨y200, hy200⟩ : ∃ y_ : List (List (List Int)), y_ = (x5_2 ++ [t196]) := ⟨_, rfl⟩
              replace H : (des_New.l0 k2 l0 (wrap64 ((l0.length : Int) / 8)) y200 (wrap64 ((l0.length : Int) / 8)) (wrap64 (x27_2 + 1))) = some (r1, r2) := by first | (rw [hy200]; with_reducible exact H) | (have H2_ := (Option.bind_some _ _).symm.trans H; rw [hy200]; with_reducible exact H2_) | (have H2_ := (Option.bind_some _ _).symm.trans H; with_reducible exact H2_) | with_reducible exact H | (rw [hy200]; exact H) | exact H
              have Ny200 := Aside0.mk hy200
              clear hy200
              have H' := Aside0.mk H
              clear H
              obtain ⟨i013, hi013, _, hsz13, _⟩ := info_parts info5
              obtain ⟨A13, hcut13, hA13, hC13⟩ := print_mid_of (P := Try.prog) (Value.int .u8) 0 22 5 .i64 .i64 Try.underlying22 hi013 hsz13 A0 c0 l0 (ji7) (wrap64 (8 * (wrap64 (x27_2 + 1)))) (of_decide_eq_true (by first | (with_reducible assumption) | assumption)) (by first | omega | exact of_decide_eq_true (by first | (with_reducible assumption) | assumption)) (of_decide_eq_true (by first | (with_reducible assumption) | assumption)) HC0.out
              have HR195 := Aside0.mk (Kd.C_of_reads (h1 := fun _ => rfl) (hA13 _ (Kd.reads_of_C HR0.out)))
              have HC195 := Aside0.mk hC13
              clear hA13 hC13 hi013 hsz13
              go_wp2_with (first | ((with_reducible refine gate_callee (f := 11) rfl ?_); refine goesL_ (some 38) rfl rfl Try.func11 (by kernel_rfl) rfl #[.slice A13 ((l0.take ((wrap64 (8 * (wrap64 (x27_2 + 1)))) : Int).toNat).drop ((ji7) : Int).toNat).length (c0 - (ji7).toNat)] rfl (by (try simp only [List.map_toArray, List.map_cons, List.map_nil]); first | done | (rw [show ((l0.take ((wrap64 (8 * (wrap64 (x27_2 + 1)))) : Int).toNat).drop ((ji7) : Int).toNat).length = ((wrap64 (8 * (wrap64 (x27_2 + 1)))).toNat - (ji7).toNat) from (by rw [List.length_drop, List.length_take]; have h_ : ((wrap64 (8 * (wrap64 (x27_2 + 1)))) : Int) ≤ (l0.length : Int) := of_decide_eq_true (by first | (with_reducible assumption) | assumption); omega)] <;> rfl) | (simp only [hji7]; rfl) | rfl | (simp only [List.length_drop, List.length_take]; rfl)) ?_; (with_reducible refine (des_Keys.calls k2 _ _ ((l0.take ((wrap64 (8 * (wrap64 (x27_2 + 1)))) : Int).toNat).drop ((ji7) : Int).toNat) t196 t197 _ ?side1 ?side2 A11.out).mono ?_); (case side1 => repeat (first | exact (Kd.C_below HR195.out HB.out) | (with_reducible refine Kd.C_alloc ?_ _) | (with_reducible refine Kd.C_drewN ?_ _) | (with_reducible refine Kd.C_drew ?_))); (case side2 => exact HC195.out); rintro e w14 ⟨v198, rfl, ho0, hb⟩; refine ⟨_, rfl, ?_⟩; have n0_ := Aside0.mk (Kd.N_elder' HO_5.out (Kd.R_base (Kd.S_R ho0)) hb); have n1_ := Aside0.mk (Kd.N_lower (Kd.N_mono (ok' := fun k_ => (w.heap.size ≤ k_ ∧ k_ ≠ wc.heap.size) ∧ some k_ ≠ (u5 : Value).ownBlock) (Kd.S_N (Kd.S_bound ho0)) (fun k_ hk_ => ⟨⟨(Nat.le_trans (below_size HB.out) hk_.2.1), fun e_ => by have h1_ := blk_lt HG.out; have h2_ := hk_.2.1; omega⟩, (Kd.fresh' (Kd.N_lt HO_5.out) k_ hk_.2.1)⟩)) (below_size HB.out)); have n2_ := Aside0.mk (below_step HB.out hb); have n3_ := Aside0.mk (blk_below HG.out hb); clear HG; clear HO_5; clear HB; have HG := n3_; have HO_5 := n0_; have HO199 := n1_; have HB := n2_; clear n0_ n1_ n2_ n3_; have hx9 := (blk_cell HG.out 0).trans (rfl : _ = some u5); (try clear hb); (try clear hb2); (try clear hk); (try clear hi); (try clear ho0); obtain ⟨Ao16, co16, eo16⟩ := Kd.N_slice HO199.out; subst eo16) | ((with_reducible refine gate_builtin (b := .append) (xs := #[.tmp 45, .tmp 47]) rfl ?_); at_builtin; refine Kd.N_append (Kd.slice 22 (Kd.slice 5 (Kd.int .u8))) (w0 := w) w.heap.size rfl (.tmp 45) (.tmp 47) 64 24 (.slice none 0 0) 24 rfl Try.underlying64 info24 rfl (by decide) (by omega) u5 x5_2 t196 [.slice Ao16 t196.length co16] (fun k_ => (w.heap.size ≤ k_ ∧ k_ ≠ wc.heap.size)) (fun k_ => ((fun k_ => (w.heap.size ≤ k_ ∧ k_ ≠ wc.heap.size))) k_ ∧ some k_ ≠ (u5 : Value).ownBlock) rfl rfl ?aP (fun _ hk => hk) ?aF ?aO ?aB ?aS ?aL ?_; (case aP => exact (Kd.FK_slice_mk (Kd.N_reads' (Kd.N_mono (ok' := (fun k_ => ((fun k_ => (w.heap.size ≤ k_ ∧ k_ ≠ wc.heap.size))) k_ ∧ some k_ ≠ (u5 : Value).ownBlock)) (HO199.out) (fun k_ hk => ⟨hk.1, hk.2⟩))).2.1 (Kd.N_F (Kd.N_mono (ok' := (fun k_ => ((fun k_ => (w.heap.size ≤ k_ ∧ k_ ≠ wc.heap.size))) k_ ∧ some k_ ≠ (u5 : Value).ownBlock)) (HO199.out) (fun k_ hk => ⟨hk.1, hk.2⟩))))); (case aB => exact HB.out); (case aF => exact (fun k_ hk => ⟨Nat.le_trans (below_size HB.out) hk, fun e_ => by have h1_ := blk_lt HG.out; omega⟩)); (case aO => exact (Kd.N_mono HO_5.out (fun _ hk => hk.1))); (case aS => exact (below_size HB.out)); (case aL => have := LMc12.out; omega); intro v201 w15 ho hb hg hat; rw [← Ny200.out] at ho; have n2_ := Aside0.mk (blk_grown HG.out hg (Kd.N_away HO_5.out (fun _ hk => hk.1.2))); clear hx9 HG; have HG := n2_; have hx9 := (blk_cell HG.out 0).trans (rfl : _ = some u5); have hf9 := blk_frozen HG.out 0; have n0_ := Aside0.mk (hb); have n1_ := Aside0.mk (ho); clear HB; clear HO_5; clear HO199; have HB := n0_; have HO202 := n1_; clear n0_ n1_ n2_; clear ho hb hg hat; obtain ⟨Ao17, co17, eo17⟩ := Kd.N_slice HO202.out; subst eo17))
              go_roundg k2
              case measure => have := HJ1.out; have := HK2.out; omega
              case rel => exact ⟨_, (y200), (wrap64 (x27_2 + 1)), (by first | rfl | (simp; done) | (simp [*]; done)), H', ⟨by have := HJ1.out; have := HK2.out; omega⟩, ⟨Kd.N_far HO202.out (fun _ hk => hk.2) _⟩, ⟨blk_put HG.out 0 _ rfl⟩, ⟨below_set HB.out HWC.out⟩⟩
            · rw [if_neg c6] at H
              have c6b0 : decide (x27_2 < (wrap64 ((l0.length : Int) / 8))) = false := decide_eq_false c6
              clear c6
              by_cases c17 : (wrap64 ((l0.length : Int) / 8)) = 2
              · rw [if_pos c17] at H
                have c17b0 : ((wrap64 ((l0.length : Int) / 8)) == 2) = true := beq_iff_eq.mpr c17
                have c17b1 : ((wrap64 ((l0.length : Int) / 8)) != 2) = false := bne_eq_false_iff_eq.mpr c17
                clear c17
                by_cases c18 : 0 < (x5_2.length : Int)
                rotate_left
                · rw [if_neg c18] at H
                  exact absurd H (by simp)
                rw [if_pos c18] at H
                have c18b0 : decide (0 < (x5_2.length : Int)) = true := decide_eq_true c18
                have c18b1 : decide (0 < x5_2.length) = true := decide_eq_true (by omega)
                clear c18
                by_cases c19 : x5_2.length < 5864062014805
                rotate_left
                · rw [if_neg c19] at H
                  exact absurd H (by simp)
                rw [if_pos c19] at H
                have LMc19 := Aside0.mk c19
                clear c19
                obtain ⟨y204, hy204⟩ : ∃ y_ : List (List (List Int)), y_ = (x5_2 ++ [rd_L3 x5_2 0]) := ⟨_, rfl⟩
                replace H : (some (y204, 0)) = some (r1, r2) := by first | (rw [hy204]; with_reducible exact H) | (have H2_ := (Option.bind_some _ _).symm.trans H; rw [hy204]; with_reducible exact H2_) | (have H2_ := (Option.bind_some _ _).symm.trans H; with_reducible exact H2_) | with_reducible exact H | (rw [hy204]; exact H) | exact H
                have Ny204 := Aside0.mk hy204
                clear hy204
                simp only [Option.some.injEq, Prod.mk.injEq] at H
                obtain ⟨rfl, rfl⟩ := H
                try go_wp2
                have n0_ := Aside0.mk (Kd.N_drew HO_5.out)
                have n1_ := Aside0.mk (below_drew1 HB.out)
                have n2_ := Aside0.mk (blk_drew HG.out)
                clear HG
                have HG := n2_
                clear HO_5
                clear HB
                have HO_5 := n0_
                have HB := n1_
                clear n0_ n1_ n2_
                obtain ⟨Ao21, co21, eo21⟩ := Kd.N_slice HO_5.out
                (first | subst eo21 | (injection eo21 with f1_ f2_ f3_; have f4_ := f1_.symm; have f5_ := f3_.symm; clear f1_ f2_ f3_; subst f4_; subst f5_))
                have p203 : 0 ≤ (0 : Int) := (by omega)
                have q203 : 0 < (x5_2.length : Int) := of_decide_eq_true (by first | (with_reducible assumption) | assumption)
                obtain ⟨ad203, A203_0, c203_0, e203, hx203_0, hl203_0, hi203_0⟩ := at_L3 (Kd.N_reads' HO_5.out).2.2 0 p203 q203
                cases e203
                obtain ⟨ce203, hce203, hMe203, hcc203⟩ := Kd.N_get HO_5.out [] 0 p203 (by first | exact q203 | exact of_decide_eq_true (by first | (with_reducible assumption) | assumption) | (have e_ := (Kd.N_reads' HO_5.out).1; omega))
                obtain ⟨ua203_0, uc203_0, rfl, ul203_0, ge203_0⟩ := Kd.FK_slice_open hMe203
                have hv203_0 := hcc203 0 _ rfl
                rw [Nat.add_zero, show ((Kd.slice 22 (Kd.slice 5 (Kd.int .u8)))).sz = 1 from rfl, Nat.mul_one] at hv203_0
                replace hv203_0 := Option.some.inj (hv203_0.symm.trans hx203_0)
                injection hv203_0 with hva_ hvn_ hvc_
                rw [hva_] at ge203_0
                rw [hvc_] at ul203_0
                have HL203_0 := Aside0.mk (show Kd.V (Kd.slice 5 (Kd.int .u8)) 22 _ w.heap.size _ _ (rd_L3 x5_2 0) from Kd.V_mk ul203_0 ge203_0)
                clear hva_ hvn_ hvc_ ge203_0 ul203_0
                clear hcc203 hce203
                have qi203 : (0 < x5_2.length) = True := eq_true (by omega)
                (try rw [show ((0 : Int)).toNat = 0 from rfl] at hx203_0)
                (try rw [Addr.add_zero'] at hx203_0)
                have HR203_0 := Aside0.mk hi203_0
                have HC203_0 := Aside0.mk hl203_0
                clear hi203_0 hl203_0
                replace p203 := eq_true p203
                replace q203 := eq_true q203
                have hx9 := (blk_cell HG.out 0).trans (rfl : _ = some (Value.slice (some ad203) x5_2.length co21))
                refine start_ (n := 16) (S := fun w' => w'.cell? ⟨wc.heap.size, 0, none⟩ = some (.slice (some ad203) x5_2.length co21) ∧ w'.cell? ad203 = some (.slice A203_0 (rd_L3 x5_2 0).length c203_0)) (ds := [12, 15]) #[false, false, false, false, false, false, false, false, false, false, false, false, false, false, false, false] (by kernel_rfl) rfl rfl ⟨hx9, hx203_0⟩ (fun hHeld => ?_)
                generalize wr.drew = w20 at HO_5 HB HG HL203_0 HR203_0 hx203_0 hx9 hHeld ⊢
                refine pure_ (i := 0) (N := some 54) (v := ?_) (a' := ?_) #[true, false, false, false, false, false, false, false, false, false, false, false, false, false, false, false] rfl rfl (by kernel_rfl) (fun _ _ _ h => h) (Or.inl ⟨by rfl, ?_⟩) ?_ ?_
                rotate_left
                · intro w'
                  go_simp
                  with_reducible rfl
                rotate_left
                · simp only [Act.put, List.setIfInBounds_toArray, List.set_cons_zero, List.set_cons_succ, i64_w, i32_w]
                  rfl
                refine pure_ (i := 1) (N := some 55) (v := ?_) (a' := ?_) #[true, true, false, false, false, false, false, false, false, false, false, false, false, false, false, false] rfl rfl (by kernel_rfl) (fun _ _ _ h => h) (Or.inl ⟨by rfl, ?_⟩) ?_ ?_
                rotate_left
                · intro w'
                  go_simp
                  with_reducible rfl
                rotate_left
                · simp only [Act.put, List.setIfInBounds_toArray, List.set_cons_zero, List.set_cons_succ, i64_w, i32_w]
                  rfl
                refine pure_ (i := 2) (N := some 56) (v := ?_) (a' := ?_) #[true, true, true, false, false, false, false, false, false, false, false, false, false, false, false, false] rfl rfl (by kernel_rfl) (fun _ _ _ h => h) (Or.inl ⟨by rfl, ?_⟩) ?_ ?_
                rotate_left
                · intro w'
                  go_simp
                  with_reducible rfl
                rotate_left
                · simp only [Act.put, List.setIfInBounds_toArray, List.set_cons_zero, List.set_cons_succ, i64_w, i32_w]
                  rfl
                refine pure_ (i := 3) (N := some 57) (v := ?_) (a' := ?_) #[true, true, true, true, false, false, false, false, false, false, false, false, false, false, false, false] rfl rfl (by kernel_rfl) (fun _ _ _ h => h) (Or.inl ⟨by rfl, ?_⟩) ?_ ?_
                rotate_left
                · intro w'
                  go_simp
                  with_reducible rfl
                rotate_left
                · simp only [Act.put, List.setIfInBounds_toArray, List.set_cons_zero, List.set_cons_succ, i64_w, i32_w]
                  rfl
                refine take_ (i := 4) (N := some 58) (v := ?_) (a' := ?_) #[true, true, true, true, true, false, false, false, false, false, false, false, false, false, false, false] rfl rfl (by kernel_rfl) (fun _ _ _ h => h) (Or.inl ⟨by rfl, ?_⟩) hHeld ?_ ?_
                rotate_left
                · intro w' s0
                  obtain ⟨s1, s2⟩ := s0
                  go_simp
                  with_reducible rfl
                rotate_left
                · simp only [Act.put, List.setIfInBounds_toArray, List.set_cons_zero, List.set_cons_succ, i64_w, i32_w]
                  rfl
                refine pure_ (i := 5) (N := some 59) (v := ?_) (a' := ?_) #[true, true, true, true, true, true, false, false, false, false, false, false, false, false, false, false] rfl rfl (by kernel_rfl) (fun _ _ _ h => h) (Or.inl ⟨by rfl, ?_⟩) ?_ ?_
                rotate_left
                · intro w'
                  go_simp
                  with_reducible rfl
                rotate_left
                · simp only [Act.put, List.setIfInBounds_toArray, List.set_cons_zero, List.set_cons_succ, i64_w, i32_w]
                  rfl
                refine pure_ (i := 6) (N := some 60) (v := ?_) (a' := ?_) #[true, true, true, true, true, true, true, false, false, false, false, false, false, false, false, false] rfl rfl (by kernel_rfl) (fun _ _ _ h => h) (Or.inl ⟨by rfl, ?_⟩) ?_ ?_
                rotate_left
                · intro w'
                  go_simp
                  with_reducible rfl
                rotate_left
                · simp only [Act.put, List.setIfInBounds_toArray, List.set_cons_zero, List.set_cons_succ, i64_w, i32_w]
                  rfl
                refine pure_ (i := 7) (N := some 61) (v := ?_) (a' := ?_) #[true, true, true, true, true, true, true, true, false, false, false, false, false, false, false, false] rfl rfl (by kernel_rfl) (fun _ _ _ h => h) (Or.inl ⟨by rfl, ?_⟩) ?_ ?_
                rotate_left
                · intro w'
                  go_simp
                  with_reducible rfl
                rotate_left
                · simp only [Act.put, List.setIfInBounds_toArray, List.set_cons_zero, List.set_cons_succ, i64_w, i32_w]
                  rfl
                refine take_ (i := 8) (N := some 62) (v := ?_) (a' := ?_) #[true, true, true, true, true, true, true, true, true, false, false, false, false, false, false, false] rfl rfl (by kernel_rfl) (fun _ _ _ h => h) (Or.inl ⟨by rfl, ?_⟩) hHeld ?_ ?_
                rotate_left
                · intro w' s0
                  obtain ⟨s1, s2⟩ := s0
                  go_simp
                  with_reducible rfl
                rotate_left
                · simp only [Act.put, List.setIfInBounds_toArray, List.set_cons_zero, List.set_cons_succ, i64_w, i32_w]
                  rfl
                refine pure_ (i := 9) (N := some 63) (v := ?_) (a' := ?_) #[true, true, true, true, true, true, true, true, true, true, false, false, false, false, false, false] rfl rfl (by kernel_rfl) (fun _ _ _ h => h) (Or.inl ⟨by rfl, ?_⟩) ?_ ?_
                rotate_left
                · intro w'
                  go_simp
                  with_reducible rfl
                rotate_left
                · simp only [Act.put, List.setIfInBounds_toArray, List.set_cons_zero, List.set_cons_succ, i64_w, i32_w]
                  rfl
                refine take_ (i := 10) (N := some 64) (v := ?_) (a' := ?_) #[true, true, true, true, true, true, true, true, true, true, true, false, false, false, false, false] rfl rfl (by kernel_rfl) (fun _ _ _ h => h) (Or.inl ⟨by rfl, ?_⟩) hHeld ?_ ?_
                rotate_left
                · intro w' s0
                  obtain ⟨s1, s2⟩ := s0
                  go_simp
                  with_reducible rfl
                rotate_left
                · simp only [Act.put, List.setIfInBounds_toArray, List.set_cons_zero, List.set_cons_succ, i64_w, i32_w]
                  rfl
                refine one_ (i := 11) (N := some 65) #[true, true, true, true, true, true, true, true, true, true, true, true, false, false, false, false] rfl rfl (by kernel_rfl) (by decide) (fun K hK => ?_)
                refine value_ (w1 := ?_) (v := ?_) (by rfl) rfl ?_ ?_
                rotate_left 2
                · go_simp
                  constructor
                  · rfl
                  · rfl
                refine hK.out _ _ ⟨pw_cell_below (below_alloc (Below.refl _ _) _) hx9, pw_cell_below (below_alloc (Below.refl _ _) _) hx203_0⟩ (fun hHeld => ?_)
                clear hK K
                refine norm_ (a' := ?_) ?_ ?_
                rotate_left
                · show Act.put _ (some 65) _ = _
                  simp only [Act.put, List.setIfInBounds_toArray, List.set_cons_zero, List.set_cons_succ, i64_w, i32_w]
                  rfl
                refine last_ (i := 12) (N := some 66) #[true, true, true, true, true, true, true, true, true, true, true, true, true, false, false, false] rfl rfl (by kernel_rfl) (by decide) (fun K hK => ?_)
                refine Kd.N_append_step (Kd.slice 22 (Kd.slice 5 (Kd.int .u8))) (w0 := w) w.heap.size (by rfl) (.tmp 58) (.tmp 65) 64 24 (.slice none 0 0) 24 rfl Try.underlying64 info24 rfl (by decide) (by omega) (.slice (some ad203) x5_2.length co21) x5_2 (rd_L3 x5_2 0) [.slice A203_0 (rd_L3 x5_2 0).length c203_0] (fun k_ => (w.heap.size ≤ k_ ∧ k_ ≠ wc.heap.size)) (fun k_ => ((fun k_ => (w.heap.size ≤ k_ ∧ k_ ≠ wc.heap.size))) k_ ∧ some k_ ≠ (.slice (some ad203) x5_2.length co21 : Value).ownBlock) rfl rfl ?aP (fun _ hk => hk) ?aF ?aO ?aB ?aS ?aL ?_
                (case aP => exact (Kd.FK_slice_mk (Kd.V_reads' (Kd.V_mono (ok' := (fun k_ => ((fun k_ => (w.heap.size ≤ k_ ∧ k_ ≠ wc.heap.size))) k_ ∧ some k_ ≠ (.slice (some ad203) x5_2.length co21 : Value).ownBlock)) (HL203_0.out) (fun k_ hk => ⟨hk.1, hk.2⟩))).2.1 (Kd.V_F (Kd.V_mono (ok' := (fun k_ => ((fun k_ => (w.heap.size ≤ k_ ∧ k_ ≠ wc.heap.size))) k_ ∧ some k_ ≠ (.slice (some ad203) x5_2.length co21 : Value).ownBlock)) (HL203_0.out) (fun k_ hk => ⟨hk.1, hk.2⟩)))))
                (case aB => exact HB.out)
                (case aF => exact (fun k_ hk => ⟨Nat.le_trans (below_size HB.out) hk, fun e_ => by have h1_ := blk_lt HG.out; omega⟩))
                (case aO => exact HO_5.out)
                (case aS => exact (below_size HB.out))
                (case aL => have := LMc19.out; omega)
                intro v205 w22 ho hb hg hat
                rw [← Ny204.out] at ho
                have n0_ := Aside0.mk (Kd.V_afterv (ok := (fun k_ => (w.heap.size ≤ k_ ∧ k_ ≠ wc.heap.size))) HL203_0.out hg hat)
                have n1_ := Aside0.mk (hb)
                have n2_ := Aside0.mk (ho)
                have n3_ := Aside0.mk (blk_grown HG.out hg (Kd.N_away HO_5.out (fun _ hk => hk.2)))
                clear hx9 HG
                have HG := n3_
                clear HL203_0
                clear HB
                clear HO_5
                have HL203_0 := n0_
                have HB := n1_
                have HO206 := n2_
                clear n0_ n1_ n2_ n3_
                clear ho hb hg hat
                obtain ⟨Ao22, co22, eo22⟩ := Kd.N_slice HO206.out
                subst eo22
                refine hK.out _ _ ?_
                clear hK K
                refine norm_ (a' := ?_) ?_ ?_
                rotate_left
                · show Act.put _ (some 66) _ = _
                  simp only [Act.put, List.setIfInBounds_toArray, List.set_cons_zero, List.set_cons_succ, i64_w, i32_w]
                  rfl
                refine pure_ (i := 13) (N := some 67) (v := ?_) (a' := ?_) #[true, true, true, true, true, true, true, true, true, true, true, true, true, true, false, false] rfl rfl (by kernel_rfl) (fun _ _ _ h => h) (Or.inl ⟨by rfl, ?_⟩) ?_ ?_
                rotate_left
                · intro w'
                  go_simp
                  with_reducible rfl
                rotate_left
                · simp only [Act.put, List.setIfInBounds_toArray, List.set_cons_zero, List.set_cons_succ, i64_w, i32_w]
                  rfl
                refine pure_ (i := 14) (N := some 68) (v := ?_) (a' := ?_) #[true, true, true, true, true, true, true, true, true, true, true, true, true, true, true, false] rfl rfl (by kernel_rfl) (fun _ _ _ h => h) (Or.inl ⟨by rfl, ?_⟩) ?_ ?_
                rotate_left
                · intro w'
                  go_simp
                  with_reducible rfl
                rotate_left
                · simp only [Act.put, List.setIfInBounds_toArray, List.set_cons_zero, List.set_cons_succ, i64_w, i32_w]
                  rfl
                refine last_ (i := 15) (N := none) #[true, true, true, true, true, true, true, true, true, true, true, true, true, true, true, true] rfl rfl (by kernel_rfl) (by decide) (fun K hK => ?_)
                have hx9 := blk_cell HG.out 0
                have hf9 := blk_frozen HG.out 0
                refine skip_ (w1 := w22.setCell ⟨wc.heap.size, 0, none⟩ (.slice Ao22 y204.length co22)) (by rfl) rfl ?_ ?_
                · first | (go_simp; done) | (go_simp; rfl)
                refine hK.out _ _ ?_
                clear hK K
                refine norm_ (a' := ?_) ?_ ?_
                rotate_left
                · rfl
                refine done_ (by kernel_rfl) ?_
                try go_wp2
                go_ret2
                exact ⟨_, by first | rfl | (simp [errW_none, errW_some] <;> rfl), Ptr.D_mk (fun e_ => by have h_ := Ny204.out; rw [e_] at h_; simp at h_) (blk_put HG.out 0 _ rfl) (Kd.V_mono (Kd.N_V (base' := w.heap.size) (Kd.N_far HO206.out (fun _ hk => hk.2) _)) (fun _ hk => hk.1)) HWC.out, below_set HB.out HWC.out⟩
              · rw [if_neg c17] at H
                have c17b0 : ((wrap64 ((l0.length : Int) / 8)) == 2) = false := beq_eq_false_iff_ne.mpr c17
                have c17b1 : ((wrap64 ((l0.length : Int) / 8)) != 2) = true := bne_iff_ne.mpr c17
                by_cases c20 : 0 < (x5_2.length : Int)
                · rw [if_pos c20] at H
                  simp only [Option.some.injEq, Prod.mk.injEq] at H
                  obtain ⟨rfl, rfl⟩ := H
                  obtain ⟨Ao21, co21, eo21⟩ := Kd.N_slice HO_5.out
                  subst eo21
                  go_wp2
                  go_ret2
                  exact ⟨_, by first | rfl | (simp [errW_none, errW_some] <;> rfl), Ptr.D_mk (fun e_ => by rw [e_] at c20; simp at c20) HG.out (Kd.V_mono (Kd.N_V (base' := w.heap.size) HO_5.out) (fun _ hk => hk.1)) HWC.out, HB.out⟩
                · rw [if_neg c20] at H
                  exact absurd H (by simp)

/-! ### slices_Clone_byte_byte: function 40 -/
def slices_Clone_byte_byte.f (l0 : List (List Int)) : Option (List (List Int)) := if l0.length < 5864062014805 then some l0 else none
set_option maxHeartbeats 8000000 in
set_option maxRecDepth 100000 in
theorem slices_Clone_byte_byte.calls (A0 : Option Addr) (c0 : Nat) (l0 : List (List Int)) (r : List (List Int)) (w : World) {ok0 : Nat → Prop} (hr0 : Kd.F (Kd.slice 5 (Kd.int .u8)) w ok0 A0 l0.length l0) (hc0 : l0.length ≤ c0) (h : slices_Clone_byte_byte.f l0 = some r) :
    Calls Try.prog 40 #[.slice A0 l0.length c0] w fun e w' => ∃ v0_ : Value, e = .returned (v0_) ∧ Kd.N (Kd.slice 5 (Kd.int .u8)) 22 w' w.heap.size (fun k => ok0 k ∨ w.heap.size ≤ k) v0_ r ∧ Below w.heap.size w w' := by
  have HR0 := Aside0.mk hr0
  clear hc0
  have HB := Aside0.mk (Below.refl w.heap.size w)
  unfold slices_Clone_byte_byte.f at h
  by_cases hl : l0.length < 5864062014805
  · rw [if_pos hl] at h
    obtain rfl := Option.some.inj h
    have LM := Aside0.mk hl
    clear hl h
    have heq := fun (w : World) (n c : Nat) => Lib.run_eql_slice_nil (P := Try.prog) w 24 22 A0 n c 0 0 Try.underlying24
    cases A0 with
    | none =>
      obtain rfl : l0 = [] := by
        cases l0 with
        | nil => rfl
        | cons x xs => obtain ⟨ad, e, _⟩ := (Kd.F_now hr0).2.2 (by simp); cases e
      clear hr0 HR0
      go_enter Try.func40, Try.ntmps40
      go_wp2
      go_ret
      exact ⟨_, by first | rfl | simp, Kd.N_nil _ _ _ _ _, HB.out⟩
    | some ad =>
      clear hr0
      go_enter Try.func40, Try.ntmps40
      go_wp2_with (first | ((with_reducible refine gate_dst (N := 5) rfl ?_); (try (refine gate_guard (by rfl) ?_; dsimp only)); refine Kd.N_lit (Kd.slice 5 (Kd.int .u8)) _ 22 ?hg (N' := 5) ?hd (xs := ([] : List (List Int))) (inner := []) (ok := fun k => w.heap.size ≤ k) (okp := fun _ => False) ?hr ?hp (fun _ hk => hk.elim) (below_size HB.out) (Below.refl _ _) (Nat.le_refl _) (by simp) ?_; (case hd => rfl); (case hg => rfl); (case hr => first | (go_simp; done) | (go_simp; rfl)); (case hp => exact (Reps.none _ _)); intro v1 w1 ho1 hb hg_ hnew_; have hnw_ := Aside0.mk hnew_; have HW1 := Aside0.mk (below_size HB.out); clear hg_ hnew_; have n0_ := Aside0.mk (Kd.N_lower ho1 (below_size HB.out)); have n1_ := Aside0.mk (below_step HB.out hb); clear HB; have HO1 := n0_; have HB := n1_; clear n0_ n1_; clear hb ho1) | ((with_reducible refine gate_builtin (b := .append) (xs := #[.tmp 5, .tmp 6]) rfl ?_); (try (refine gate_guard (by rfl) ?_; dsimp only)); at_builtin; refine Kd.N_append_rows (Kd.slice 5 (Kd.int .u8)) (w0 := w) w.heap.size rfl (.tmp 5) (.tmp 6) 24 22 (.slice none 0 0) 24 rfl Try.underlying24 info22 rfl (by decide) (by omega) v1 [] l0 _ _ _ (fun k => ok0 k ∨ w.heap.size ≤ k) (fun k => ok0 k ∧ k < w.heap.size) rfl rfl ?aO ?aR ?aK ?aF ?aB ?aS ?aL ?_; (case aR => exact Kd.F_below (Kd.F_bound HR0.out) HB.out); (case aK => exact (fun k hk => ⟨.inl hk.1, fun e_ => by obtain ⟨b, hb1, hb2⟩ := hnw_.out; rw [hb1] at e_; injection e_ with e_; have h1_ := hk.2; have h2_ := HW1.out; omega⟩)); (case aB => exact HB.out); (case aF => exact (fun k hk => .inr (Nat.le_trans (below_size HB.out) hk))); (case aO => exact (Kd.N_mono HO1.out (fun _ hk => .inr hk))); (case aS => exact (below_size HB.out)); (case aL => have := LM.out; simp only [List.length_nil]; omega); intro v2 w2 ho hb hg hat; rw [List.nil_append] at ho; have n0_ := Aside0.mk (hb); have n1_ := Aside0.mk (ho); clear HB; clear HO1; have HB := n0_; have HO2 := n1_; clear n0_ n1_; clear ho hb hg hat))
      go_ret
      exact ⟨_, by first | rfl | simp, by (with_reducible repeat (first | apply Kd.N_alloc | apply Kd.N_drewN | apply Kd.N_drew)); exact HO2.out, by repeat (first | (with_reducible first | exact HB.out | apply below_alloc | apply pw_below_drewN | apply below_drew1) | exact HB.out)⟩
  · rw [if_neg hl] at h; cases h

/-! ### slices_Reverse_byte_byte: function 41 -/
def slices_Reverse_byte_byte.f (l0 : List (List Int)) : Option (List (List Int)) := if l0 = [] then none else some l0.reverse
/-- Two elements of a row that is told, one for the other. -/
theorem rv_getD_set (xs : List (List Int)) (i : Nat) (x : List Int) (m : Nat) (hi : i < xs.length) : (xs.set i x).getD m [] = if m = i then x else xs.getD m [] := by
  rw [List.getD_eq_getElem?_getD, List.getElem?_set, List.getD_eq_getElem?_getD]
  by_cases h : m = i
  · subst h; simp [hi]
  · rw [if_neg h, if_neg (Ne.symm h)]
theorem rv_cellof {e base g n cap : Nat} {ok : Nat → Prop} {w : World} {xs : List (List Int)} (h : Kd.N (Kd.slice 5 (Kd.int .u8)) e w base ok (.slice (some ⟨g, 0, none⟩) n cap) xs) (i : Nat) (hi : i < xs.length) :
    ∃ (A : Option Addr) (m cc : Nat), w.cell? ⟨g, i, none⟩ = some (.slice A m cc) ∧ w.frozen? ⟨g, i, none⟩ = false := by
  have hn : n = xs.length := (Kd.N_reads' h).1
  have hadd : ∀ k, (⟨g, 0, none⟩ : Addr).add k = ⟨g, k, none⟩ := fun k => by unfold Addr.add; split <;> simp_all
  obtain ⟨c, hc, hf, hcell⟩ := Kd.N_get h [] (i : Int) (by omega) (by omega)
  obtain ⟨z, rfl⟩ : ∃ z, c = [z] := by
    match c, hc with
    | [z], _ => exact ⟨z, rfl⟩
  have hz := hcell 0 z rfl
  rw [show (Kd.slice 5 (Kd.int .u8)).sz = 1 from rfl, Int.toNat_natCast, Nat.mul_one, Nat.add_zero, hadd] at hz
  obtain ⟨cells, hb⟩ := Kd.N_typed h g (by simp [Value.ownBlock])
  obtain ⟨ua, uc, e, _, _⟩ := Kd.FK_slice_open hf
  injection e with e
  subst e
  exact ⟨_, _, _, hz, blk_frozen hb i⟩
theorem rv_swap {e base g n cap : Nat} {ok : Nat → Prop} {w : World} {xs : List (List Int)} (h : Kd.N (Kd.slice 5 (Kd.int .u8)) e w base ok (.slice (some ⟨g, 0, none⟩) n cap) xs) (i j : Nat) (hi : i < xs.length) (hj : j < xs.length)
    {x y : Value} (hx : w.cell? ⟨g, j, none⟩ = some x) (hy : w.cell? ⟨g, i, none⟩ = some y) :
    Kd.N (Kd.slice 5 (Kd.int .u8)) e ((w.setCell ⟨g, i, none⟩ x).setCell ⟨g, j, none⟩ y) base ok (.slice (some ⟨g, 0, none⟩) n cap) ((xs.set i (xs.getD j [])).set j (xs.getD i [])) ∧ w.grownBy ((w.setCell ⟨g, i, none⟩ x).setCell ⟨g, j, none⟩ y) (some g) := by
  have hn : n = xs.length := (Kd.N_reads' h).1
  have hone : (Kd.slice 5 (Kd.int .u8)).sz = 1 := rfl
  have hadd : ∀ k, (⟨g, 0, none⟩ : Addr).add k = ⟨g, k, none⟩ := fun k => by unfold Addr.add; split <;> simp_all
  have cellof : ∀ (w : World) (xs : List (List Int)) (k : Nat) (u : Value) (_ : k < xs.length) (_ : n = xs.length) (_ : Kd.N (Kd.slice 5 (Kd.int .u8)) e w base ok (.slice (some ⟨g, 0, none⟩) n cap) xs) (_ : w.cell? ⟨g, k, none⟩ = some u), Kd.FK (Kd.slice 5 (Kd.int .u8)) w (fun k => ok k ∧ k ≠ g) (xs.getD k []) [u] := by
    intro w xs k u hk hn h hu
    obtain ⟨c, hc, hf, hcell⟩ := Kd.N_get h [] (k : Int) (by omega) (by omega)
    rw [hone] at hc hcell
    obtain ⟨z, rfl⟩ : ∃ z, c = [z] := by
      match c, hc with
      | [z], _ => exact ⟨z, rfl⟩
    have hz := hcell 0 z rfl
    rw [Int.toNat_natCast, Nat.mul_one, Nat.add_zero, hadd, hu] at hz
    injection hz with hz
    subst hz
    rw [Int.toNat_natCast] at hf
    exact Kd.FK_mono hf (fun q hq => ⟨hq.1, fun e_ => hq.2 (by simp [Value.ownBlock, e_])⟩)
  have fx := cellof w xs j x hj hn h hx
  have fy := cellof w xs i y hi hn h hy
  have setone : ∀ (w : World) (k : Nat) (u : Value), w.setCells g (((k : Nat) : Int).toNat * 1 + 0) [u] = w.setCell ⟨g, k, none⟩ u := fun w k u => by
    rw [Int.toNat_natCast, Nat.mul_one, Nat.add_zero]; rfl
  obtain ⟨h1, g1⟩ := Kd.N_seg h (i : Int) (by omega) (by omega) (c := [y]) (seg := [x]) (j := 0) rfl (fun q u hq => by
    rw [List.getElem?_singleton] at hq
    split at hq
    · rename_i h0; subst h0; injection hq with hq; subst hq; rw [hone, Int.toNat_natCast, Nat.mul_one, Nat.add_zero]; exact hy
    · cases hq) (by rw [hone]; simp) (x' := xs.getD j []) (okp := fun k => ok k ∧ k ≠ g) (by simpa using fx) (fun _ hk => hk)
  rw [hone, setone] at h1 g1
  rw [Int.toNat_natCast] at h1
  have fy1 : Kd.FK (Kd.slice 5 (Kd.int .u8)) (w.setCell ⟨g, i, none⟩ x) (fun k => ok k ∧ k ≠ g) (xs.getD i []) [y] := Kd.FK_step fy (fun k hk hlt => g1.block k hlt (fun e_ => hk.2 (by injection e_)))
  have hl1 : j < (xs.set i (xs.getD j [])).length := by rw [List.length_set]; exact hj
  obtain ⟨c2, hc2, hf2, hcell2⟩ := Kd.N_get h1 [] (j : Int) (by omega) (by omega)
  rw [hone] at hc2 hcell2
  obtain ⟨h2, g2⟩ := Kd.N_seg h1 (j : Int) (by omega) (by omega) (c := c2) (seg := [y]) (j := 0) (by rw [hone]; exact hc2) (fun q u hq => by
    have hz := hcell2 q u hq
    rw [hone]
    rw [hadd] at hz
    exact hz) (by rw [hone]; simp) (x' := xs.getD i []) (okp := fun k => ok k ∧ k ≠ g) (by
      have : c2.drop (0 + [y].length) = [] := List.drop_eq_nil_of_le (by simp [hc2])
      rw [this]
      simpa using fy1) (fun _ hk => hk)
  rw [hone, setone] at h2 g2
  rw [Int.toNat_natCast] at h2
  exact ⟨h2, ⟨g2.os.trans g1.os, g2.tape.trans g1.tape, g2.output.trans g1.output, Nat.le_trans g1.size g2.size, fun k hk hne => (g2.block k (Nat.lt_of_lt_of_le hk g1.size) hne).trans (g1.block k hk hne)⟩⟩
set_option maxHeartbeats 8000000 in
set_option maxRecDepth 100000 in
theorem slices_Reverse_byte_byte.calls (g c0 : Nat) (l0 : List (List Int)) (r : List (List Int)) (w : World) {base : Nat} {ok0 : Nat → Prop} (hN : Kd.N (Kd.slice 5 (Kd.int .u8)) 22 w base ok0 (.slice (some ⟨g, 0, none⟩) l0.length c0) l0) (hl : l0.length ≤ 9223372036854775807) (h : slices_Reverse_byte_byte.f l0 = some r) :
    Calls Try.prog 41 #[.slice (some ⟨g, 0, none⟩) l0.length c0] w fun e w' => e = .returned (.tuple #[]) ∧ Kd.N (Kd.slice 5 (Kd.int .u8)) 22 w' base ok0 (.slice (some ⟨g, 0, none⟩) l0.length c0) r ∧ w.grownBy w' (some g) := by
  unfold slices_Reverse_byte_byte.f at h
  by_cases hne : l0 = []
  · rw [if_pos hne] at h; cases h
  rw [if_neg hne] at h
  obtain rfl := Option.some.inj h
  have hpos : 0 < l0.length := List.length_pos_iff.2 hne
  have HN := Aside0.mk hN
  clear hN h hne
  go_enter Try.func41, Try.ntmps41
  go_wp2
  go_loopg [2, 3] l0.length (fun k s2 s3 wr => ∃ (i : Nat) (dk : List (List Int)), s2 = .int .i64 i ∧ s3 = .int .i64 ((l0.length : Int) - 1 - i) ∧ 2 * i ≤ l0.length ∧ l0.length - i ≤ k ∧ dk.length = l0.length ∧
    Aside0 (Kd.N (Kd.slice 5 (Kd.int .u8)) 22 wr base ok0 (.slice (some ⟨g, 0, none⟩) l0.length c0) dk) ∧ Aside0 (w.grownBy wr (some g)) ∧ Aside0 (∀ m, m < l0.length → dk.getD m [] = if m < i ∨ l0.length ≤ m + i then l0.getD (l0.length - 1 - m) [] else l0.getD m []))
  case atStart => exact ⟨0, l0, rfl, by simp, by omega, by omega, rfl, HN, ⟨World.grownBy.refl _ _⟩, ⟨fun m hm => by rw [if_neg (by omega)]⟩⟩
  case round =>
    obtain ⟨i, dk, rfl, rfl, h1, hk, hds, HN1, HG, HQ⟩ := hrel
    by_cases hlt : (i : Int) < (l0.length : Int) - 1 - i
    · obtain ⟨j, hj⟩ : ∃ j : Nat, (l0.length : Int) - 1 - i = j := ⟨l0.length - 1 - i, by omega⟩
      rw [hj] at hlt ⊢
      have hjn : j = l0.length - 1 - i := by omega
      obtain ⟨xA, xm, xc, cj, fj⟩ := rv_cellof HN1.out j (by omega)
      obtain ⟨yA, ym, yc, ci, fi⟩ := rv_cellof HN1.out i (by omega)
      have hjl : (j : Int) < (l0.length : Int) := by omega
      have hil : (i : Int) < (l0.length : Int) := by omega
      have HJ := Aside0.mk hjn
      have HK := Aside0.mk hk
      clear hjn hj h1 hk
      have n1 := World.new_ne wr _ ci
      have n2 := World.new_ne wr _ cj
      go_wp2
      go_region
      go_wp2
      obtain ⟨hS, gS⟩ := rv_swap HN1.out i j (by omega) (by omega) cj ci
      go_roundg (l0.length - (i + 1))
      case measure => have := HK.out; omega
      case rel =>
        refine ⟨i + 1, (dk.set i (dk.getD j [])).set j (dk.getD i []), by simp, by have := HJ.out; congr 1; omega, by have := HJ.out; omega, by omega, by simp [hds], ⟨Kd.N_drew hS⟩, ⟨?_⟩, ⟨?_⟩⟩
        · have h1 := HG.out
          exact ⟨gS.os.trans h1.os, gS.tape.trans h1.tape, gS.output.trans h1.output, Nat.le_trans h1.size gS.size, fun k hk hne => (gS.block k (Nat.lt_of_lt_of_le hk h1.size) hne).trans (h1.block k hk hne)⟩
        · intro m hm
          have hj := HJ.out
          have hq := HQ.out
          rw [rv_getD_set _ _ _ _ (by simp; omega), rv_getD_set _ _ _ _ (by omega)]
          by_cases e1 : m = j
          · rw [if_pos e1, if_pos (by omega), hq i (by omega), if_neg (by omega)]
            congr 1; omega
          · rw [if_neg e1]
            by_cases e2 : m = i
            · rw [if_pos e2, if_pos (by omega), hq j (by omega), if_neg (by omega)]
              congr 1; omega
            · rw [if_neg e2, hq m hm]
              by_cases e3 : m < i ∨ l0.length ≤ m + i
              · rw [if_pos e3, if_pos (by omega)]
              · rw [if_neg e3, if_neg (by omega)]
    · go_wp2
      go_end0
      have hend : dk = l0.reverse := by
        apply List.ext_getElem?
        intro m
        by_cases hm : m < l0.length
        · have h := HQ.out m hm
          rw [List.getD_eq_getElem?_getD, List.getD_eq_getElem?_getD, List.getD_eq_getElem?_getD, List.getElem?_eq_getElem (by omega), List.getElem?_eq_getElem (by omega), List.getElem?_eq_getElem (by omega)] at h
          simp only [Option.getD_some] at h
          rw [List.getElem?_eq_getElem (by omega), List.getElem?_reverse hm, List.getElem?_eq_getElem (by omega), h]
          split
          · rfl
          · congr 2; omega
        · rw [List.getElem?_eq_none (by omega), List.getElem?_eq_none (by rw [List.length_reverse]; omega)]
      exact ⟨rfl, hend ▸ HN1.out, HG.out⟩

end Go.Proofs.Ytnbopkmhakfmmaa.MDes
