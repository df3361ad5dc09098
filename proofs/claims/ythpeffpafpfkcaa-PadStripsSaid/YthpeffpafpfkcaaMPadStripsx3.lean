/- A walk: each Go function that is named here answers what its plain function answers. Conditions: its arguments are read as lists and numbers. -/
import Derived.Test.YthpeffpafpfkcaaMPadStripsx0
import Derived.Test.YthpeffpafpfkcaaMPadStripsx1
import Derived.Test.YthpeffpafpfkcaaMPadStripsx2
namespace Go.Proofs.Ythpeffpafpfkcaa.MPadStrips
open Go.RowKit Go.Proofs.YthpeffpafpfkcaaW.PrintWords Go.Proofs.YthpeffpafpfkcaaW.PrintLast Go.Proofs.YthpeffpafpfkcaaW.PrintMore
attribute [local go_sem] max2_int min2_int max_two min_two max_three min_three max_four min_four   -- for this text's walks alone
set_option linter.unusedVariables false
set_option linter.unusedSimpArgs false

/-! ### slices_Clone_byte_byte: function 22 -/
def slices_Clone_byte_byte.f (l0 : List Int) : Option (List Int) := if l0.length < 140737488355328 then some l0 else none
set_option maxHeartbeats 8000000 in
set_option maxRecDepth 100000 in
theorem slices_Clone_byte_byte.calls (A0 : Option Addr) (c0 : Nat) (l0 : List Int) (r : List Int) (w : World) (hr0 : Kd.C (Kd.int .u8) w A0 l0.length l0) (hc0 : l0.length ≤ c0) (h : slices_Clone_byte_byte.f l0 = some r) :
    Calls Try.prog 22 #[.slice A0 l0.length c0] w fun e w' => ∃ v0_ : Value, e = .returned (v0_) ∧ Kd.R (Kd.int .u8) 5 w' w.heap.size (fun _ => True) v0_ r ∧ Below w.heap.size w w' := by
  have HR0 := Aside0.mk hr0
  clear hc0
  have HB := Aside0.mk (Below.refl w.heap.size w)
  unfold slices_Clone_byte_byte.f at h
  by_cases hl : l0.length < 140737488355328
  · rw [if_pos hl] at h
    obtain rfl := Option.some.inj h
    have LM := Aside0.mk hl
    clear hl h
    have heq := fun (w : World) (n c : Nat) => Lib.run_eql_slice_nil (P := Try.prog) w 22 5 A0 n c 0 0 Try.underlying22
    cases A0 with
    | none =>
      obtain rfl : l0 = [] := by
        cases l0 with
        | nil => rfl
        | cons x xs => obtain ⟨ad, e, _⟩ := hr0.2.2 (by simp); cases e
      clear hr0
      go_enter Try.func22, Try.ntmps22
      go_wp2
      go_ret
      exact ⟨_, by first | rfl | simp, Kd.R_nil _ _ _ _ _, HB.out⟩
    | some ad =>
      clear hr0
      go_enter Try.func22, Try.ntmps22
      go_wp2_with (first | ((with_reducible refine gate_dst (N := 5) rfl ?_); (try (refine gate_guard (by rfl) ?_; dsimp only)); refine Kd.R_lit (Kd.int .u8) _ 5 ?hg (N := 5) ?hd (xs := ([] : List Int)) (inner := []) (ok := fun _ => True) (okp := fun _ => True) ?hr ?hp (fun _ hk => hk) trivial (Below.refl _ _) (Nat.le_refl _) (by simp) ?_; (case hd => rfl); (case hg => rfl); (case hr => first | (go_simp; done) | (go_simp; rfl)); (case hp => exact (Reps.none _ _)); intro v1 w1 ho1 hb hg_ hnew_; clear hg_ hnew_; have n0_ := Aside0.mk (Kd.R_lower ho1 (below_size (by repeat (first | (with_reducible first | exact HB.out | apply below_alloc | apply pw_below_drewN | apply below_drew1) | exact HB.out)))); have n1_ := Aside0.mk (below_step (by repeat (first | (with_reducible first | exact HB.out | apply below_alloc | apply pw_below_drewN | apply below_drew1) | exact HB.out)) hb); clear HB; have HO1 := n0_; have HB := n1_; clear n0_ n1_; clear hb ho1) | ((with_reducible refine gate_builtin (b := .append) (xs := #[.tmp 5, .tmp 6]) rfl ?_); (try (refine gate_guard (by rfl) ?_; dsimp only)); at_builtin; refine Kd.R_append_rows (Kd.int .u8) (w0 := w) w.heap.size rfl (.tmp 5) (.tmp 6) 22 5 (.int .u8 0) 1 rfl Try.underlying22 info5 rfl (by decide) (by omega) v1 [] l0 _ _ _ (fun _ => True) (fun _ => False) rfl rfl ?aO ?aR (fun _ _ h => h) (fun _ h => h.elim) ?aF ?aB ?aS ?aL ?_; (case aR => repeat (first | exact (Kd.C_below HR0.out HB.out) | (with_reducible refine Kd.C_alloc ?_ _) | (with_reducible refine Kd.C_drewN ?_ _) | (with_reducible refine Kd.C_drew ?_))); (case aB => exact (by repeat (first | (with_reducible first | exact HB.out | apply below_alloc | apply pw_below_drewN | apply below_drew1) | exact HB.out))); (case aF => exact (fun _ _ => trivial)); (case aO => exact (by (with_reducible repeat (first | apply Kd.R_alloc | apply Kd.R_drewN | apply Kd.R_drew)); exact HO1.out)); (case aS => exact (below_size (by repeat (first | (with_reducible first | exact HB.out | apply below_alloc | apply pw_below_drewN | apply below_drew1) | exact HB.out)))); (case aL => have := LM.out; simp only [List.length_nil]; omega); intro v2 w2 ho hb hg hat; rw [List.nil_append] at ho; have n0_ := Aside0.mk (hb); have n1_ := Aside0.mk (ho); clear HB; clear HO1; have HB := n0_; have HO2 := n1_; clear n0_ n1_; clear ho hb hg hat))
      go_ret
      exact ⟨_, by first | rfl | simp, by (with_reducible repeat (first | apply Kd.R_alloc | apply Kd.R_drewN | apply Kd.R_drew)); exact HO2.out, by repeat (first | (with_reducible first | exact HB.out | apply below_alloc | apply pw_below_drewN | apply below_drew1) | exact HB.out)⟩
  · rw [if_neg hl] at h; cases h

/-! ### pad_Strip: function 15 -/
def pad_Strip.f (k : Nat) (a0 : Int) (a1 : Int) (l2 : List Int) : Option (List Int × Int) := (pad_tell.f a0).bind fun t114 => (if t114 = true then ((pad_sized.f a1).bind fun t115 => (if t115 = true then (if (l2.length : Int) = a1 then ((pad_long.f k a0 l2).bind fun t116 => (if t116 = 0 then (some (([] : List Int), 8)) else (if 0 ≤ (wrap64 (a1 - t116)) then (if (wrap64 (a1 - t116)) ≤ (l2.length : Int) then ((slices_Clone_byte_byte.f (l2.take ((wrap64 (a1 - t116)) : Int).toNat)).bind fun t121 => (some (t121, 0))) else (none)) else (none)))) else (some (([] : List Int), 1))) else (some (([] : List Int), 1)))) else (some (([] : List Int), 3)))
theorem pad_Strip.mono : ∀ a0 a1 a2 k, LeO (pad_Strip.f k a0 a1 a2) (pad_Strip.f (k + 1) a0 a1 a2) := by
  intro a0 a1 a2 k
  unfold pad_Strip.f
  repeat' first
      | (with_reducible exact pad_long.mono _ _ _)
      | (with_reducible exact LeO.refl _)
      | (with_reducible exact LeO.none _)
      | (with_reducible refine LeO.ite ?_ ?_)
      | (with_reducible refine LeO.bind ?_ (fun _ => ?_))
      | exact pad_long.mono _ _ _
      | exact LeO.none _
      | refine LeO.ite ?_ ?_
      | refine LeO.bind ?_ (fun _ => ?_)
set_option maxHeartbeats 8000000 in
set_option maxRecDepth 100000 in
theorem pad_Strip.calls (k : Nat) (a0 : Int) (a1 : Int) (A2 : Option Addr) (c2 : Nat) (l2 : List Int) (r1 : List Int) (r2 : Int) (w : World) (hr2 : Kd.C (Kd.int .u8) w A2 l2.length l2) (hc2 : l2.length ≤ c2) (h : pad_Strip.f k a0 a1 l2 = some (r1, r2)) :
    Calls Try.prog 15 #[.int .i64 a0, .int .i64 a1, .slice A2 l2.length c2] w fun e w' => ∃ v0_ : Value, e = .returned (.tuple #[v0_, .int .i64 r2]) ∧ Kd.R (Kd.int .u8) 5 w' w.heap.size (fun _ => True) v0_ r1 ∧ Below w.heap.size w w' := by
  have HR2 := Aside0.mk hr2
  have HC2 := Aside0.mk hc2
  clear hr2 hc2
  have HB := Aside0.mk (Below.refl w.heap.size w)
  have H : ((pad_tell.f a0).bind fun t114 => (if t114 = true then ((pad_sized.f a1).bind fun t115 => (if t115 = true then (if (l2.length : Int) = a1 then ((pad_long.f k a0 l2).bind fun t116 => (if t116 = 0 then (some (([] : List Int), 8)) else (if 0 ≤ (wrap64 (a1 - t116)) then (if (wrap64 (a1 - t116)) ≤ (l2.length : Int) then ((slices_Clone_byte_byte.f (l2.take ((wrap64 (a1 - t116)) : Int).toNat)).bind fun t121 => (some (t121, 0))) else (none)) else (none)))) else (some (([] : List Int), 1))) else (some (([] : List Int), 1)))) else (some (([] : List Int), 3)))) = some (r1, r2) := h
  clear h
  replace H := Option.bind_eq_some_iff.mp H
  obtain ⟨t114, A40, H⟩ := H
  replace H : (if t114 = true then ((pad_sized.f a1).bind fun t115 => (if t115 = true then (if (l2.length : Int) = a1 then ((pad_long.f k a0 l2).bind fun t116 => (if t116 = 0 then (some (([] : List Int), 8)) else (if 0 ≤ (wrap64 (a1 - t116)) then (if (wrap64 (a1 - t116)) ≤ (l2.length : Int) then ((slices_Clone_byte_byte.f (l2.take ((wrap64 (a1 - t116)) : Int).toNat)).bind fun t121 => (some (t121, 0))) else (none)) else (none)))) else (some (([] : List Int), 1))) else (some (([] : List Int), 1)))) else (some (([] : List Int), 3))) = some (r1, r2) := H
  have A4 := Aside0.mk A40
  clear A40
  by_cases c5 : t114 = true
  · subst c5
    have H1 : ((pad_sized.f a1).bind fun t115 => (if t115 = true then (if (l2.length : Int) = a1 then ((pad_long.f k a0 l2).bind fun t116 => (if t116 = 0 then (some (([] : List Int), 8)) else (if 0 ≤ (wrap64 (a1 - t116)) then (if (wrap64 (a1 - t116)) ≤ (l2.length : Int) then ((slices_Clone_byte_byte.f (l2.take ((wrap64 (a1 - t116)) : Int).toNat)).bind fun t121 => (some (t121, 0))) else (none)) else (none)))) else (some (([] : List Int), 1))) else (some (([] : List Int), 1)))) = some (r1, r2) := by rw [if_pos rfl] at H; exact H
    clear H
    have H := H1
    clear H1
    replace H := Option.bind_eq_some_iff.mp H
    obtain ⟨t115, A60, H⟩ := H
    replace H : (if t115 = true then (if (l2.length : Int) = a1 then ((pad_long.f k a0 l2).bind fun t116 => (if t116 = 0 then (some (([] : List Int), 8)) else (if 0 ≤ (wrap64 (a1 - t116)) then (if (wrap64 (a1 - t116)) ≤ (l2.length : Int) then ((slices_Clone_byte_byte.f (l2.take ((wrap64 (a1 - t116)) : Int).toNat)).bind fun t121 => (some (t121, 0))) else (none)) else (none)))) else (some (([] : List Int), 1))) else (some (([] : List Int), 1))) = some (r1, r2) := H
    have A6 := Aside0.mk A60
    clear A60
    by_cases c7 : t115 = true
    · subst c7
      have H1 : (if (l2.length : Int) = a1 then ((pad_long.f k a0 l2).bind fun t116 => (if t116 = 0 then (some (([] : List Int), 8)) else (if 0 ≤ (wrap64 (a1 - t116)) then (if (wrap64 (a1 - t116)) ≤ (l2.length : Int) then ((slices_Clone_byte_byte.f (l2.take ((wrap64 (a1 - t116)) : Int).toNat)).bind fun t121 => (some (t121, 0))) else (none)) else (none)))) else (some (([] : List Int), 1))) = some (r1, r2) := by rw [if_pos rfl] at H; exact H
      clear H
      have H := H1
      clear H1
      by_cases c8 : (l2.length : Int) = a1
      · rw [if_pos c8] at H
        have c8b0 : ((l2.length : Int) == a1) = true := beq_iff_eq.mpr c8
        have c8b1 : ((l2.length : Int) != a1) = false := bne_eq_false_iff_eq.mpr c8
        clear c8
        replace H := Option.bind_eq_some_iff.mp H
        obtain ⟨t116, A90, H⟩ := H
        replace H : (if t116 = 0 then (some (([] : List Int), 8)) else (if 0 ≤ (wrap64 (a1 - t116)) then (if (wrap64 (a1 - t116)) ≤ (l2.length : Int) then ((slices_Clone_byte_byte.f (l2.take ((wrap64 (a1 - t116)) : Int).toNat)).bind fun t121 => (some (t121, 0))) else (none)) else (none))) = some (r1, r2) := H
        have A9 := Aside0.mk A90
        clear A90
        by_cases c10 : t116 = 0
        · rw [if_pos c10] at H
          have c10b0 : (t116 == 0) = true := beq_iff_eq.mpr c10
          have c10b1 : (t116 != 0) = false := bne_eq_false_iff_eq.mpr c10
          clear c10
          simp only [Option.some.injEq, Prod.mk.injEq] at H
          obtain ⟨rfl, rfl⟩ := H
          go_enter Try.func15, Try.ntmps15
          go_wp2_with (first | ((with_reducible refine gate_callee (f := 17) rfl ?_); refine goesL_ (some 11) rfl rfl Try.func17 (by kernel_rfl) rfl #[.int .i64 a0] rfl (by (try simp only [List.map_toArray, List.map_cons, List.map_nil]); first | done | rfl | (simp only [List.length_drop, List.length_take]; rfl)) ?_; (with_reducible refine (pad_tell.calls a0 true _ A4.out).mono ?_); rintro e w' ⟨rfl, ⟨nd, rfl⟩⟩; refine ⟨_, rfl, ?_⟩) | ((with_reducible refine gate_callee (f := 18) rfl ?_); refine goesL_ (some 15) rfl rfl Try.func18 (by kernel_rfl) rfl #[.int .i64 a1] rfl (by (try simp only [List.map_toArray, List.map_cons, List.map_nil]); first | done | rfl | (simp only [List.length_drop, List.length_take]; rfl)) ?_; (with_reducible refine (pad_sized.calls a1 true _ A6.out).mono ?_); rintro e w' ⟨rfl, ⟨nd, rfl⟩⟩; refine ⟨_, rfl, ?_⟩) | ((with_reducible refine gate_callee (f := 21) rfl ?_); refine goesL_ (some 23) rfl rfl Try.func21 (by kernel_rfl) rfl #[.int .i64 a0, .slice A2 l2.length c2] rfl (by (try simp only [List.map_toArray, List.map_cons, List.map_nil]); first | done | rfl | (simp only [List.length_drop, List.length_take]; rfl)) ?_; (with_reducible refine (pad_long.calls k a0 _ _ l2 t116 _ ?side1 ?side2 A9.out).mono ?_); (case side1 => repeat (first | exact HR2.out | (with_reducible refine Kd.C_alloc ?_ _) | (with_reducible refine Kd.C_drewN ?_ _) | (with_reducible refine Kd.C_drew ?_))); (case side2 => exact HC2.out); rintro e w11 ⟨rfl, hb⟩; refine ⟨_, rfl, ?_⟩; have n0_ := Aside0.mk (below_step (by repeat (first | (with_reducible first | exact HB.out | apply below_alloc | apply pw_below_drewN | apply below_drew1) | exact HB.out)) hb); clear HB; have HB := n0_; clear n0_; (try clear hb); (try clear hb2); (try clear hk); (try clear hi)))
          go_ret2
          exact ⟨_, by first | rfl | (simp [errW_none, errW_some] <;> rfl) | (simp [*, errW_none, errW_some] <;> rfl), by first | exact Kd.R_nil _ _ _ _ _ | exact Kd.N_nil _ _ _ _ _ | exact Kd.V_nil _ _ _ _ _ | exact Kd.Q_nil _ _ _ _ _ | exact Kd.S_nil _ _ _ _ _, by repeat (first | (with_reducible first | exact HB.out | apply below_alloc | apply pw_below_drewN | apply below_drew1) | exact HB.out)⟩
        · rw [if_neg c10] at H
          have c10b0 : (t116 == 0) = false := beq_eq_false_iff_ne.mpr c10
          have c10b1 : (t116 != 0) = true := bne_iff_ne.mpr c10
          obtain ⟨ji12, hji12⟩ : ∃ j_ : Int, (wrap64 (a1 - t116)) = j_ := ⟨_, rfl⟩
          replace H : (if 0 ≤ (ji12) then (if (ji12) ≤ (l2.length : Int) then ((slices_Clone_byte_byte.f (l2.take ((ji12) : Int).toNat)).bind fun t121 => (some (t121, 0))) else (none)) else (none)) = some (r1, r2) := by first | (rw [hji12] at H; exact H) | (simp only [hji12] at H ⊢; exact H)
          (try rw [hji12] at A4)
          (try rw [hji12] at A6)
          (try rw [hji12] at A9)
          have hji12w : (IntKind.i64.wrap (a1 - t116)) = ji12 := (i64_w _).trans hji12
          by_cases c13 : 0 ≤ (ji12)
          · rw [if_pos c13] at H
            have c13b0 := eq_true c13
            have c13b1 : decide (0 ≤ (ji12)) = true := decide_eq_true c13
            clear c13
            by_cases c14 : (ji12) ≤ (l2.length : Int)
            · rw [if_pos c14] at H
              have c14b0 := eq_true c14
              have c14b1 : decide ((ji12) ≤ (l2.length : Int)) = true := decide_eq_true c14
              clear c14
              obtain ⟨y117, hy117⟩ : ∃ y_ : List Int, y_ = (l2.take ((ji12) : Int).toNat) := ⟨_, rfl⟩
              replace H : ((slices_Clone_byte_byte.f y117).bind fun t121 => (some (t121, 0))) = some (r1, r2) := by first | (rw [hy117]; with_reducible exact H) | (have H2_ := (Option.bind_some _ _).symm.trans H; rw [hy117]; with_reducible exact H2_) | (have H2_ := (Option.bind_some _ _).symm.trans H; with_reducible exact H2_) | with_reducible exact H | (rw [hy117]; exact H) | exact H
              have Ny117 := Aside0.mk hy117
              clear hy117
              replace H := Option.bind_eq_some_iff.mp H
              obtain ⟨t121, A150, H⟩ := H
              replace H : (some (t121, 0)) = some (r1, r2) := H
              have A15 := Aside0.mk A150
              clear A150
              simp only [Option.some.injEq, Prod.mk.injEq] at H
              obtain ⟨rfl, rfl⟩ := H
              go_enter Try.func15, Try.ntmps15
              go_wp2_with (first | ((with_reducible refine gate_callee (f := 17) rfl ?_); refine goesL_ (some 11) rfl rfl Try.func17 (by kernel_rfl) rfl #[.int .i64 a0] rfl (by (try simp only [List.map_toArray, List.map_cons, List.map_nil]); first | done | rfl | (simp only [List.length_drop, List.length_take]; rfl)) ?_; (with_reducible refine (pad_tell.calls a0 true _ A4.out).mono ?_); rintro e w' ⟨rfl, ⟨nd, rfl⟩⟩; refine ⟨_, rfl, ?_⟩) | ((with_reducible refine gate_callee (f := 18) rfl ?_); refine goesL_ (some 15) rfl rfl Try.func18 (by kernel_rfl) rfl #[.int .i64 a1] rfl (by (try simp only [List.map_toArray, List.map_cons, List.map_nil]); first | done | rfl | (simp only [List.length_drop, List.length_take]; rfl)) ?_; (with_reducible refine (pad_sized.calls a1 true _ A6.out).mono ?_); rintro e w' ⟨rfl, ⟨nd, rfl⟩⟩; refine ⟨_, rfl, ?_⟩) | ((with_reducible refine gate_callee (f := 21) rfl ?_); refine goesL_ (some 23) rfl rfl Try.func21 (by kernel_rfl) rfl #[.int .i64 a0, .slice A2 l2.length c2] rfl (by (try simp only [List.map_toArray, List.map_cons, List.map_nil]); first | done | rfl | (simp only [List.length_drop, List.length_take]; rfl)) ?_; (with_reducible refine (pad_long.calls k a0 _ _ l2 t116 _ ?side1 ?side2 A9.out).mono ?_); (case side1 => repeat (first | exact HR2.out | (with_reducible refine Kd.C_alloc ?_ _) | (with_reducible refine Kd.C_drewN ?_ _) | (with_reducible refine Kd.C_drew ?_))); (case side2 => exact HC2.out); rintro e w16 ⟨rfl, hb⟩; refine ⟨_, rfl, ?_⟩; have n0_ := Aside0.mk (below_step (by repeat (first | (with_reducible first | exact HB.out | apply below_alloc | apply pw_below_drewN | apply below_drew1) | exact HB.out)) hb); clear HB; have HB := n0_; clear n0_; (try clear hb); (try clear hb2); (try clear hk); (try clear hi); have q17 : ((ji12) : Int) ≤ ((l2.length : Int) : Int) := of_decide_eq_true (by first | (with_reducible assumption) | assumption); obtain ⟨i017, hi017, _, hsz17, _⟩ := info_parts info5; have hroom17 : l2.length ≤ c2 := HC2.out; have hC17 : Kd.C (Kd.int .u8) _ A2 l2.length l2 := HR2.out; have hcut17 := cut_to (P := Try.prog) 22 5 .i64 Try.underlying22 hi017 A2 l2.length c2 (ji12) (of_decide_eq_true (by first | (with_reducible assumption) | assumption)) q17 hroom17; have hr17 := Kd.C_take (m := ((ji12) : Int).toNat) hC17 (by omega); have hy17 : y117.length = ((ji12) : Int).toNat := (by rw [Ny117.out, List.length_take]; omega); rw [← Ny117.out] at hr17; rw [← hy17] at hcut17; have HR120 := Aside0.mk hr17; have HC120 := Aside0.mk (show y117.length ≤ c2 from by omega); clear hr17 hC17 hroom17 hi017 hsz17; have KY17 := Aside0.mk hy17; clear hy17; replace q17 := eq_true q17) | ((with_reducible refine gate_callee (f := 22) rfl ?_); refine goesL_ (some 31) rfl rfl Try.func22 (by kernel_rfl) rfl #[.slice A2 y117.length c2] rfl (by (try simp only [List.map_toArray, List.map_cons, List.map_nil]); first | done | rfl | (simp only [List.length_drop, List.length_take]; rfl)) ?_; (with_reducible refine (slices_Clone_byte_byte.calls _ _ y117 t121 _ ?side1 ?side2 A15.out).mono ?_); (case side1 => repeat (first | exact (Kd.C_below HR120.out HB.out) | (with_reducible refine Kd.C_alloc ?_ _) | (with_reducible refine Kd.C_drewN ?_ _) | (with_reducible refine Kd.C_drew ?_))); (case side2 => exact HC120.out); rintro e w18 ⟨v122, rfl, ho0, hb⟩; refine ⟨_, rfl, ?_⟩; have n0_ := Aside0.mk (Kd.R_lower ho0 (below_size (by repeat (first | (with_reducible first | exact HB.out | apply below_alloc | apply pw_below_drewN | apply below_drew1) | exact HB.out)))); have n1_ := Aside0.mk (below_step (by repeat (first | (with_reducible first | exact HB.out | apply below_alloc | apply pw_below_drewN | apply below_drew1) | exact HB.out)) hb); clear HB; have HO123 := n0_; have HB := n1_; clear n0_ n1_; (try clear hb); (try clear hb2); (try clear hk); (try clear hi); (try clear ho0)))
              go_ret2
              exact ⟨_, by first | rfl | (simp [errW_none, errW_some] <;> rfl) | (simp only [← hji12]; first | rfl | (simp [errW_none, errW_some] <;> rfl)) | (simp [*, errW_none, errW_some] <;> rfl), by (with_reducible repeat (first | apply Kd.R_alloc | apply Kd.R_drewN | apply Kd.R_drew)); exact HO123.out, by repeat (first | (with_reducible first | exact HB.out | apply below_alloc | apply pw_below_drewN | apply below_drew1) | exact HB.out)⟩
            · rw [if_neg c14] at H
              exact absurd H (by simp)
          · rw [if_neg c13] at H
            exact absurd H (by simp)
      · rw [if_neg c8] at H
        have c8b0 : ((l2.length : Int) == a1) = false := beq_eq_false_iff_ne.mpr c8
        have c8b1 : ((l2.length : Int) != a1) = true := bne_iff_ne.mpr c8
        simp only [Option.some.injEq, Prod.mk.injEq] at H
        obtain ⟨rfl, rfl⟩ := H
        go_enter Try.func15, Try.ntmps15
        go_wp2_with (first | ((with_reducible refine gate_callee (f := 17) rfl ?_); refine goesL_ (some 11) rfl rfl Try.func17 (by kernel_rfl) rfl #[.int .i64 a0] rfl (by (try simp only [List.map_toArray, List.map_cons, List.map_nil]); first | done | rfl | (simp only [List.length_drop, List.length_take]; rfl)) ?_; (with_reducible refine (pad_tell.calls a0 true _ A4.out).mono ?_); rintro e w' ⟨rfl, ⟨nd, rfl⟩⟩; refine ⟨_, rfl, ?_⟩) | ((with_reducible refine gate_callee (f := 18) rfl ?_); refine goesL_ (some 15) rfl rfl Try.func18 (by kernel_rfl) rfl #[.int .i64 a1] rfl (by (try simp only [List.map_toArray, List.map_cons, List.map_nil]); first | done | rfl | (simp only [List.length_drop, List.length_take]; rfl)) ?_; (with_reducible refine (pad_sized.calls a1 true _ A6.out).mono ?_); rintro e w' ⟨rfl, ⟨nd, rfl⟩⟩; refine ⟨_, rfl, ?_⟩))
        go_ret2
        exact ⟨_, by first | rfl | (simp [errW_none, errW_some] <;> rfl) | (simp [*, errW_none, errW_some] <;> rfl), by first | exact Kd.R_nil _ _ _ _ _ | exact Kd.N_nil _ _ _ _ _ | exact Kd.V_nil _ _ _ _ _ | exact Kd.Q_nil _ _ _ _ _ | exact Kd.S_nil _ _ _ _ _, by repeat (first | (with_reducible first | exact HB.out | apply below_alloc | apply pw_below_drewN | apply below_drew1) | exact HB.out)⟩
    · replace c7 := Bool.eq_false_iff.mpr c7
      subst c7
      have H1 : (some (([] : List Int), 1)) = some (r1, r2) := by rw [if_neg (show ¬ (false = true) by decide)] at H; exact H
      clear H
      have H := H1
      clear H1
      simp only [Option.some.injEq, Prod.mk.injEq] at H
      obtain ⟨rfl, rfl⟩ := H
      go_enter Try.func15, Try.ntmps15
      go_wp2_with (first | ((with_reducible refine gate_callee (f := 17) rfl ?_); refine goesL_ (some 11) rfl rfl Try.func17 (by kernel_rfl) rfl #[.int .i64 a0] rfl (by (try simp only [List.map_toArray, List.map_cons, List.map_nil]); first | done | rfl | (simp only [List.length_drop, List.length_take]; rfl)) ?_; (with_reducible refine (pad_tell.calls a0 true _ A4.out).mono ?_); rintro e w' ⟨rfl, ⟨nd, rfl⟩⟩; refine ⟨_, rfl, ?_⟩) | ((with_reducible refine gate_callee (f := 18) rfl ?_); refine goesL_ (some 15) rfl rfl Try.func18 (by kernel_rfl) rfl #[.int .i64 a1] rfl (by (try simp only [List.map_toArray, List.map_cons, List.map_nil]); first | done | rfl | (simp only [List.length_drop, List.length_take]; rfl)) ?_; (with_reducible refine (pad_sized.calls a1 false _ A6.out).mono ?_); rintro e w' ⟨rfl, ⟨nd, rfl⟩⟩; refine ⟨_, rfl, ?_⟩))
      go_ret2
      exact ⟨_, by first | rfl | (simp [errW_none, errW_some] <;> rfl) | (simp [*, errW_none, errW_some] <;> rfl), by first | exact Kd.R_nil _ _ _ _ _ | exact Kd.N_nil _ _ _ _ _ | exact Kd.V_nil _ _ _ _ _ | exact Kd.Q_nil _ _ _ _ _ | exact Kd.S_nil _ _ _ _ _, by repeat (first | (with_reducible first | exact HB.out | apply below_alloc | apply pw_below_drewN | apply below_drew1) | exact HB.out)⟩
  · replace c5 := Bool.eq_false_iff.mpr c5
    subst c5
    have H1 : (some (([] : List Int), 3)) = some (r1, r2) := by rw [if_neg (show ¬ (false = true) by decide)] at H; exact H
    clear H
    have H := H1
    clear H1
    simp only [Option.some.injEq, Prod.mk.injEq] at H
    obtain ⟨rfl, rfl⟩ := H
    go_enter Try.func15, Try.ntmps15
    go_wp2_with (first | ((with_reducible refine gate_callee (f := 17) rfl ?_); refine goesL_ (some 11) rfl rfl Try.func17 (by kernel_rfl) rfl #[.int .i64 a0] rfl (by (try simp only [List.map_toArray, List.map_cons, List.map_nil]); first | done | rfl | (simp only [List.length_drop, List.length_take]; rfl)) ?_; (with_reducible refine (pad_tell.calls a0 false _ A4.out).mono ?_); rintro e w' ⟨rfl, ⟨nd, rfl⟩⟩; refine ⟨_, rfl, ?_⟩))
    go_ret2
    exact ⟨_, by first | rfl | (simp [errW_none, errW_some] <;> rfl) | (simp [*, errW_none, errW_some] <;> rfl), by first | exact Kd.R_nil _ _ _ _ _ | exact Kd.N_nil _ _ _ _ _ | exact Kd.V_nil _ _ _ _ _ | exact Kd.Q_nil _ _ _ _ _ | exact Kd.S_nil _ _ _ _ _, by repeat (first | (with_reducible first | exact HB.out | apply below_alloc | apply pw_below_drewN | apply below_drew1) | exact HB.out)⟩

/-! ### scrimlaw14_known: function 10 -/
theorem V_lit (W : World) (l : List Int) (hl : l.length ≤ 9223372036854775807) (fr : Nat × Nat) (b : Nat) :
    Kd.V (Kd.int .u8) 5 (W.alloc (.cells (l.map (Value.int .u8)).toArray 5 fr)) b (fun _ => True) (.slice (some ⟨W.heap.size, 0, none⟩) l.length l.length) l :=
  Kd.V_mk (Nat.le_refl _) (fun W' hW => Kd.C_of_reads (d := (0 : Int)) (h1 := fun _ => rfl) ⟨rfl, hl, fun _ => ⟨_, rfl, fun j hj => by
    rw [add_plain, World.cell?_of_block (w := W.alloc (.cells (l.map (Value.int .u8)).toArray 5 fr)) (hW W.heap.size trivial (by simp)), World.cell?_alloc_mark]
    simp [hj, List.getD_eq_getElem?_getD]⟩⟩)
def scrimlaw14_known.f (k : Nat)  : Option (Bool) := if 8 ≤ 281474976710656 then ((pad_Strip.f k 2 8 (List.replicate 8 0)).bind fun bt124 => ((pad_Add.f k 1 8 (([97, 98, 99] : List Int))).bind fun bt131 => (if bt124.2 = 8 then (if bt131.2 = 0 then (some ((strOfNums bt131.1).toList == ([97, 98, 99, 5, 5, 5, 5, 5] : List UInt8))) else (none)) else (none)))) else (none)
theorem scrimlaw14_known.mono : ∀ k, LeO (scrimlaw14_known.f k ) (scrimlaw14_known.f (k + 1) ) := by
  intro  k
  unfold scrimlaw14_known.f
  repeat' first
      | (with_reducible exact pad_Add.mono _ _ _ _)
      | (with_reducible exact pad_Strip.mono _ _ _ _)
      | (with_reducible exact LeO.refl _)
      | (with_reducible exact LeO.none _)
      | (with_reducible refine LeO.ite ?_ ?_)
      | (with_reducible refine LeO.bind ?_ (fun _ => ?_))
      | exact pad_Add.mono _ _ _ _
      | exact pad_Strip.mono _ _ _ _
      | exact LeO.none _
      | refine LeO.ite ?_ ?_
      | refine LeO.bind ?_ (fun _ => ?_)
set_option maxHeartbeats 8000000 in
set_option maxRecDepth 100000 in
theorem scrimlaw14_known.calls (k : Nat)  (r : Bool) (w : World) (h : scrimlaw14_known.f k  = some r) :
    Calls Try.prog 10 #[] w fun e w' => e = .returned (.bool r) ∧ Below w.heap.size w w' := by
  have HB := Aside0.mk (Below.refl w.heap.size w)
  have H : (if 8 ≤ 281474976710656 then ((pad_Strip.f k 2 8 (List.replicate 8 0)).bind fun bt124 => ((pad_Add.f k 1 8 (([97, 98, 99] : List Int))).bind fun bt131 => (if bt124.2 = 8 then (if bt131.2 = 0 then (some ((strOfNums bt131.1).toList == ([97, 98, 99, 5, 5, 5, 5, 5] : List UInt8))) else (none)) else (none)))) else (none)) = some r := h
  clear h
  by_cases c1 : 8 ≤ 281474976710656
  · rw [if_pos c1] at H
    have c1b0 := eq_true c1
    have c1b1 : decide (8 ≤ 281474976710656) = true := decide_eq_true c1
    clear c1
    obtain ⟨y121, hy121⟩ : ∃ y_ : List Int, y_ = (List.replicate 8 0) := ⟨_, rfl⟩
    replace H : ((pad_Strip.f k 2 8 y121).bind fun bt124 => ((pad_Add.f k 1 8 (([97, 98, 99] : List Int))).bind fun bt131 => (if bt124.2 = 8 then (if bt131.2 = 0 then (some ((strOfNums bt131.1).toList == ([97, 98, 99, 5, 5, 5, 5, 5] : List UInt8))) else (none)) else (none)))) = some r := by first | (rw [hy121]; with_reducible exact H) | (have H2_ := (Option.bind_some _ _).symm.trans H; rw [hy121]; with_reducible exact H2_) | (have H2_ := (Option.bind_some _ _).symm.trans H; with_reducible exact H2_) | with_reducible exact H | (rw [hy121]; exact H) | exact H
    have Ny121 := Aside0.mk hy121
    clear hy121
    replace H := Option.bind_eq_some_iff.mp H
    obtain ⟨⟨t124, t125⟩, A20, H⟩ := H
    replace H : ((pad_Add.f k 1 8 (([97, 98, 99] : List Int))).bind fun bt131 => (if t125 = 8 then (if bt131.2 = 0 then (some ((strOfNums bt131.1).toList == ([97, 98, 99, 5, 5, 5, 5, 5] : List UInt8))) else (none)) else (none))) = some r := H
    have A2 := Aside0.mk A20
    clear A20
    obtain ⟨y128, hy128⟩ : ∃ y_ : List Int, y_ = (([97, 98, 99] : List Int)) := ⟨_, rfl⟩
    replace H : ((pad_Add.f k 1 8 y128).bind fun bt131 => (if t125 = 8 then (if bt131.2 = 0 then (some ((strOfNums bt131.1).toList == ([97, 98, 99, 5, 5, 5, 5, 5] : List UInt8))) else (none)) else (none))) = some r := by first | (rw [hy128]; with_reducible exact H) | (have H2_ := (Option.bind_some _ _).symm.trans H; rw [hy128]; with_reducible exact H2_) | (have H2_ := (Option.bind_some _ _).symm.trans H; with_reducible exact H2_) | with_reducible exact H | (rw [hy128]; exact H) | exact H
    have Ny128 := Aside0.mk hy128
    clear hy128
    replace H := Option.bind_eq_some_iff.mp H
    obtain ⟨⟨t131, t134⟩, A30, H⟩ := H
    replace H : (if t125 = 8 then (if t134 = 0 then (some ((strOfNums t131).toList == ([97, 98, 99, 5, 5, 5, 5, 5] : List UInt8))) else (none)) else (none)) = some r := H
    have A3 := Aside0.mk A30
    clear A30
    by_cases c4 : t125 = 8
    · rw [if_pos c4] at H
      have c4b0 : (t125 == 8) = true := beq_iff_eq.mpr c4
      have c4b1 : (t125 != 8) = false := bne_eq_false_iff_eq.mpr c4
      clear c4
      by_cases c5 : t134 = 0
      · rw [if_pos c5] at H
        have c5b0 : (t134 == 0) = true := beq_iff_eq.mpr c5
        have c5b1 : (t134 != 0) = false := bne_eq_false_iff_eq.mpr c5
        clear c5
        obtain rfl := Option.some.inj H
        rw [Ny128.out] at A3
        have kc := fun (w : World) (C : Array Value) (n c : Nat) => Lib.run_convert_bytes_const (P := Try.prog) w 22 5 C n c Try.underlying22 Try.underlying5
        go_enter Try.func10, Try.ntmps10
        go_wp2_with (first | ((with_reducible refine gate_dst (N := 6) rfl ?_); refine Kd.R_make (Kd.int .u8) _ 5 rfl (N := 6) rfl 22 _ _ rfl 8 rfl rfl Try.underlying22 (.int .u8 0) 1 info5 rfl (by decide) (by omega) 0 (ok := fun _ => True) (okp := fun _ => True) rfl (fun _ hk => hk) trivial (by omega) (by omega) (Below.refl _ _) (Nat.le_refl _) ?_; intro v122 w6 ho7 hb hg_ hnew_; clear hg_ hnew_; (first | rw [← Ny121.out] at ho7 | (simp only [Int.reduceToNat] at ho7; rw [← Ny121.out] at ho7)); have n0_ := Aside0.mk (Kd.R_lower ho7 (below_size (by repeat (first | (with_reducible first | exact HB.out | apply below_alloc | apply pw_below_drewN | apply below_drew1) | exact HB.out)))); have n1_ := Aside0.mk (below_step (by repeat (first | (with_reducible first | exact HB.out | apply below_alloc | apply pw_below_drewN | apply below_drew1) | exact HB.out)) hb); clear HB; have HO123 := n0_; have HB := n1_; clear n0_ n1_; clear hb ho7; obtain ⟨Ao8, co8, eo8⟩ := Kd.R_slice HO123.out; subst eo8) | ((with_reducible refine gate_callee (f := 15) rfl ?_); refine goesL_ (some 7) rfl rfl Try.func15 (by kernel_rfl) rfl #[.int .i64 2, .int .i64 8, .slice Ao8 y121.length co8] rfl (by (try simp only [List.map_toArray, List.map_cons, List.map_nil]); first | done | rfl | (simp only [List.length_drop, List.length_take]; rfl)) ?_; (with_reducible refine (pad_Strip.calls k 2 8 _ _ y121 t124 t125 _ ?side1 ?side2 A2.out).mono ?_); (case side1 => repeat (first | exact (Kd.R_reads' HO123.out).2.2 | (with_reducible refine Kd.C_alloc ?_ _) | (with_reducible refine Kd.C_drewN ?_ _) | (with_reducible refine Kd.C_drew ?_))); (case side2 => exact (Kd.R_reads' HO123.out).2.1); rintro e w9 ⟨v126, rfl, ho0, hb⟩; refine ⟨_, rfl, ?_⟩; have n0_ := Aside0.mk (Kd.R_elder' (by (with_reducible repeat (first | apply Kd.R_alloc | apply Kd.R_drewN | apply Kd.R_drew)); exact HO123.out) (Kd.R_base ho0) hb); have n1_ := Aside0.mk (Kd.R_lower (Kd.R_new' ho0 (Kd.R_lt (by (with_reducible repeat (first | apply Kd.R_alloc | apply Kd.R_drewN | apply Kd.R_drew)); exact HO123.out))) (below_size (by repeat (first | (with_reducible first | exact HB.out | apply below_alloc | apply pw_below_drewN | apply below_drew1) | exact HB.out)))); have n2_ := Aside0.mk (below_step (by repeat (first | (with_reducible first | exact HB.out | apply below_alloc | apply pw_below_drewN | apply below_drew1) | exact HB.out)) hb); clear HO123; clear HB; have HO123 := n0_; have HO127 := n1_; have HB := n2_; clear n0_ n1_ n2_; (try clear hb); (try clear hb2); (try clear hk); (try clear hi); (try clear ho0)) | ((with_reducible refine gate_callee (f := 12) rfl ?_); refine goesL_ (some 13) rfl rfl Try.func12 (by kernel_rfl) rfl #[.int .i64 1, .int .i64 8, .slice (some ⟨w9.heap.size, 0, none⟩) 3 3] rfl (by (try simp only [List.map_toArray, List.map_cons, List.map_nil]); first | done | rfl | (simp only [List.length_drop, List.length_take]; rfl)) ?_; refine calls_of_args (args' := #[.int .i64 1, .int .i64 8, .slice (some ⟨w9.heap.size, 0, none⟩) ([97, 98, 99] : List Int).length ([97, 98, 99] : List Int).length]) rfl ?_; (with_reducible refine (pad_Add.calls k 1 8 (fun _ => True) _ _ [97, 98, 99] t131 t134 _ ?side1 A3.out).mono ?_); (case side1 => exact V_lit _ [97, 98, 99] (by decide) _ _); rintro e w13 ⟨v132, rfl, ho0, hb⟩; refine ⟨_, rfl, ?_⟩; have n3_ := Aside0.mk (Kd.R_lower (Kd.R_mono (ok' := fun _ => True) ho0 (fun _ _ => trivial)) (below_size (by repeat (first | (with_reducible first | exact HB.out | apply below_alloc | apply pw_below_drewN | apply below_drew1) | exact HB.out)))); have n4_ := Aside0.mk (below_step (by repeat (first | (with_reducible first | exact HB.out | apply below_alloc | apply pw_below_drewN | apply below_drew1) | exact HB.out)) hb); clear HB; have HO133 := n3_; have HB := n4_; clear n3_ n4_; (try clear hb); (try clear hb2); (try clear hk); (try clear hi); (try clear ho0); have hcv14 := own_string (P := Try.prog) Try.underlying22 Try.underlying5 Try.underlying9 (Kd.own_of_R HO133.out)))
        go_ret
        exact ⟨by first | rfl | (simp [errW_none, errW_some] <;> rfl) | (simp [*, errW_none, errW_some] <;> rfl), by repeat (first | (with_reducible first | exact HB.out | apply below_alloc | apply pw_below_drewN | apply below_drew1) | exact HB.out)⟩
      · rw [if_neg c5] at H
        exact absurd H (by simp)
    · rw [if_neg c4] at H
      exact absurd H (by simp)
  · rw [if_neg c1] at H
    exact absurd H (by simp)

/-! ### scrimlaw14_within: function 11 -/
def scrimlaw14_within.f (a0 : Int) (a1 : Int) : Option (Int) := if a1 = 0 then (none) else (if (Int.tmod a0 a1) < 0 then (some (wrap64 ((Int.tmod a0 a1) + a1))) else (some (Int.tmod a0 a1)))
set_option maxHeartbeats 8000000 in
set_option maxRecDepth 100000 in
theorem scrimlaw14_within.calls (a0 : Int) (a1 : Int) (r : Int) (w : World) (h : scrimlaw14_within.f a0 a1 = some r) :
    Calls Try.prog 11 #[.int .i64 a0, .int .i64 a1] w fun e w' => e = .returned (.int .i64 r) ∧ Drawn0 w w' := by
  have H : (if a1 = 0 then (none) else (if (Int.tmod a0 a1) < 0 then (some (wrap64 ((Int.tmod a0 a1) + a1))) else (some (Int.tmod a0 a1)))) = some r := h
  clear h
  by_cases c3 : a1 = 0
  · rw [if_pos c3] at H
    exact absurd H (by simp)
  · rw [if_neg c3] at H
    have c3b0 : (a1 == 0) = false := beq_eq_false_iff_ne.mpr c3
    have c3b1 : (a1 != 0) = true := bne_iff_ne.mpr c3
    by_cases c4 : (Int.tmod a0 a1) < 0
    · rw [if_pos c4] at H
      have c4b0 : decide ((Int.tmod a0 a1) < 0) = true := decide_eq_true c4
      clear c4
      obtain rfl := Option.some.inj H
      go_enter Try.func11, Try.ntmps11
      go_wp2
      go_ret
      exact ⟨by first | rfl | (simp; done) | (simp [*]; done), by repeat (first | exact Drawn0.refl _ | apply Drawn0.step)⟩
    · rw [if_neg c4] at H
      have c4b0 : decide ((Int.tmod a0 a1) < 0) = false := decide_eq_false c4
      clear c4
      obtain rfl := Option.some.inj H
      go_enter Try.func11, Try.ntmps11
      go_wp2
      go_ret
      exact ⟨by first | rfl | (simp; done) | (simp [*]; done), by repeat (first | exact Drawn0.refl _ | apply Drawn0.step)⟩

/-! ### scrimlaw14_block: function 14 -/
mutual
def scrimlaw14_block.l0 : Nat → Int → List Int → Int → Int → Option (List Int)
  | 0, _, _, _, _ => none
  | k + 1, x0, x9, x10, x11 => if x11 < x0 then (if 0 ≤ x11 then (if x11 < (x9.length : Int) then (scrimlaw14_block.l0 k x0 (x9.set (x11 : Int).toNat ((x10) % 256)) x10 (wrap64 (x11 + 1))) else (none)) else (none)) else (some x9)
def scrimlaw14_block.l1 : Nat → Int → List Int → Int → Int → Option (List Int)
  | 0, _, _, _, _ => none
  | k + 1, x0, x9, x10, x12 => if x12 < x0 then (if 0 ≤ x12 then (if x12 < (x9.length : Int) then (scrimlaw14_block.l1 k x0 (x9.set (x12 : Int).toNat 0) x10 (wrap64 (x12 + 1))) else (none)) else (none)) else (if x10 ≥ 1 then (if x10 ≤ x0 then (if 0 ≤ (wrap64 (x0 - x10)) then (if (wrap64 (x0 - x10)) < (x9.length : Int) then (some (x9.set ((wrap64 (x0 - x10)) : Int).toNat 128)) else (none)) else (none)) else (some x9)) else (some x9))
def scrimlaw14_block.l2 : Nat → Int → List Int → Int → Int → Option (List Int)
  | 0, _, _, _, _ => none
  | k + 1, x0, x9, x10, x13 => if x13 < x0 then (if 0 ≤ x13 then (if x13 < (x9.length : Int) then (scrimlaw14_block.l2 k x0 (x9.set (x13 : Int).toNat ((x10) % 256)) x10 (wrap64 (x13 + 1))) else (none)) else (none)) else (some x9)
end
def scrimlaw14_block.f (k : Nat) (a0 : Int) (l1 : List Int) (a2 : Int) (a3 : Int) : Option (List Int) := if 0 ≤ a0 then (if (a0 : Int).toNat ≤ 281474976710656 then ((some (List.replicate (a0 : Int).toNat 0 : List Int)).bind fun y124 => ((some (l1.take (min l1.length y124.length) ++ y124.drop (min l1.length y124.length) : List Int)).bind fun y127 => ((scrimlaw14_within.f a3 (wrap64 (a0 + 2))).bind fun t128 => ((scrimlaw14_within.f a2 5).bind fun t129 => (if t129 = 0 then (scrimlaw14_block.l0 k a0 y127 t128 (mx 0 (wrap64 (a0 - t128)))) else (if t129 = 1 then (scrimlaw14_block.l1 k a0 y127 t128 (mx 0 (wrap64 (a0 - t128)))) else (if t129 = 2 then (if 0 ≤ (wrap64 (a0 - 1)) then (if (wrap64 (a0 - 1)) < (y127.length : Int) then (some (y127.set ((wrap64 (a0 - 1)) : Int).toNat ((t128) % 256))) else (none)) else (none)) else (if t129 = 3 then (scrimlaw14_block.l2 k a0 y127 t128 0) else (some y127))))))))) else (none)) else (none)
theorem scrimlaw14_block.mono_l : ∀ k, (∀ y0 y1 y2 y3, LeO (scrimlaw14_block.l0 k y0 y1 y2 y3) (scrimlaw14_block.l0 (k + 1) y0 y1 y2 y3)) ∧ (∀ y0 y1 y2 y3, LeO (scrimlaw14_block.l1 k y0 y1 y2 y3) (scrimlaw14_block.l1 (k + 1) y0 y1 y2 y3)) ∧ (∀ y0 y1 y2 y3, LeO (scrimlaw14_block.l2 k y0 y1 y2 y3) (scrimlaw14_block.l2 (k + 1) y0 y1 y2 y3))
  | 0 => ⟨fun _ _ _ _ r h => by simp [scrimlaw14_block.l0] at h, fun _ _ _ _ r h => by simp [scrimlaw14_block.l1] at h, fun _ _ _ _ r h => by simp [scrimlaw14_block.l2] at h⟩
  | k + 1 => by
    obtain ⟨ih0, ih1, ih2⟩ := scrimlaw14_block.mono_l k
    refine ⟨?_, ?_, ?_⟩
    · intro y0 y1 y2 y3
      unfold scrimlaw14_block.l0
      repeat' first
      | (with_reducible exact ih0 _ _ _ _)
      | (with_reducible exact ih1 _ _ _ _)
      | (with_reducible exact ih2 _ _ _ _)
      | (with_reducible exact LeO.refl _)
      | (with_reducible exact LeO.none _)
      | (with_reducible refine LeO.ite ?_ ?_)
      | (with_reducible refine LeO.bind ?_ (fun _ => ?_))
      | exact ih0 _ _ _ _
      | exact ih1 _ _ _ _
      | exact ih2 _ _ _ _
      | exact LeO.none _
      | refine LeO.ite ?_ ?_
      | refine LeO.bind ?_ (fun _ => ?_)
    · intro y0 y1 y2 y3
      unfold scrimlaw14_block.l1
      repeat' first
      | (with_reducible exact ih0 _ _ _ _)
      | (with_reducible exact ih1 _ _ _ _)
      | (with_reducible exact ih2 _ _ _ _)
      | (with_reducible exact LeO.refl _)
      | (with_reducible exact LeO.none _)
      | (with_reducible refine LeO.ite ?_ ?_)
      | (with_reducible refine LeO.bind ?_ (fun _ => ?_))
      | exact ih0 _ _ _ _
      | exact ih1 _ _ _ _
      | exact ih2 _ _ _ _
      | exact LeO.none _
      | refine LeO.ite ?_ ?_
      | refine LeO.bind ?_ (fun _ => ?_)
    · intro y0 y1 y2 y3
      unfold scrimlaw14_block.l2
      repeat' first
      | (with_reducible exact ih0 _ _ _ _)
      | (with_reducible exact ih1 _ _ _ _)
      | (with_reducible exact ih2 _ _ _ _)
      | (with_reducible exact LeO.refl _)
      | (with_reducible exact LeO.none _)
      | (with_reducible refine LeO.ite ?_ ?_)
      | (with_reducible refine LeO.bind ?_ (fun _ => ?_))
      | exact ih0 _ _ _ _
      | exact ih1 _ _ _ _
      | exact ih2 _ _ _ _
      | exact LeO.none _
      | refine LeO.ite ?_ ?_
      | refine LeO.bind ?_ (fun _ => ?_)
theorem scrimlaw14_block.mono : ∀ a0 a1 a2 a3 k, LeO (scrimlaw14_block.f k a0 a1 a2 a3) (scrimlaw14_block.f (k + 1) a0 a1 a2 a3) := by
  intro a0 a1 a2 a3 k
  obtain ⟨ih0, ih1, ih2⟩ := scrimlaw14_block.mono_l k
  unfold scrimlaw14_block.f
  repeat' first
      | (with_reducible exact ih0 _ _ _ _)
      | (with_reducible exact ih1 _ _ _ _)
      | (with_reducible exact ih2 _ _ _ _)
      | (with_reducible exact LeO.refl _)
      | (with_reducible exact LeO.none _)
      | (with_reducible refine LeO.ite ?_ ?_)
      | (with_reducible refine LeO.bind ?_ (fun _ => ?_))
      | exact ih0 _ _ _ _
      | exact ih1 _ _ _ _
      | exact ih2 _ _ _ _
      | exact LeO.none _
      | refine LeO.ite ?_ ?_
      | refine LeO.bind ?_ (fun _ => ?_)
set_option maxHeartbeats 8000000 in
set_option maxRecDepth 100000 in
theorem scrimlaw14_block.calls (k : Nat) (a0 : Int) (A1 : Option Addr) (c1 : Nat) (l1 : List Int) (a2 : Int) (a3 : Int) (r : List Int) (w : World) (hr1 : Kd.C (Kd.int .u8) w A1 l1.length l1) (hc1 : l1.length ≤ c1) (h : scrimlaw14_block.f k a0 l1 a2 a3 = some r) :
    Calls Try.prog 14 #[.int .i64 a0, .slice A1 l1.length c1, .int .i64 a2, .int .i64 a3] w fun e w' => ∃ v0_ : Value, e = .returned (v0_) ∧ Kd.R (Kd.int .u8) 5 w' w.heap.size (fun _ => True) v0_ r ∧ Below w.heap.size w w' := by
  have HR1 := Aside0.mk hr1
  have HC1 := Aside0.mk hc1
  clear hr1 hc1
  have HB := Aside0.mk (Below.refl w.heap.size w)
  have H : (if 0 ≤ a0 then (if (a0 : Int).toNat ≤ 281474976710656 then ((some (List.replicate (a0 : Int).toNat 0 : List Int)).bind fun y124 => ((some (l1.take (min l1.length y124.length) ++ y124.drop (min l1.length y124.length) : List Int)).bind fun y127 => ((scrimlaw14_within.f a3 (wrap64 (a0 + 2))).bind fun t128 => ((scrimlaw14_within.f a2 5).bind fun t129 => (if t129 = 0 then (scrimlaw14_block.l0 k a0 y127 t128 (mx 0 (wrap64 (a0 - t128)))) else (if t129 = 1 then (scrimlaw14_block.l1 k a0 y127 t128 (mx 0 (wrap64 (a0 - t128)))) else (if t129 = 2 then (if 0 ≤ (wrap64 (a0 - 1)) then (if (wrap64 (a0 - 1)) < (y127.length : Int) then (some (y127.set ((wrap64 (a0 - 1)) : Int).toNat ((t128) % 256))) else (none)) else (none)) else (if t129 = 3 then (scrimlaw14_block.l2 k a0 y127 t128 0) else (some y127))))))))) else (none)) else (none)) = some r := h
  clear h
  by_cases c5 : 0 ≤ a0
  · rw [if_pos c5] at H
    have c5b0 := eq_true c5
    have c5b1 : decide (0 ≤ a0) = true := decide_eq_true c5
    clear c5
    by_cases c6 : (a0 : Int).toNat ≤ 281474976710656
    · rw [if_pos c6] at H
      have c6b0 := eq_true c6
      have c6b1 : decide ((a0 : Int).toNat ≤ 281474976710656) = true := decide_eq_true c6
      clear c6
      obtain ⟨y124, hy124⟩ : ∃ y_ : List Int, y_ = (List.replicate (a0 : Int).toNat 0) := ⟨_, rfl⟩
      replace H : ((some (l1.take (min l1.length y124.length) ++ y124.drop (min l1.length y124.length) : List Int)).bind fun y127 => ((scrimlaw14_within.f a3 (wrap64 (a0 + 2))).bind fun t128 => ((scrimlaw14_within.f a2 5).bind fun t129 => (if t129 = 0 then (scrimlaw14_block.l0 k a0 y127 t128 (mx 0 (wrap64 (a0 - t128)))) else (if t129 = 1 then (scrimlaw14_block.l1 k a0 y127 t128 (mx 0 (wrap64 (a0 - t128)))) else (if t129 = 2 then (if 0 ≤ (wrap64 (a0 - 1)) then (if (wrap64 (a0 - 1)) < (y127.length : Int) then (some (y127.set ((wrap64 (a0 - 1)) : Int).toNat ((t128) % 256))) else (none)) else (none)) else (if t129 = 3 then (scrimlaw14_block.l2 k a0 y127 t128 0) else (some y127)))))))) = some r := by first | (rw [hy124]; with_reducible exact H) | (have H2_ := (Option.bind_some _ _).symm.trans H; rw [hy124]; with_reducible exact H2_) | (have H2_ := (Option.bind_some _ _).symm.trans H; with_reducible exact H2_) | with_reducible exact H | (rw [hy124]; exact H) | exact H
      have Ny124 := Aside0.mk hy124
      clear hy124
      obtain ⟨y127, hy127⟩ : ∃ y_ : List Int, y_ = (l1.take (min l1.length y124.length) ++ y124.drop (min l1.length y124.length)) := ⟨_, rfl⟩
      replace H : ((scrimlaw14_within.f a3 (wrap64 (a0 + 2))).bind fun t128 => ((scrimlaw14_within.f a2 5).bind fun t129 => (if t129 = 0 then (scrimlaw14_block.l0 k a0 y127 t128 (mx 0 (wrap64 (a0 - t128)))) else (if t129 = 1 then (scrimlaw14_block.l1 k a0 y127 t128 (mx 0 (wrap64 (a0 - t128)))) else (if t129 = 2 then (if 0 ≤ (wrap64 (a0 - 1)) then (if (wrap64 (a0 - 1)) < (y127.length : Int) then (some (y127.set ((wrap64 (a0 - 1)) : Int).toNat ((t128) % 256))) else (none)) else (none)) else (if t129 = 3 then (scrimlaw14_block.l2 k a0 y127 t128 0) else (some y127))))))) = some r := by first | (rw [hy127]; with_reducible exact H) | (have H2_ := (Option.bind_some _ _).symm.trans H; rw [hy127]; with_reducible exact H2_) | (have H2_ := (Option.bind_some _ _).symm.trans H; with_reducible exact H2_) | with_reducible exact H | (rw [hy127]; exact H) | exact H
      have Ny127 := Aside0.mk hy127
      clear hy127
      replace H := Option.bind_eq_some_iff.mp H
      obtain ⟨t128, A70, H⟩ := H
      replace H : ((scrimlaw14_within.f a2 5).bind fun t129 => (if t129 = 0 then (scrimlaw14_block.l0 k a0 y127 t128 (mx 0 (wrap64 (a0 - t128)))) else (if t129 = 1 then (scrimlaw14_block.l1 k a0 y127 t128 (mx 0 (wrap64 (a0 - t128)))) else (if t129 = 2 then (if 0 ≤ (wrap64 (a0 - 1)) then (if (wrap64 (a0 - 1)) < (y127.length : Int) then (some (y127.set ((wrap64 (a0 - 1)) : Int).toNat ((t128) % 256))) else (none)) else (none)) else (if t129 = 3 then (scrimlaw14_block.l2 k a0 y127 t128 0) else (some y127)))))) = some r := H
      have A7 := Aside0.mk A70
      clear A70
      replace H := Option.bind_eq_some_iff.mp H
      obtain ⟨t129, A80, H⟩ := H
      replace H : (if t129 = 0 then (scrimlaw14_block.l0 k a0 y127 t128 (mx 0 (wrap64 (a0 - t128)))) else (if t129 = 1 then (scrimlaw14_block.l1 k a0 y127 t128 (mx 0 (wrap64 (a0 - t128)))) else (if t129 = 2 then (if 0 ≤ (wrap64 (a0 - 1)) then (if (wrap64 (a0 - 1)) < (y127.length : Int) then (some (y127.set ((wrap64 (a0 - 1)) : Int).toNat ((t128) % 256))) else (none)) else (none)) else (if t129 = 3 then (scrimlaw14_block.l2 k a0 y127 t128 0) else (some y127))))) = some r := H
      have A8 := Aside0.mk A80
      clear A80
      by_cases c9 : t129 = 0
      · rw [if_pos c9] at H
        have c9b0 : (t129 == 0) = true := beq_iff_eq.mpr c9
        have c9b1 : (t129 != 0) = false := bne_eq_false_iff_eq.mpr c9
        clear c9
        obtain ⟨ji10, hji10⟩ : ∃ j_ : Int, (mx 0 (wrap64 (a0 - t128))) = j_ := ⟨_, rfl⟩
        replace H : (scrimlaw14_block.l0 k a0 y127 t128 ji10) = some r := by first | (rw [hji10] at H; exact H) | (simp only [hji10] at H ⊢; exact H)
        (try rw [hji10] at A7)
        (try rw [hji10] at A8)
        (try (have hji10l : 0 ≤ ji10 := by (rw [← hji10]; unfold mx; (repeat' split) <;> omega)))
        (try (have hji10m : 0 ≤ ji10 := by omega))
        have hji10_ : (if 0 < (wrap64 (a0 - t128)) then (wrap64 (a0 - t128)) else 0) = ji10 := hji10
        have H' := Aside0.mk H
        clear H
        go_enter Try.func14, Try.ntmps14
        go_wp2_with (first | ((with_reducible refine gate_dst (N := 15) rfl ?_); refine Kd.R_make (Kd.int .u8) _ 5 rfl (N := 15) rfl 22 _ _ rfl a0 rfl rfl Try.underlying22 (.int .u8 0) 1 info5 rfl (by decide) (by omega) 0 (ok := fun _ => True) (okp := fun _ => True) rfl (fun _ hk => hk) trivial (of_decide_eq_true (by first | (with_reducible assumption) | assumption)) (Nat.le_trans (Nat.mul_le_mul_right _ (of_decide_eq_true (by first | (with_reducible assumption) | assumption) : a0.toNat ≤ 281474976710656)) (by omega)) (Below.refl _ _) (Nat.le_refl _) ?_; intro v125 w11 ho12 hb hg_ hnew_; clear hg_ hnew_; (first | rw [← Ny124.out] at ho12 | (simp only [Int.reduceToNat] at ho12; rw [← Ny124.out] at ho12)); have n0_ := Aside0.mk (Kd.R_lower ho12 (below_size (by repeat (first | (with_reducible first | exact HB.out | apply below_alloc | apply pw_below_drewN | apply below_drew1) | exact HB.out)))); have n1_ := Aside0.mk (below_step (by repeat (first | (with_reducible first | exact HB.out | apply below_alloc | apply pw_below_drewN | apply below_drew1) | exact HB.out)) hb); clear HB; have HO126 := n0_; have HB := n1_; clear n0_ n1_; clear hb ho12) | ((with_reducible refine gate_builtin (b := .copy) (xs := #[.tmp 16, .tmp 17]) rfl ?_); refine Kd.R_copy 0 (w0 := w) w.heap.size rfl (.tmp 16) (.tmp 17) 22 22 5 rfl Try.underlying22 (by kernel_rfl) v125 y124 l1 _ _ _ _ rfl rfl HO126.out ?aR ?aB ?aS ?_; (case aR => repeat (first | exact (Kd.C_below HR1.out HB.out) | (with_reducible refine Kd.C_alloc ?_ _) | (with_reducible refine Kd.C_drewN ?_ _) | (with_reducible refine Kd.C_drew ?_))); (case aB => exact (by repeat (first | (with_reducible first | exact HB.out | apply below_alloc | apply pw_below_drewN | apply below_drew1) | exact HB.out))); (case aS => exact (below_size (by repeat (first | (with_reducible first | exact HB.out | apply below_alloc | apply pw_below_drewN | apply below_drew1) | exact HB.out)))); intro w14 hp_ hb_ hg0_; have hg : w11.grownBy w14 (v125 : Value).ownBlock := hg0_; clear hg0_; rw [← Ny127.out] at hp_; have n0_ := Aside0.mk (hp_); have n1_ := Aside0.mk (hb_); clear HO126; clear HB; have HO126 := n0_; have HB := n1_; clear n0_ n1_; clear hg hb_ hp_) | ((with_reducible refine gate_callee (f := 11) rfl ?_); refine goesL_ (some 22) rfl rfl Try.func11 (by kernel_rfl) rfl #[.int .i64 a3, .int .i64 (wrap64 (a0 + 2))] rfl (by (try simp only [List.map_toArray, List.map_cons, List.map_nil]); first | done | rfl | (simp only [List.length_drop, List.length_take]; rfl)) ?_; (with_reducible refine (scrimlaw14_within.calls a3 (wrap64 (a0 + 2)) t128 _ A7.out).mono ?_); rintro e w' ⟨rfl, ⟨nd, rfl⟩⟩; refine ⟨_, rfl, ?_⟩) | ((with_reducible refine gate_callee (f := 11) rfl ?_); refine goesL_ (some 24) rfl rfl Try.func11 (by kernel_rfl) rfl #[.int .i64 a2, .int .i64 5] rfl (by (try simp only [List.map_toArray, List.map_cons, List.map_nil]); first | done | rfl | (simp only [List.length_drop, List.length_take]; rfl)) ?_; (with_reducible refine (scrimlaw14_within.calls a2 5 t129 _ A8.out).mono ?_); rintro e w' ⟨rfl, ⟨nd, rfl⟩⟩; refine ⟨_, rfl, ?_⟩))
        go_loopg [11] k (fun kq v11 w' => ∃ (x9_1 : List Int) (x11_1 : Int), v11 = .int .i64 x11_1 ∧ Aside0 (scrimlaw14_block.l0 kq a0 x9_1 t128 x11_1 = some r) ∧ Aside0 (kq ≤ k) ∧ Aside0 (Kd.R (Kd.int .u8) 5 w' w.heap.size (fun _ => True) v125 x9_1) ∧ Aside0 (Below w.heap.size w w'))
        case atStart => exact ⟨(y127), (ji10), (by first | rfl | (simp; done) | (simp only [← hji10] <;> (first | rfl | simp)) | (simp [*]; done)), H', ⟨Nat.le_refl _⟩, ⟨by (with_reducible repeat (first | apply Kd.R_alloc | apply Kd.R_drewN | apply Kd.R_drew)); exact HO126.out⟩, ⟨by repeat (first | (with_reducible first | exact HB.out | apply below_alloc | apply pw_below_drewN | apply below_drew1) | exact HB.out)⟩⟩
        case round =>
          clear H'
          try clear c1
          try clear p2
          try clear c5
          try clear c5b0
          try clear c5b1
          try clear c6
          try clear c6b0
          try clear c6b1
          try clear p6
          try clear c9
          try clear c9b0
          try clear c9b1
          try clear c11
          try clear c14
          obtain ⟨x9_1, x11_1, rfl, HA, HK1, HO_9, HB⟩ := hrel
          cases gk with
          | zero => exact absurd HA.out (by simp [scrimlaw14_block.l0])
          | succ k1 =>
            have H := HA.out
            clear HA
            simp only [scrimlaw14_block.l0] at H
            by_cases c15 : x11_1 < a0
            · rw [if_pos c15] at H
              have c15b0 : decide (x11_1 < a0) = true := decide_eq_true c15
              clear c15
              by_cases c16 : 0 ≤ x11_1
              · rw [if_pos c16] at H
                have c16b0 : decide (0 ≤ x11_1) = true := decide_eq_true c16
                clear c16
                by_cases c17 : x11_1 < (x9_1.length : Int)
                · rw [if_pos c17] at H
                  have c17b0 : decide (x11_1 < (x9_1.length : Int)) = true := decide_eq_true c17
                  clear c17
                  obtain ⟨y130, hy130⟩ : ∃ y_ : List Int, y_ = (x9_1.set (x11_1 : Int).toNat ((t128) % 256)) := ⟨_, rfl⟩
                  replace H : (scrimlaw14_block.l0 k1 a0 y130 t128 (wrap64 (x11_1 + 1))) = some r := by first | (rw [hy130]; with_reducible exact H) | (have H2_ := (Option.bind_some _ _).symm.trans H; rw [hy130]; with_reducible exact H2_) | (have H2_ := (Option.bind_some _ _).symm.trans H; with_reducible exact H2_) | with_reducible exact H | (rw [hy130]; exact H) | exact H
                  have Ny130 := Aside0.mk hy130
                  clear hy130
                  have H' := Aside0.mk H
                  clear H
                  have p18 : 0 ≤ (x11_1 : Int) := of_decide_eq_true (by first | (with_reducible assumption) | assumption)
                  have q18 : (x11_1 : Int) < ((x9_1.length : Int) : Int) := of_decide_eq_true (by first | (with_reducible assumption) | assumption)
                  obtain ⟨go18, co18, eo18, gb18, gl18, cl18, HG18⟩ := Kd.R_form HO_9.out (by omega)
                  (first | cases eo18 | (injection eo18 with ea_ en_ ec_; (first | subst ea_ | (injection ea_ with ea_; subst ea_)); subst ec_; clear en_))
                  have GB18 := Aside0.mk gb18
                  have GG18 := Aside0.mk HG18
                  clear gb18 gl18 HG18
                  obtain ⟨hx18_0, hf18_0⟩ := Kd.R_celln 0 HO_9.out (x11_1 : Int) p18 q18
                  replace p18 := eq_true p18
                  replace q18 := eq_true q18
                  have HP19 := Kd.R_putg HO_9.out (x11_1 : Int) ((t128) % 256)
                  go_wp2_with (first | ((with_reducible refine gate_store (t := 5) (p := 40) rfl ?_); refine store_event (t := 5) (p := 40) (v := ?vo_w20) (w1 := (wr.setCell ⟨go18, (x11_1 : Int).toNat, none⟩ (.int .u8 ((t128) % 256)))) ?hg ?ho ?hn ?hr ?_; (case ho => rfl); (case hg => rfl); (case hn => rfl); (case hr => first | (go_simp; done) | (go_simp; rfl)); intro w20 hw; have hg : wr.grownBy w20 (some go18) := (by rw [hw]; exact HP19.2); have hp_ : Kd.R (Kd.int .u8) 5 w20 w.heap.size (fun _ => True) (.slice (some ⟨go18, 0, none⟩) x9_1.length co18) y130 := (by rw [hw, Ny130.out]; exact HP19.1); clear HP19; have n0_ := Aside0.mk (hp_); have n1_ := Aside0.mk ((by rw [hw]; exact below_set (HB.out) GB18.out : Below w.heap.size w w20)); clear HO_9; clear HB; have HO_9 := n0_; have HB := n1_; clear n0_ n1_; clear hg hw hp_))
                  go_roundg k1
                  case measure => have := HK1.out; omega
                  case rel => exact ⟨(y130), (wrap64 (x11_1 + 1)), (by first | rfl | (simp; done) | (simp [*]; done)), H', ⟨by have := HK1.out; omega⟩, ⟨by (with_reducible repeat (first | apply Kd.R_alloc | apply Kd.R_drewN | apply Kd.R_drew)); exact HO_9.out⟩, ⟨by repeat (first | (with_reducible first | exact HB.out | apply below_alloc | apply pw_below_drewN | apply below_drew1) | exact HB.out)⟩⟩
                · rw [if_neg c17] at H
                  exact absurd H (by simp)
              · rw [if_neg c16] at H
                exact absurd H (by simp)
            · rw [if_neg c15] at H
              have c15b0 : decide (x11_1 < a0) = false := decide_eq_false c15
              clear c15
              obtain rfl := Option.some.inj H
              go_wp2
              go_ret
              exact ⟨_, by first | rfl | (simp [errW_none, errW_some] <;> rfl) | (simp only [← hji10]; first | rfl | (simp [errW_none, errW_some] <;> rfl)) | (simp [*, errW_none, errW_some] <;> rfl), by (with_reducible repeat (first | apply Kd.R_alloc | apply Kd.R_drewN | apply Kd.R_drew)); exact HO_9.out, by repeat (first | (with_reducible first | exact HB.out | apply below_alloc | apply pw_below_drewN | apply below_drew1) | exact HB.out)⟩
      · rw [if_neg c9] at H
        have c9b0 : (t129 == 0) = false := beq_eq_false_iff_ne.mpr c9
        have c9b1 : (t129 != 0) = true := bne_iff_ne.mpr c9
        by_cases c21 : t129 = 1
        · rw [if_pos c21] at H
          have c21b0 : (t129 == 1) = true := beq_iff_eq.mpr c21
          have c21b1 : (t129 != 1) = false := bne_eq_false_iff_eq.mpr c21
          clear c21
          obtain ⟨ji22, hji22⟩ : ∃ j_ : Int, (mx 0 (wrap64 (a0 - t128))) = j_ := ⟨_, rfl⟩
          replace H : (scrimlaw14_block.l1 k a0 y127 t128 ji22) = some r := by first | (rw [hji22] at H; exact H) | (simp only [hji22] at H ⊢; exact H)
          (try rw [hji22] at A7)
          (try rw [hji22] at A8)
          (try (have hji22l : 0 ≤ ji22 := by (rw [← hji22]; unfold mx; (repeat' split) <;> omega)))
          (try (have hji22m : 0 ≤ ji22 := by omega))
          have hji22_ : (if 0 < (wrap64 (a0 - t128)) then (wrap64 (a0 - t128)) else 0) = ji22 := hji22
          have H' := Aside0.mk H
          clear H
          go_enter Try.func14, Try.ntmps14
          go_wp2_with (first | ((with_reducible refine gate_dst (N := 15) rfl ?_); refine Kd.R_make (Kd.int .u8) _ 5 rfl (N := 15) rfl 22 _ _ rfl a0 rfl rfl Try.underlying22 (.int .u8 0) 1 info5 rfl (by decide) (by omega) 0 (ok := fun _ => True) (okp := fun _ => True) rfl (fun _ hk => hk) trivial (of_decide_eq_true (by first | (with_reducible assumption) | assumption)) (Nat.le_trans (Nat.mul_le_mul_right _ (of_decide_eq_true (by first | (with_reducible assumption) | assumption) : a0.toNat ≤ 281474976710656)) (by omega)) (Below.refl _ _) (Nat.le_refl _) ?_; intro v125 w23 ho24 hb hg_ hnew_; clear hg_ hnew_; (first | rw [← Ny124.out] at ho24 | (simp only [Int.reduceToNat] at ho24; rw [← Ny124.out] at ho24)); have n0_ := Aside0.mk (Kd.R_lower ho24 (below_size (by repeat (first | (with_reducible first | exact HB.out | apply below_alloc | apply pw_below_drewN | apply below_drew1) | exact HB.out)))); have n1_ := Aside0.mk (below_step (by repeat (first | (with_reducible first | exact HB.out | apply below_alloc | apply pw_below_drewN | apply below_drew1) | exact HB.out)) hb); clear HB; have HO126 := n0_; have HB := n1_; clear n0_ n1_; clear hb ho24) | ((with_reducible refine gate_builtin (b := .copy) (xs := #[.tmp 16, .tmp 17]) rfl ?_); refine Kd.R_copy 0 (w0 := w) w.heap.size rfl (.tmp 16) (.tmp 17) 22 22 5 rfl Try.underlying22 (by kernel_rfl) v125 y124 l1 _ _ _ _ rfl rfl HO126.out ?aR ?aB ?aS ?_; (case aR => repeat (first | exact (Kd.C_below HR1.out HB.out) | (with_reducible refine Kd.C_alloc ?_ _) | (with_reducible refine Kd.C_drewN ?_ _) | (with_reducible refine Kd.C_drew ?_))); (case aB => exact (by repeat (first | (with_reducible first | exact HB.out | apply below_alloc | apply pw_below_drewN | apply below_drew1) | exact HB.out))); (case aS => exact (below_size (by repeat (first | (with_reducible first | exact HB.out | apply below_alloc | apply pw_below_drewN | apply below_drew1) | exact HB.out)))); intro w26 hp_ hb_ hg0_; have hg : w23.grownBy w26 (v125 : Value).ownBlock := hg0_; clear hg0_; rw [← Ny127.out] at hp_; have n0_ := Aside0.mk (hp_); have n1_ := Aside0.mk (hb_); clear HO126; clear HB; have HO126 := n0_; have HB := n1_; clear n0_ n1_; clear hg hb_ hp_) | ((with_reducible refine gate_callee (f := 11) rfl ?_); refine goesL_ (some 22) rfl rfl Try.func11 (by kernel_rfl) rfl #[.int .i64 a3, .int .i64 (wrap64 (a0 + 2))] rfl (by (try simp only [List.map_toArray, List.map_cons, List.map_nil]); first | done | rfl | (simp only [List.length_drop, List.length_take]; rfl)) ?_; (with_reducible refine (scrimlaw14_within.calls a3 (wrap64 (a0 + 2)) t128 _ A7.out).mono ?_); rintro e w' ⟨rfl, ⟨nd, rfl⟩⟩; refine ⟨_, rfl, ?_⟩) | ((with_reducible refine gate_callee (f := 11) rfl ?_); refine goesL_ (some 24) rfl rfl Try.func11 (by kernel_rfl) rfl #[.int .i64 a2, .int .i64 5] rfl (by (try simp only [List.map_toArray, List.map_cons, List.map_nil]); first | done | rfl | (simp only [List.length_drop, List.length_take]; rfl)) ?_; (with_reducible refine (scrimlaw14_within.calls a2 5 t129 _ A8.out).mono ?_); rintro e w' ⟨rfl, ⟨nd, rfl⟩⟩; refine ⟨_, rfl, ?_⟩))
          go_loopg [12] k (fun kq v12 w' => ∃ (x9_1 : List Int) (x12_1 : Int), v12 = .int .i64 x12_1 ∧ Aside0 (scrimlaw14_block.l1 kq a0 x9_1 t128 x12_1 = some r) ∧ Aside0 (kq ≤ k) ∧ Aside0 (Kd.R (Kd.int .u8) 5 w' w.heap.size (fun _ => True) v125 x9_1) ∧ Aside0 (Below w.heap.size w w'))
          case atStart => exact ⟨(y127), (ji22), (by first | rfl | (simp; done) | (simp only [← hji22] <;> (first | rfl | simp)) | (simp [*]; done)), H', ⟨Nat.le_refl _⟩, ⟨by (with_reducible repeat (first | apply Kd.R_alloc | apply Kd.R_drewN | apply Kd.R_drew)); exact HO126.out⟩, ⟨by repeat (first | (with_reducible first | exact HB.out | apply below_alloc | apply pw_below_drewN | apply below_drew1) | exact HB.out)⟩⟩
          case round =>
            clear H'
            try clear c1
            try clear p1
            try clear q1
            try clear hx1
            try clear c2
            try clear p2
            try clear c5
            try clear c5b0
            try clear c5b1
            try clear c6
            try clear c6b0
            try clear c6b1
            try clear p6
            try clear c9
            try clear c9b0
            try clear c9b1
            try clear c11
            try clear c14
            try clear c15
            try clear c15b0
            try clear c16
            try clear c16b0
            try clear c17
            try clear c17b0
            try clear p18
            try clear q18
            try clear hx18
            try clear hf18
            try clear c21
            try clear c21b0
            try clear c21b1
            try clear hx18_0
            try clear p18
            try clear p2
            try clear p6
            try clear q18
            obtain ⟨x9_1, x12_1, rfl, HA, HK1, HO_9, HB⟩ := hrel
            cases gk with
            | zero => exact absurd HA.out (by simp [scrimlaw14_block.l1])
            | succ k1 =>
              have H := HA.out
              clear HA
              simp only [scrimlaw14_block.l1] at H
              by_cases c27 : x12_1 < a0
              · rw [if_pos c27] at H
                have c27b0 : decide (x12_1 < a0) = true := decide_eq_true c27
                clear c27
                by_cases c28 : 0 ≤ x12_1
                · rw [if_pos c28] at H
                  have c28b0 : decide (0 ≤ x12_1) = true := decide_eq_true c28
                  clear c28
                  by_cases c29 : x12_1 < (x9_1.length : Int)
                  · rw [if_pos c29] at H
                    have c29b0 : decide (x12_1 < (x9_1.length : Int)) = true := decide_eq_true c29
                    clear c29
                    obtain ⟨y131, hy131⟩ : ∃ y_ : List Int, y_ = (x9_1.set (x12_1 : Int).toNat 0) := ⟨_, rfl⟩
                    replace H : (scrimlaw14_block.l1 k1 a0 y131 t128 (wrap64 (x12_1 + 1))) = some r := by first | (rw [hy131]; with_reducible exact H) | (have H2_ := (Option.bind_some _ _).symm.trans H; rw [hy131]; with_reducible exact H2_) | (have H2_ := (Option.bind_some _ _).symm.trans H; with_reducible exact H2_) | with_reducible exact H | (rw [hy131]; exact H) | exact H
                    have Ny131 := Aside0.mk hy131
                    clear hy131
                    have H' := Aside0.mk H
                    clear H
                    have p30 : 0 ≤ (x12_1 : Int) := of_decide_eq_true (by first | (with_reducible assumption) | assumption)
                    have q30 : (x12_1 : Int) < ((x9_1.length : Int) : Int) := of_decide_eq_true (by first | (with_reducible assumption) | assumption)
                    obtain ⟨go30, co30, eo30, gb30, gl30, cl30, HG30⟩ := Kd.R_form HO_9.out (by omega)
                    (first | cases eo30 | (injection eo30 with ea_ en_ ec_; (first | subst ea_ | (injection ea_ with ea_; subst ea_)); subst ec_; clear en_))
                    have GB30 := Aside0.mk gb30
                    have GG30 := Aside0.mk HG30
                    clear gb30 gl30 HG30
                    obtain ⟨hx30_0, hf30_0⟩ := Kd.R_celln 0 HO_9.out (x12_1 : Int) p30 q30
                    replace p30 := eq_true p30
                    replace q30 := eq_true q30
                    have HP31 := Kd.R_putg HO_9.out (x12_1 : Int) 0
                    go_wp2_with (first | ((with_reducible refine gate_store (t := 5) (p := 54) rfl ?_); refine store_event (t := 5) (p := 54) (v := ?vo_w32) (w1 := (wr.setCell ⟨go30, (x12_1 : Int).toNat, none⟩ (.int .u8 0))) ?hg ?ho ?hn ?hr ?_; (case ho => rfl); (case hg => rfl); (case hn => rfl); (case hr => first | (go_simp; done) | (go_simp; rfl)); intro w32 hw; have hg : wr.grownBy w32 (some go30) := (by rw [hw]; exact HP31.2); have hp_ : Kd.R (Kd.int .u8) 5 w32 w.heap.size (fun _ => True) (.slice (some ⟨go30, 0, none⟩) x9_1.length co30) y131 := (by rw [hw, Ny131.out]; exact HP31.1); clear HP31; have n0_ := Aside0.mk (hp_); have n1_ := Aside0.mk ((by rw [hw]; exact below_set (HB.out) GB30.out : Below w.heap.size w w32)); clear HO_9; clear HB; have HO_9 := n0_; have HB := n1_; clear n0_ n1_; clear hg hw hp_))
                    go_roundg k1
                    case measure => have := HK1.out; omega
                    case rel => exact ⟨(y131), (wrap64 (x12_1 + 1)), (by first | rfl | (simp; done) | (simp [*]; done)), H', ⟨by have := HK1.out; omega⟩, ⟨by (with_reducible repeat (first | apply Kd.R_alloc | apply Kd.R_drewN | apply Kd.R_drew)); exact HO_9.out⟩, ⟨by repeat (first | (with_reducible first | exact HB.out | apply below_alloc | apply pw_below_drewN | apply below_drew1) | exact HB.out)⟩⟩
                  · rw [if_neg c29] at H
                    exact absurd H (by simp)
                · rw [if_neg c28] at H
                  exact absurd H (by simp)
              · rw [if_neg c27] at H
                have c27b0 : decide (x12_1 < a0) = false := decide_eq_false c27
                clear c27
                by_cases c33 : t128 ≥ 1
                · rw [if_pos c33] at H
                  have c33b0 : decide (1 ≤ t128) = true := decide_eq_true c33
                  clear c33
                  by_cases c34 : t128 ≤ a0
                  · rw [if_pos c34] at H
                    have c34b0 : decide (t128 ≤ a0) = true := decide_eq_true c34
                    clear c34
                    obtain ⟨ji35, hji35⟩ : ∃ j_ : Int, (wrap64 (a0 - t128)) = j_ := ⟨_, rfl⟩
                    replace H : (if 0 ≤ (ji35) then (if (ji35) < (x9_1.length : Int) then (some (x9_1.set ((ji35) : Int).toNat 128)) else (none)) else (none)) = some r := by first | (rw [hji35] at H; exact H) | (simp only [hji35] at H ⊢; exact H)
                    have hji35w : (IntKind.i64.wrap (a0 - t128)) = ji35 := (i64_w _).trans hji35
                    by_cases c36 : 0 ≤ (ji35)
                    · rw [if_pos c36] at H
                      have c36b0 : decide (0 ≤ (ji35)) = true := decide_eq_true c36
                      clear c36
                      by_cases c37 : (ji35) < (x9_1.length : Int)
                      · rw [if_pos c37] at H
                        have c37b0 : decide ((ji35) < (x9_1.length : Int)) = true := decide_eq_true c37
                        clear c37
                        obtain ⟨y132, hy132⟩ : ∃ y_ : List Int, y_ = (x9_1.set ((ji35) : Int).toNat 128) := ⟨_, rfl⟩
                        replace H : (some y132) = some r := by first | (rw [hy132]; with_reducible exact H) | (have H2_ := (Option.bind_some _ _).symm.trans H; rw [hy132]; with_reducible exact H2_) | (have H2_ := (Option.bind_some _ _).symm.trans H; with_reducible exact H2_) | with_reducible exact H | (rw [hy132]; exact H) | exact H
                        have Ny132 := Aside0.mk hy132
                        clear hy132
                        obtain rfl := Option.some.inj H
                        have p38 : 0 ≤ ((ji35) : Int) := of_decide_eq_true (by first | (with_reducible assumption) | assumption)
                        have q38 : ((ji35) : Int) < ((x9_1.length : Int) : Int) := of_decide_eq_true (by first | (with_reducible assumption) | assumption)
                        obtain ⟨go38, co38, eo38, gb38, gl38, cl38, HG38⟩ := Kd.R_form HO_9.out (by omega)
                        (first | cases eo38 | (injection eo38 with ea_ en_ ec_; (first | subst ea_ | (injection ea_ with ea_; subst ea_)); subst ec_; clear en_))
                        have GB38 := Aside0.mk gb38
                        have GG38 := Aside0.mk HG38
                        clear gb38 gl38 HG38
                        obtain ⟨hx38_0, hf38_0⟩ := Kd.R_celln 0 HO_9.out ((ji35) : Int) p38 q38
                        replace p38 := eq_true p38
                        replace q38 := eq_true q38
                        have HP39 := Kd.R_putg HO_9.out ((ji35) : Int) 128
                        go_wp2_with (first | ((with_reducible refine gate_store (t := 5) (p := 66) rfl ?_); refine store_event (t := 5) (p := 66) (v := ?vo_w40) (w1 := (wr.setCell ⟨go38, ((ji35) : Int).toNat, none⟩ (.int .u8 128))) ?hg ?ho ?hn ?hr ?_; (case ho => rfl); (case hg => rfl); (case hn => rfl); (case hr => first | (go_simp; done) | (go_simp; rfl)); intro w40 hw; have hg : wr.grownBy w40 (some go38) := (by rw [hw]; exact HP39.2); have hp_ : Kd.R (Kd.int .u8) 5 w40 w.heap.size (fun _ => True) (.slice (some ⟨go38, 0, none⟩) x9_1.length co38) y132 := (by rw [hw, Ny132.out]; exact HP39.1); clear HP39; have n0_ := Aside0.mk (hp_); have n1_ := Aside0.mk ((by rw [hw]; exact below_set (HB.out) GB38.out : Below w.heap.size w w40)); clear HO_9; clear HB; have HO_9 := n0_; have HB := n1_; clear n0_ n1_; clear hg hw hp_))
                        go_ret
                        exact ⟨_, by first | rfl | (simp [errW_none, errW_some] <;> rfl) | (simp only [← hji22, ← hji35]; first | rfl | (simp [errW_none, errW_some] <;> rfl)) | (simp [*, errW_none, errW_some] <;> rfl), by (with_reducible repeat (first | apply Kd.R_alloc | apply Kd.R_drewN | apply Kd.R_drew)); exact HO_9.out, by repeat (first | (with_reducible first | exact HB.out | apply below_alloc | apply pw_below_drewN | apply below_drew1) | exact HB.out)⟩
                      · rw [if_neg c37] at H
                        exact absurd H (by simp)
                    · rw [if_neg c36] at H
                      exact absurd H (by simp)
                  · rw [if_neg c34] at H
                    have c34b0 : decide (t128 ≤ a0) = false := decide_eq_false c34
                    clear c34
                    obtain rfl := Option.some.inj H
                    go_wp2
                    go_ret
                    exact ⟨_, by first | rfl | (simp [errW_none, errW_some] <;> rfl) | (simp only [← hji22]; first | rfl | (simp [errW_none, errW_some] <;> rfl)) | (simp [*, errW_none, errW_some] <;> rfl), by (with_reducible repeat (first | apply Kd.R_alloc | apply Kd.R_drewN | apply Kd.R_drew)); exact HO_9.out, by repeat (first | (with_reducible first | exact HB.out | apply below_alloc | apply pw_below_drewN | apply below_drew1) | exact HB.out)⟩
                · rw [if_neg c33] at H
                  have c33b0 : decide (1 ≤ t128) = false := decide_eq_false c33
                  clear c33
                  obtain rfl := Option.some.inj H
                  go_wp2
                  go_ret
                  exact ⟨_, by first | rfl | (simp [errW_none, errW_some] <;> rfl) | (simp only [← hji22]; first | rfl | (simp [errW_none, errW_some] <;> rfl)) | (simp [*, errW_none, errW_some] <;> rfl), by (with_reducible repeat (first | apply Kd.R_alloc | apply Kd.R_drewN | apply Kd.R_drew)); exact HO_9.out, by repeat (first | (with_reducible first | exact HB.out | apply below_alloc | apply pw_below_drewN | apply below_drew1) | exact HB.out)⟩
        · rw [if_neg c21] at H
          have c21b0 : (t129 == 1) = false := beq_eq_false_iff_ne.mpr c21
          have c21b1 : (t129 != 1) = true := bne_iff_ne.mpr c21
          by_cases c41 : t129 = 2
          · rw [if_pos c41] at H
            have c41b0 : (t129 == 2) = true := beq_iff_eq.mpr c41
            have c41b1 : (t129 != 2) = false := bne_eq_false_iff_eq.mpr c41
            clear c41
            obtain ⟨ji42, hji42⟩ : ∃ j_ : Int, (wrap64 (a0 - 1)) = j_ := ⟨_, rfl⟩
            replace H : (if 0 ≤ (ji42) then (if (ji42) < (y127.length : Int) then (some (y127.set ((ji42) : Int).toNat ((t128) % 256))) else (none)) else (none)) = some r := by first | (rw [hji42] at H; exact H) | (simp only [hji42] at H ⊢; exact H)
            (try rw [hji42] at A7)
            (try rw [hji42] at A8)
            have hji42w : (IntKind.i64.wrap (a0 - 1)) = ji42 := (i64_w _).trans hji42
            by_cases c43 : 0 ≤ (ji42)
            · rw [if_pos c43] at H
              have c43b0 : decide (0 ≤ (ji42)) = true := decide_eq_true c43
              clear c43
              by_cases c44 : (ji42) < (y127.length : Int)
              · rw [if_pos c44] at H
                have c44b0 : decide ((ji42) < (y127.length : Int)) = true := decide_eq_true c44
                clear c44
                obtain ⟨y133, hy133⟩ : ∃ y_ : List Int, y_ = (y127.set ((ji42) : Int).toNat ((t128) % 256)) := ⟨_, rfl⟩
                replace H : (some y133) = some r := by first | (rw [hy133]; with_reducible exact H) | (have H2_ := (Option.bind_some _ _).symm.trans H; rw [hy133]; with_reducible exact H2_) | (have H2_ := (Option.bind_some _ _).symm.trans H; with_reducible exact H2_) | with_reducible exact H | (rw [hy133]; exact H) | exact H
                have Ny133 := Aside0.mk hy133
                clear hy133
                obtain rfl := Option.some.inj H
                go_enter Try.func14, Try.ntmps14
                go_wp2_with (first | ((with_reducible refine gate_dst (N := 15) rfl ?_); refine Kd.R_make (Kd.int .u8) _ 5 rfl (N := 15) rfl 22 _ _ rfl a0 rfl rfl Try.underlying22 (.int .u8 0) 1 info5 rfl (by decide) (by omega) 0 (ok := fun _ => True) (okp := fun _ => True) rfl (fun _ hk => hk) trivial (of_decide_eq_true (by first | (with_reducible assumption) | assumption)) (Nat.le_trans (Nat.mul_le_mul_right _ (of_decide_eq_true (by first | (with_reducible assumption) | assumption) : a0.toNat ≤ 281474976710656)) (by omega)) (Below.refl _ _) (Nat.le_refl _) ?_; intro v125 w46 ho47 hb hg_ hnew_; clear hg_ hnew_; (first | rw [← Ny124.out] at ho47 | (simp only [Int.reduceToNat] at ho47; rw [← Ny124.out] at ho47)); have n0_ := Aside0.mk (Kd.R_lower ho47 (below_size (by repeat (first | (with_reducible first | exact HB.out | apply below_alloc | apply pw_below_drewN | apply below_drew1) | exact HB.out)))); have n1_ := Aside0.mk (below_step (by repeat (first | (with_reducible first | exact HB.out | apply below_alloc | apply pw_below_drewN | apply below_drew1) | exact HB.out)) hb); clear HB; have HO126 := n0_; have HB := n1_; clear n0_ n1_; clear hb ho47) | ((with_reducible refine gate_builtin (b := .copy) (xs := #[.tmp 16, .tmp 17]) rfl ?_); refine Kd.R_copy 0 (w0 := w) w.heap.size rfl (.tmp 16) (.tmp 17) 22 22 5 rfl Try.underlying22 (by kernel_rfl) v125 y124 l1 _ _ _ _ rfl rfl HO126.out ?aR ?aB ?aS ?_; (case aR => repeat (first | exact (Kd.C_below HR1.out HB.out) | (with_reducible refine Kd.C_alloc ?_ _) | (with_reducible refine Kd.C_drewN ?_ _) | (with_reducible refine Kd.C_drew ?_))); (case aB => exact (by repeat (first | (with_reducible first | exact HB.out | apply below_alloc | apply pw_below_drewN | apply below_drew1) | exact HB.out))); (case aS => exact (below_size (by repeat (first | (with_reducible first | exact HB.out | apply below_alloc | apply pw_below_drewN | apply below_drew1) | exact HB.out)))); intro w49 hp_ hb_ hg0_; have hg : w46.grownBy w49 (v125 : Value).ownBlock := hg0_; clear hg0_; rw [← Ny127.out] at hp_; have n0_ := Aside0.mk (hp_); have n1_ := Aside0.mk (hb_); clear HO126; clear HB; have HO126 := n0_; have HB := n1_; clear n0_ n1_; clear hg hb_ hp_) | ((with_reducible refine gate_callee (f := 11) rfl ?_); refine goesL_ (some 22) rfl rfl Try.func11 (by kernel_rfl) rfl #[.int .i64 a3, .int .i64 (wrap64 (a0 + 2))] rfl (by (try simp only [List.map_toArray, List.map_cons, List.map_nil]); first | done | rfl | (simp only [List.length_drop, List.length_take]; rfl)) ?_; (with_reducible refine (scrimlaw14_within.calls a3 (wrap64 (a0 + 2)) t128 _ A7.out).mono ?_); rintro e w' ⟨rfl, ⟨nd, rfl⟩⟩; refine ⟨_, rfl, ?_⟩; (try (rw [drewN_self w49]; generalize hq_ : World.drewN w49 _ = w49; have n0_ : Aside0 (Kd.R (Kd.int .u8) 5 w49 w.heap.size (fun _ => True) v125 y127) := ⟨by rw [← hq_]; exact (by (with_reducible repeat (first | apply Kd.R_alloc | apply Kd.R_drewN | apply Kd.R_drew)); exact HO126.out)⟩; have n1_ : Aside0 (Below w.heap.size w w49) := ⟨by rw [← hq_]; exact (by repeat (first | (with_reducible first | exact HB.out | apply below_alloc | apply pw_below_drewN | apply below_drew1) | exact HB.out))⟩; clear HO126 HB hq_; have HO126 := n0_; have HB := n1_; clear n0_ n1_))) | ((with_reducible refine gate_callee (f := 11) rfl ?_); refine goesL_ (some 24) rfl rfl Try.func11 (by kernel_rfl) rfl #[.int .i64 a2, .int .i64 5] rfl (by (try simp only [List.map_toArray, List.map_cons, List.map_nil]); first | done | rfl | (simp only [List.length_drop, List.length_take]; rfl)) ?_; (with_reducible refine (scrimlaw14_within.calls a2 5 t129 _ A8.out).mono ?_); rintro e w' ⟨rfl, ⟨nd, rfl⟩⟩; refine ⟨_, rfl, ?_⟩; (try (rw [drewN_self w49]; generalize hq_ : World.drewN w49 _ = w49; have n0_ : Aside0 (Kd.R (Kd.int .u8) 5 w49 w.heap.size (fun _ => True) v125 y127) := ⟨by rw [← hq_]; exact (by (with_reducible repeat (first | apply Kd.R_alloc | apply Kd.R_drewN | apply Kd.R_drew)); exact HO126.out)⟩; have n1_ : Aside0 (Below w.heap.size w w49) := ⟨by rw [← hq_]; exact (by repeat (first | (with_reducible first | exact HB.out | apply below_alloc | apply pw_below_drewN | apply below_drew1) | exact HB.out))⟩; clear HO126 HB hq_; have HO126 := n0_; have HB := n1_; clear n0_ n1_)); have p45 : 0 ≤ ((ji42) : Int) := of_decide_eq_true (by first | (with_reducible assumption) | assumption); have q45 : ((ji42) : Int) < ((y127.length : Int) : Int) := of_decide_eq_true (by first | (with_reducible assumption) | assumption); obtain ⟨go45, co45, eo45, gb45, gl45, cl45, HG45⟩ := Kd.R_form HO126.out (by omega); (first | cases eo45 | (injection eo45 with ea_ en_ ec_; (first | subst ea_ | (injection ea_ with ea_; subst ea_)); subst ec_; clear en_)); have GB45 := Aside0.mk gb45; have GG45 := Aside0.mk HG45; clear gb45 gl45 HG45; obtain ⟨hx45_0, hf45_0⟩ := Kd.R_celln 0 HO126.out ((ji42) : Int) p45 q45; replace p45 := eq_true p45; replace q45 := eq_true q45; obtain ⟨hy50_, hz50_⟩ := Kd.R_celln 0 HO126.out ((ji42) : Int) (of_decide_eq_true (by first | (with_reducible assumption) | assumption)) (of_decide_eq_true (by first | (with_reducible assumption) | assumption)); have HP50 := Kd.R_putg HO126.out ((ji42) : Int) ((t128) % 256)) | ((with_reducible refine gate_store (t := 5) (p := 74) rfl ?_); refine store_event (t := 5) (p := 74) (v := ?vo_w51) (w1 := (w49.setCell ⟨go45, ((ji42) : Int).toNat, none⟩ (.int .u8 ((t128) % 256)))) ?hg ?ho ?hn ?hr ?_; (case ho => rfl); (case hg => rfl); (case hn => rfl); (case hr => first | (go_simp; done) | (go_simp; rfl)); intro w51 hw; have hg : w49.grownBy w51 (some go45) := (by rw [hw]; exact HP50.2); have hp_ : Kd.R (Kd.int .u8) 5 w51 w.heap.size (fun _ => True) (.slice (some ⟨go45, 0, none⟩) y127.length co45) y133 := (by rw [hw, Ny133.out]; exact HP50.1); clear HP50; have n0_ := Aside0.mk (hp_); have n1_ := Aside0.mk ((by rw [hw]; exact below_set (HB.out) GB45.out : Below w.heap.size w w51)); clear HO126; clear HB; have HO126 := n0_; have HB := n1_; clear n0_ n1_; clear hg hw hp_))
                go_ret
                exact ⟨_, by first | rfl | (simp [errW_none, errW_some] <;> rfl) | (simp only [← hji42]; first | rfl | (simp [errW_none, errW_some] <;> rfl)) | (simp [*, errW_none, errW_some] <;> rfl), by (with_reducible repeat (first | apply Kd.R_alloc | apply Kd.R_drewN | apply Kd.R_drew)); exact HO126.out, by repeat (first | (with_reducible first | exact HB.out | apply below_alloc | apply pw_below_drewN | apply below_drew1) | exact HB.out)⟩
              · rw [if_neg c44] at H
                exact absurd H (by simp)
            · rw [if_neg c43] at H
              exact absurd H (by simp)
          · rw [if_neg c41] at H
            have c41b0 : (t129 == 2) = false := beq_eq_false_iff_ne.mpr c41
            have c41b1 : (t129 != 2) = true := bne_iff_ne.mpr c41
            by_cases c52 : t129 = 3
            · rw [if_pos c52] at H
              have c52b0 : (t129 == 3) = true := beq_iff_eq.mpr c52
              have c52b1 : (t129 != 3) = false := bne_eq_false_iff_eq.mpr c52
              clear c52
              have H' := Aside0.mk H
              clear H
              go_enter Try.func14, Try.ntmps14
              go_wp2_with (first | ((with_reducible refine gate_dst (N := 15) rfl ?_); refine Kd.R_make (Kd.int .u8) _ 5 rfl (N := 15) rfl 22 _ _ rfl a0 rfl rfl Try.underlying22 (.int .u8 0) 1 info5 rfl (by decide) (by omega) 0 (ok := fun _ => True) (okp := fun _ => True) rfl (fun _ hk => hk) trivial (of_decide_eq_true (by first | (with_reducible assumption) | assumption)) (Nat.le_trans (Nat.mul_le_mul_right _ (of_decide_eq_true (by first | (with_reducible assumption) | assumption) : a0.toNat ≤ 281474976710656)) (by omega)) (Below.refl _ _) (Nat.le_refl _) ?_; intro v125 w53 ho54 hb hg_ hnew_; clear hg_ hnew_; (first | rw [← Ny124.out] at ho54 | (simp only [Int.reduceToNat] at ho54; rw [← Ny124.out] at ho54)); have n0_ := Aside0.mk (Kd.R_lower ho54 (below_size (by repeat (first | (with_reducible first | exact HB.out | apply below_alloc | apply pw_below_drewN | apply below_drew1) | exact HB.out)))); have n1_ := Aside0.mk (below_step (by repeat (first | (with_reducible first | exact HB.out | apply below_alloc | apply pw_below_drewN | apply below_drew1) | exact HB.out)) hb); clear HB; have HO126 := n0_; have HB := n1_; clear n0_ n1_; clear hb ho54) | ((with_reducible refine gate_builtin (b := .copy) (xs := #[.tmp 16, .tmp 17]) rfl ?_); refine Kd.R_copy 0 (w0 := w) w.heap.size rfl (.tmp 16) (.tmp 17) 22 22 5 rfl Try.underlying22 (by kernel_rfl) v125 y124 l1 _ _ _ _ rfl rfl HO126.out ?aR ?aB ?aS ?_; (case aR => repeat (first | exact (Kd.C_below HR1.out HB.out) | (with_reducible refine Kd.C_alloc ?_ _) | (with_reducible refine Kd.C_drewN ?_ _) | (with_reducible refine Kd.C_drew ?_))); (case aB => exact (by repeat (first | (with_reducible first | exact HB.out | apply below_alloc | apply pw_below_drewN | apply below_drew1) | exact HB.out))); (case aS => exact (below_size (by repeat (first | (with_reducible first | exact HB.out | apply below_alloc | apply pw_below_drewN | apply below_drew1) | exact HB.out)))); intro w56 hp_ hb_ hg0_; have hg : w53.grownBy w56 (v125 : Value).ownBlock := hg0_; clear hg0_; rw [← Ny127.out] at hp_; have n0_ := Aside0.mk (hp_); have n1_ := Aside0.mk (hb_); clear HO126; clear HB; have HO126 := n0_; have HB := n1_; clear n0_ n1_; clear hg hb_ hp_) | ((with_reducible refine gate_callee (f := 11) rfl ?_); refine goesL_ (some 22) rfl rfl Try.func11 (by kernel_rfl) rfl #[.int .i64 a3, .int .i64 (wrap64 (a0 + 2))] rfl (by (try simp only [List.map_toArray, List.map_cons, List.map_nil]); first | done | rfl | (simp only [List.length_drop, List.length_take]; rfl)) ?_; (with_reducible refine (scrimlaw14_within.calls a3 (wrap64 (a0 + 2)) t128 _ A7.out).mono ?_); rintro e w' ⟨rfl, ⟨nd, rfl⟩⟩; refine ⟨_, rfl, ?_⟩) | ((with_reducible refine gate_callee (f := 11) rfl ?_); refine goesL_ (some 24) rfl rfl Try.func11 (by kernel_rfl) rfl #[.int .i64 a2, .int .i64 5] rfl (by (try simp only [List.map_toArray, List.map_cons, List.map_nil]); first | done | rfl | (simp only [List.length_drop, List.length_take]; rfl)) ?_; (with_reducible refine (scrimlaw14_within.calls a2 5 t129 _ A8.out).mono ?_); rintro e w' ⟨rfl, ⟨nd, rfl⟩⟩; refine ⟨_, rfl, ?_⟩))
              go_loopg [13] k (fun kq v13 w' => ∃ (x9_1 : List Int) (x13_1 : Int), v13 = .int .i64 x13_1 ∧ Aside0 (scrimlaw14_block.l2 kq a0 x9_1 t128 x13_1 = some r) ∧ Aside0 (kq ≤ k) ∧ Aside0 (Kd.R (Kd.int .u8) 5 w' w.heap.size (fun _ => True) v125 x9_1) ∧ Aside0 (Below w.heap.size w w'))
              case atStart => exact ⟨(y127), (0), (by first | rfl | (simp; done) | (simp [*]; done)), H', ⟨Nat.le_refl _⟩, ⟨by (with_reducible repeat (first | apply Kd.R_alloc | apply Kd.R_drewN | apply Kd.R_drew)); exact HO126.out⟩, ⟨by repeat (first | (with_reducible first | exact HB.out | apply below_alloc | apply pw_below_drewN | apply below_drew1) | exact HB.out)⟩⟩
              case round =>
                clear H'
                try clear c1
                try clear p1
                try clear q1
                try clear hx1
                try clear c2
                try clear p2
                try clear c3
                try clear p3
                try clear q3
                try clear hx3
                try clear c4
                try clear p4
                try clear q4
                try clear hx4
                try clear hf4
                try clear c5
                try clear c5b0
                try clear c5b1
                try clear c6
                try clear c6b0
                try clear c6b1
                try clear p6
                try clear c9
                try clear c9b0
                try clear c9b1
                try clear c11
                try clear c14
                try clear c15
                try clear c15b0
                try clear c16
                try clear c16b0
                try clear c17
                try clear c17b0
                try clear p18
                try clear q18
                try clear hx18
                try clear hf18
                try clear c21
                try clear c21b0
                try clear c21b1
                try clear c27
                try clear c27b0
                try clear c28
                try clear c28b0
                try clear c29
                try clear c29b0
                try clear p30
                try clear q30
                try clear hx30
                try clear hf30
                try clear c33
                try clear c33b0
                try clear c34
                try clear c34b0
                try clear c36
                try clear c36b0
                try clear c37
                try clear c37b0
                try clear p38
                try clear q38
                try clear hx38
                try clear hf38
                try clear c41
                try clear c41b0
                try clear c41b1
                try clear c43
                try clear c43b0
                try clear c44
                try clear c44b0
                try clear p45
                try clear q45
                try clear hx45
                try clear hf45
                try clear c52
                try clear c52b0
                try clear c52b1
                try clear hx18_0
                try clear hx30_0
                try clear hx38_0
                try clear hx45_0
                try clear p1
                try clear p18
                try clear p2
                try clear p30
                try clear p38
                try clear p45
                try clear p6
                try clear q1
                try clear q18
                try clear q30
                try clear q38
                try clear q45
                obtain ⟨x9_1, x13_1, rfl, HA, HK1, HO_9, HB⟩ := hrel
                cases gk with
                | zero => exact absurd HA.out (by simp [scrimlaw14_block.l2])
                | succ k1 =>
                  have H := HA.out
                  clear HA
                  simp only [scrimlaw14_block.l2] at H
                  by_cases c57 : x13_1 < a0
                  · rw [if_pos c57] at H
                    have c57b0 : decide (x13_1 < a0) = true := decide_eq_true c57
                    clear c57
                    by_cases c58 : 0 ≤ x13_1
                    · rw [if_pos c58] at H
                      have c58b0 : decide (0 ≤ x13_1) = true := decide_eq_true c58
                      clear c58
                      by_cases c59 : x13_1 < (x9_1.length : Int)
                      · rw [if_pos c59] at H
                        have c59b0 : decide (x13_1 < (x9_1.length : Int)) = true := decide_eq_true c59
                        clear c59
                        obtain ⟨y134, hy134⟩ : ∃ y_ : List Int, y_ = (x9_1.set (x13_1 : Int).toNat ((t128) % 256)) := ⟨_, rfl⟩
                        replace H : (scrimlaw14_block.l2 k1 a0 y134 t128 (wrap64 (x13_1 + 1))) = some r := by first | (rw [hy134]; with_reducible exact H) | (have H2_ := (Option.bind_some _ _).symm.trans H; rw [hy134]; with_reducible exact H2_) | (have H2_ := (Option.bind_some _ _).symm.trans H; with_reducible exact H2_) | with_reducible exact H | (rw [hy134]; exact H) | exact H
                        have Ny134 := Aside0.mk hy134
                        clear hy134
                        have H' := Aside0.mk H
                        clear H
                        have p60 : 0 ≤ (x13_1 : Int) := of_decide_eq_true (by first | (with_reducible assumption) | assumption)
                        have q60 : (x13_1 : Int) < ((x9_1.length : Int) : Int) := of_decide_eq_true (by first | (with_reducible assumption) | assumption)
                        obtain ⟨go60, co60, eo60, gb60, gl60, cl60, HG60⟩ := Kd.R_form HO_9.out (by omega)
                        (first | cases eo60 | (injection eo60 with ea_ en_ ec_; (first | subst ea_ | (injection ea_ with ea_; subst ea_)); subst ec_; clear en_))
                        have GB60 := Aside0.mk gb60
                        have GG60 := Aside0.mk HG60
                        clear gb60 gl60 HG60
                        obtain ⟨hx60_0, hf60_0⟩ := Kd.R_celln 0 HO_9.out (x13_1 : Int) p60 q60
                        replace p60 := eq_true p60
                        replace q60 := eq_true q60
                        have HP61 := Kd.R_putg HO_9.out (x13_1 : Int) ((t128) % 256)
                        go_wp2_with (first | ((with_reducible refine gate_store (t := 5) (p := 86) rfl ?_); refine store_event (t := 5) (p := 86) (v := ?vo_w62) (w1 := (wr.setCell ⟨go60, (x13_1 : Int).toNat, none⟩ (.int .u8 ((t128) % 256)))) ?hg ?ho ?hn ?hr ?_; (case ho => rfl); (case hg => rfl); (case hn => rfl); (case hr => first | (go_simp; done) | (go_simp; rfl)); intro w62 hw; have hg : wr.grownBy w62 (some go60) := (by rw [hw]; exact HP61.2); have hp_ : Kd.R (Kd.int .u8) 5 w62 w.heap.size (fun _ => True) (.slice (some ⟨go60, 0, none⟩) x9_1.length co60) y134 := (by rw [hw, Ny134.out]; exact HP61.1); clear HP61; have n0_ := Aside0.mk (hp_); have n1_ := Aside0.mk ((by rw [hw]; exact below_set (HB.out) GB60.out : Below w.heap.size w w62)); clear HO_9; clear HB; have HO_9 := n0_; have HB := n1_; clear n0_ n1_; clear hg hw hp_))
                        go_roundg k1
                        case measure => have := HK1.out; omega
                        case rel => exact ⟨(y134), (wrap64 (x13_1 + 1)), (by first | rfl | (simp; done) | (simp [*]; done)), H', ⟨by have := HK1.out; omega⟩, ⟨by (with_reducible repeat (first | apply Kd.R_alloc | apply Kd.R_drewN | apply Kd.R_drew)); exact HO_9.out⟩, ⟨by repeat (first | (with_reducible first | exact HB.out | apply below_alloc | apply pw_below_drewN | apply below_drew1) | exact HB.out)⟩⟩
                      · rw [if_neg c59] at H
                        exact absurd H (by simp)
                    · rw [if_neg c58] at H
                      exact absurd H (by simp)
                  · rw [if_neg c57] at H
                    have c57b0 : decide (x13_1 < a0) = false := decide_eq_false c57
                    clear c57
                    obtain rfl := Option.some.inj H
                    go_wp2
                    go_ret
                    exact ⟨_, by first | rfl | (simp [errW_none, errW_some] <;> rfl) | (simp [*, errW_none, errW_some] <;> rfl), by (with_reducible repeat (first | apply Kd.R_alloc | apply Kd.R_drewN | apply Kd.R_drew)); exact HO_9.out, by repeat (first | (with_reducible first | exact HB.out | apply below_alloc | apply pw_below_drewN | apply below_drew1) | exact HB.out)⟩
            · rw [if_neg c52] at H
              have c52b0 : (t129 == 3) = false := beq_eq_false_iff_ne.mpr c52
              have c52b1 : (t129 != 3) = true := bne_iff_ne.mpr c52
              obtain rfl := Option.some.inj H
              go_enter Try.func14, Try.ntmps14
              go_wp2_with (first | ((with_reducible refine gate_dst (N := 15) rfl ?_); refine Kd.R_make (Kd.int .u8) _ 5 rfl (N := 15) rfl 22 _ _ rfl a0 rfl rfl Try.underlying22 (.int .u8 0) 1 info5 rfl (by decide) (by omega) 0 (ok := fun _ => True) (okp := fun _ => True) rfl (fun _ hk => hk) trivial (of_decide_eq_true (by first | (with_reducible assumption) | assumption)) (Nat.le_trans (Nat.mul_le_mul_right _ (of_decide_eq_true (by first | (with_reducible assumption) | assumption) : a0.toNat ≤ 281474976710656)) (by omega)) (Below.refl _ _) (Nat.le_refl _) ?_; intro v125 w63 ho64 hb hg_ hnew_; clear hg_ hnew_; (first | rw [← Ny124.out] at ho64 | (simp only [Int.reduceToNat] at ho64; rw [← Ny124.out] at ho64)); have n0_ := Aside0.mk (Kd.R_lower ho64 (below_size (by repeat (first | (with_reducible first | exact HB.out | apply below_alloc | apply pw_below_drewN | apply below_drew1) | exact HB.out)))); have n1_ := Aside0.mk (below_step (by repeat (first | (with_reducible first | exact HB.out | apply below_alloc | apply pw_below_drewN | apply below_drew1) | exact HB.out)) hb); clear HB; have HO126 := n0_; have HB := n1_; clear n0_ n1_; clear hb ho64) | ((with_reducible refine gate_builtin (b := .copy) (xs := #[.tmp 16, .tmp 17]) rfl ?_); refine Kd.R_copy 0 (w0 := w) w.heap.size rfl (.tmp 16) (.tmp 17) 22 22 5 rfl Try.underlying22 (by kernel_rfl) v125 y124 l1 _ _ _ _ rfl rfl HO126.out ?aR ?aB ?aS ?_; (case aR => repeat (first | exact (Kd.C_below HR1.out HB.out) | (with_reducible refine Kd.C_alloc ?_ _) | (with_reducible refine Kd.C_drewN ?_ _) | (with_reducible refine Kd.C_drew ?_))); (case aB => exact (by repeat (first | (with_reducible first | exact HB.out | apply below_alloc | apply pw_below_drewN | apply below_drew1) | exact HB.out))); (case aS => exact (below_size (by repeat (first | (with_reducible first | exact HB.out | apply below_alloc | apply pw_below_drewN | apply below_drew1) | exact HB.out)))); intro w66 hp_ hb_ hg0_; have hg : w63.grownBy w66 (v125 : Value).ownBlock := hg0_; clear hg0_; rw [← Ny127.out] at hp_; have n0_ := Aside0.mk (hp_); have n1_ := Aside0.mk (hb_); clear HO126; clear HB; have HO126 := n0_; have HB := n1_; clear n0_ n1_; clear hg hb_ hp_) | ((with_reducible refine gate_callee (f := 11) rfl ?_); refine goesL_ (some 22) rfl rfl Try.func11 (by kernel_rfl) rfl #[.int .i64 a3, .int .i64 (wrap64 (a0 + 2))] rfl (by (try simp only [List.map_toArray, List.map_cons, List.map_nil]); first | done | rfl | (simp only [List.length_drop, List.length_take]; rfl)) ?_; (with_reducible refine (scrimlaw14_within.calls a3 (wrap64 (a0 + 2)) t128 _ A7.out).mono ?_); rintro e w' ⟨rfl, ⟨nd, rfl⟩⟩; refine ⟨_, rfl, ?_⟩) | ((with_reducible refine gate_callee (f := 11) rfl ?_); refine goesL_ (some 24) rfl rfl Try.func11 (by kernel_rfl) rfl #[.int .i64 a2, .int .i64 5] rfl (by (try simp only [List.map_toArray, List.map_cons, List.map_nil]); first | done | rfl | (simp only [List.length_drop, List.length_take]; rfl)) ?_; (with_reducible refine (scrimlaw14_within.calls a2 5 t129 _ A8.out).mono ?_); rintro e w' ⟨rfl, ⟨nd, rfl⟩⟩; refine ⟨_, rfl, ?_⟩))
              go_ret
              exact ⟨_, by first | rfl | (simp [errW_none, errW_some] <;> rfl) | (simp [*, errW_none, errW_some] <;> rfl), by (with_reducible repeat (first | apply Kd.R_alloc | apply Kd.R_drewN | apply Kd.R_drew)); exact HO126.out, by repeat (first | (with_reducible first | exact HB.out | apply below_alloc | apply pw_below_drewN | apply below_drew1) | exact HB.out)⟩
    · rw [if_neg c6] at H
      exact absurd H (by simp)
  · rw [if_neg c5] at H
    exact absurd H (by simp)

end Go.Proofs.Ythpeffpafpfkcaa.MPadStrips
