/- A walk: each Go function that is named here answers what its plain function answers. Conditions: its arguments are read as lists and numbers. -/
import Derived.Test.YthpeffpafpfkcaaMPadStripsx0
import Derived.Test.YthpeffpafpfkcaaMPadStripsx3
import Derived.Test.YthpeffpafpfkcaaMPadStripsx4
namespace Go.Proofs.Ythpeffpafpfkcaa.MPadStrips
open Go.RowKit Go.Proofs.YthpeffpafpfkcaaW.PrintWords Go.Proofs.YthpeffpafpfkcaaW.PrintLast Go.Proofs.YthpeffpafpfkcaaW.PrintMore
attribute [local go_sem] max2_int min2_int max_two min_two max_three min_three max_four min_four   -- for this text's walks alone
set_option linter.unusedVariables false
set_option linter.unusedSimpArgs false

/-! ### scrimlaw14_PadStrips: function 4 -/
theorem FK_of_R {α : Type} {d : Kd α} {e base n c : Nat} {w : World} {ok : Nat → Prop} {A : Option Addr} {l : List α} (h : d.R e w base ok (.slice A n c) l) : Kd.FK (Kd.slice e d) w ok l [.slice A n c] := by
  have hh := Kd.R_reads' h
  obtain ⟨hn, hc, _⟩ := hh
  subst hn
  exact Kd.FK_slice_mk hc (Kd.R_F h)
mutual
def scrimlaw14_PadStrips.l0 : Nat → Int → Int → List Int → List (List Int) → List Int → Int → Option (Bool)
  | 0, _, _, _, _, _, _ => none
  | k + 1, x6, x15, x16, x18, x19, x20 => if x20 < (x18.length : Int) then (scrimlaw14_PadStrips.l1 k x6 x15 x16 x18 x19 x20 0) else ((pad_Strip.f k 2 x6 x16).bind fun bt178 => ((scrimref14_Strip.f k 2 x6 x16).bind fun bt182 => (some (bt178.2 == bt182.2))))
def scrimlaw14_PadStrips.l1 : Nat → Int → Int → List Int → List (List Int) → List Int → Int → Int → Option (Bool)
  | 0, _, _, _, _, _, _, _ => none
  | k + 1, x6, x15, x16, x18, x19, x20, x21 => if x21 < (x19.length : Int) then (if 0 ≤ x21 then (if 0 ≤ x20 then (if x20 < (x18.length : Int) then ((pad_Strip.f k (rd x19 x21) x15 (rd_L1 x18 x20)).bind fun bt188 => ((scrimref14_Strip.f k (rd x19 x21) x15 (rd_L1 x18 x20)).bind fun bt194 => (if bt188.2 = bt194.2 then (if (strOfNums bt188.1).toList = (strOfNums bt194.1).toList then (scrimlaw14_PadStrips.l1 k x6 x15 x16 x18 x19 x20 (wrap64 (x21 + 1))) else (some false)) else (some false)))) else (none)) else (none)) else (none)) else (scrimlaw14_PadStrips.l0 k x6 x15 x16 x18 x19 (wrap64 (x20 + 1)))
end
def scrimlaw14_PadStrips.f (k : Nat) (a0 : Int) (l1 : List Int) (a2 : Int) (a3 : Int) (a4 : Int) (a5 : Int) (a6 : Int) : Option (Bool) := (scrimlaw14_known.f k).bind fun t151 => (if t151 = true then (if (l1.length : Int) > 60 then (some true) else ((some (([8, 16] : List Int) : List Int)).bind fun y152 => ((scrimlaw14_within.f a6 2).bind fun t155 => (if 0 ≤ t155 then (if t155 < (y152.length : Int) then ((scrimlaw14_block.f k (rd y152 t155) l1 a2 a3).bind fun t157 => ((some (([] : List Int) : List Int)).bind fun y160 => (if y160.length + t157.length < 140737488355328 then ((some (y160 ++ t157 : List Int)).bind fun y163 => ((scrimlaw14_within.f a4 (rd y152 t155)).bind fun t166 => (if 0 ≤ t166 then (if t166 < (y163.length : Int) then (if 0 ≤ (rd y152 t155) then (if (rd y152 t155 : Int).toNat ≤ 281474976710656 then (scrimlaw14_PadStrips.l0 k a6 (rd y152 t155) t157 (([t157, (y163.set (t166 : Int).toNat (((rd y163 t166) + a5) % 256)), l1, (List.replicate (rd y152 t155 : Int).toNat 0)] : List (List Int))) (([a0, 1, 2, 3, 4] : List Int)) 0) else (none)) else (none)) else (none)) else (none)))) else (none)))) else (none)) else (none))))) else (some false))
theorem scrimlaw14_PadStrips.mono_l : ∀ k, (∀ y0 y1 y2 y3 y4 y5, LeO (scrimlaw14_PadStrips.l0 k y0 y1 y2 y3 y4 y5) (scrimlaw14_PadStrips.l0 (k + 1) y0 y1 y2 y3 y4 y5)) ∧ (∀ y0 y1 y2 y3 y4 y5 y6, LeO (scrimlaw14_PadStrips.l1 k y0 y1 y2 y3 y4 y5 y6) (scrimlaw14_PadStrips.l1 (k + 1) y0 y1 y2 y3 y4 y5 y6))
  | 0 => ⟨fun _ _ _ _ _ _ r h => by simp [scrimlaw14_PadStrips.l0] at h, fun _ _ _ _ _ _ _ r h => by simp [scrimlaw14_PadStrips.l1] at h⟩
  | k + 1 => by
    obtain ⟨ih0, ih1⟩ := scrimlaw14_PadStrips.mono_l k
    refine ⟨?_, ?_⟩
    · intro y0 y1 y2 y3 y4 y5
      unfold scrimlaw14_PadStrips.l0
      repeat' first
      | (with_reducible exact ih0 _ _ _ _ _ _)
      | (with_reducible exact ih1 _ _ _ _ _ _ _)
      | (with_reducible exact pad_Strip.mono _ _ _ _)
      | (with_reducible exact scrimlaw14_block.mono _ _ _ _ _)
      | (with_reducible exact scrimlaw14_known.mono _)
      | (with_reducible exact scrimref14_Strip.mono _ _ _ _)
      | (with_reducible exact LeO.refl _)
      | (with_reducible exact LeO.none _)
      | (with_reducible refine LeO.ite ?_ ?_)
      | (with_reducible refine LeO.bind ?_ (fun _ => ?_))
      | exact ih0 _ _ _ _ _ _
      | exact ih1 _ _ _ _ _ _ _
      | exact pad_Strip.mono _ _ _ _
      | exact scrimlaw14_block.mono _ _ _ _ _
      | exact scrimlaw14_known.mono _
      | exact scrimref14_Strip.mono _ _ _ _
      | exact LeO.none _
      | refine LeO.ite ?_ ?_
      | refine LeO.bind ?_ (fun _ => ?_)
    · intro y0 y1 y2 y3 y4 y5 y6
      unfold scrimlaw14_PadStrips.l1
      repeat' first
      | (with_reducible exact ih0 _ _ _ _ _ _)
      | (with_reducible exact ih1 _ _ _ _ _ _ _)
      | (with_reducible exact pad_Strip.mono _ _ _ _)
      | (with_reducible exact scrimlaw14_block.mono _ _ _ _ _)
      | (with_reducible exact scrimlaw14_known.mono _)
      | (with_reducible exact scrimref14_Strip.mono _ _ _ _)
      | (with_reducible exact LeO.refl _)
      | (with_reducible exact LeO.none _)
      | (with_reducible refine LeO.ite ?_ ?_)
      | (with_reducible refine LeO.bind ?_ (fun _ => ?_))
      | exact ih0 _ _ _ _ _ _
      | exact ih1 _ _ _ _ _ _ _
      | exact pad_Strip.mono _ _ _ _
      | exact scrimlaw14_block.mono _ _ _ _ _
      | exact scrimlaw14_known.mono _
      | exact scrimref14_Strip.mono _ _ _ _
      | exact LeO.none _
      | refine LeO.ite ?_ ?_
      | refine LeO.bind ?_ (fun _ => ?_)
theorem scrimlaw14_PadStrips.mono : ∀ a0 a1 a2 a3 a4 a5 a6 k, LeO (scrimlaw14_PadStrips.f k a0 a1 a2 a3 a4 a5 a6) (scrimlaw14_PadStrips.f (k + 1) a0 a1 a2 a3 a4 a5 a6) := by
  intro a0 a1 a2 a3 a4 a5 a6 k
  obtain ⟨ih0, ih1⟩ := scrimlaw14_PadStrips.mono_l k
  unfold scrimlaw14_PadStrips.f
  repeat' first
      | (with_reducible exact ih0 _ _ _ _ _ _)
      | (with_reducible exact ih1 _ _ _ _ _ _ _)
      | (with_reducible exact pad_Strip.mono _ _ _ _)
      | (with_reducible exact scrimlaw14_block.mono _ _ _ _ _)
      | (with_reducible exact scrimlaw14_known.mono _)
      | (with_reducible exact scrimref14_Strip.mono _ _ _ _)
      | (with_reducible exact LeO.refl _)
      | (with_reducible exact LeO.none _)
      | (with_reducible refine LeO.ite ?_ ?_)
      | (with_reducible refine LeO.bind ?_ (fun _ => ?_))
      | exact ih0 _ _ _ _ _ _
      | exact ih1 _ _ _ _ _ _ _
      | exact pad_Strip.mono _ _ _ _
      | exact scrimlaw14_block.mono _ _ _ _ _
      | exact scrimlaw14_known.mono _
      | exact scrimref14_Strip.mono _ _ _ _
      | exact LeO.none _
      | refine LeO.ite ?_ ?_
      | refine LeO.bind ?_ (fun _ => ?_)
def scrimlaw14_PadStrips.T17 : Bool × List (List Nat × List Nat) := (true, [([], []), ([], []), ([0, 1], [0, 1]), ([2], [2]), ([], []), ([], []), ([], []), ([5, 6], [5, 6]), ([7], [7]), ([3, 4, 8], [3, 4, 8]), ([9], [9]), ([10], [10]), ([10], [10]), ([11, 9, 0, 1, 2, 3, 4, 5, 6, 7, 8, 9, 10, 11], [11]), ([12, 13, 0, 1, 2, 3, 4, 5, 6, 7, 8, 9, 10, 11, 12, 13], [12])])
def scrimlaw14_PadStrips.B17 : List Nat := [0, 0, 3, 7, 0, 0, 0, 96, 224, 511, 1023, 2047, 2047, 4095, 16383]
theorem scrimlaw14_PadStrips.tab17 : rtab .any (opsOf Try.f4 17) = scrimlaw14_PadStrips.T17 := by kernel_rfl
theorem scrimlaw14_PadStrips.bits17 : waitsOk scrimlaw14_PadStrips.T17.2 scrimlaw14_PadStrips.B17 = true := by kernel_rfl
def scrimlaw14_PadStrips.T18 : Bool × List (List Nat × List Nat) := (true, [([], []), ([], []), ([0, 1], [0, 1]), ([2], [2]), ([], []), ([], []), ([], []), ([5, 6], [5, 6]), ([7], [7]), ([3, 4, 8], [3, 4, 8]), ([9], [9]), ([10], [10]), ([10], [10]), ([11, 9, 0, 1, 2, 3, 4, 5, 6, 7, 8, 9, 10, 11], [11]), ([12, 13, 0, 1, 2, 3, 4, 5, 6, 7, 8, 9, 10, 11, 12, 13], [12])])
def scrimlaw14_PadStrips.B18 : List Nat := [0, 0, 3, 7, 0, 0, 0, 96, 224, 511, 1023, 2047, 2047, 4095, 16383]
theorem scrimlaw14_PadStrips.tab18 : rtab .any (opsOf Try.f4 18) = scrimlaw14_PadStrips.T18 := by kernel_rfl
theorem scrimlaw14_PadStrips.bits18 : waitsOk scrimlaw14_PadStrips.T18.2 scrimlaw14_PadStrips.B18 = true := by kernel_rfl
set_option maxHeartbeats 8000000 in
set_option maxRecDepth 100000 in
theorem scrimlaw14_PadStrips.calls (k : Nat) (a0 : Int) (P1_ : Nat → Prop) (A1 : Option Addr) (c1 : Nat) (l1 : List Int) (a2 : Int) (a3 : Int) (a4 : Int) (a5 : Int) (a6 : Int) (r : Bool) (w : World) (hs1 : Kd.V (Kd.int .u8) 5 w w.heap.size (fun k_ => P1_ k_) (.slice A1 l1.length c1) l1) (h : scrimlaw14_PadStrips.f k a0 l1 a2 a3 a4 a5 a6 = some r) :
    Calls Try.prog 4 #[.int .i64 a0, .slice A1 l1.length c1, .int .i64 a2, .int .i64 a3, .int .i64 a4, .int .u8 a5, .int .i64 a6] w fun e w' => e = .returned (.bool r) ∧ Below w.heap.size w w' := by
  have HO1 := Aside0.mk (show Kd.V (Kd.int .u8) 5 w w.heap.size (fun k_ => (P1_ k_ ∨ w.heap.size ≤ k_)) (.slice A1 l1.length c1) l1 from Kd.V_mono hs1 (fun k_ hk => .inl hk))
  have HB := Aside0.mk (Below.refl w.heap.size w)
  have H : ((scrimlaw14_known.f k).bind fun t151 => (if t151 = true then (if (l1.length : Int) > 60 then (some true) else ((some (([8, 16] : List Int) : List Int)).bind fun y152 => ((scrimlaw14_within.f a6 2).bind fun t155 => (if 0 ≤ t155 then (if t155 < (y152.length : Int) then ((scrimlaw14_block.f k (rd y152 t155) l1 a2 a3).bind fun t157 => ((some (([] : List Int) : List Int)).bind fun y160 => (if y160.length + t157.length < 140737488355328 then ((some (y160 ++ t157 : List Int)).bind fun y163 => ((scrimlaw14_within.f a4 (rd y152 t155)).bind fun t166 => (if 0 ≤ t166 then (if t166 < (y163.length : Int) then (if 0 ≤ (rd y152 t155) then (if (rd y152 t155 : Int).toNat ≤ 281474976710656 then (scrimlaw14_PadStrips.l0 k a6 (rd y152 t155) t157 (([t157, (y163.set (t166 : Int).toNat (((rd y163 t166) + a5) % 256)), l1, (List.replicate (rd y152 t155 : Int).toNat 0)] : List (List Int))) (([a0, 1, 2, 3, 4] : List Int)) 0) else (none)) else (none)) else (none)) else (none)))) else (none)))) else (none)) else (none))))) else (some false))) = some r := h
  clear h
  replace H := Option.bind_eq_some_iff.mp H
  obtain ⟨t151, A80, H⟩ := H
  replace H : (if t151 = true then (if (l1.length : Int) > 60 then (some true) else ((some (([8, 16] : List Int) : List Int)).bind fun y152 => ((scrimlaw14_within.f a6 2).bind fun t155 => (if 0 ≤ t155 then (if t155 < (y152.length : Int) then ((scrimlaw14_block.f k (rd y152 t155) l1 a2 a3).bind fun t157 => ((some (([] : List Int) : List Int)).bind fun y160 => (if y160.length + t157.length < 140737488355328 then ((some (y160 ++ t157 : List Int)).bind fun y163 => ((scrimlaw14_within.f a4 (rd y152 t155)).bind fun t166 => (if 0 ≤ t166 then (if t166 < (y163.length : Int) then (if 0 ≤ (rd y152 t155) then (if (rd y152 t155 : Int).toNat ≤ 281474976710656 then (scrimlaw14_PadStrips.l0 k a6 (rd y152 t155) t157 (([t157, (y163.set (t166 : Int).toNat (((rd y163 t166) + a5) % 256)), l1, (List.replicate (rd y152 t155 : Int).toNat 0)] : List (List Int))) (([a0, 1, 2, 3, 4] : List Int)) 0) else (none)) else (none)) else (none)) else (none)))) else (none)))) else (none)) else (none))))) else (some false)) = some r := H
  have A8 := Aside0.mk A80
  clear A80
  by_cases c9 : t151 = true
  · subst c9
    have H1 : (if (l1.length : Int) > 60 then (some true) else ((some (([8, 16] : List Int) : List Int)).bind fun y152 => ((scrimlaw14_within.f a6 2).bind fun t155 => (if 0 ≤ t155 then (if t155 < (y152.length : Int) then ((scrimlaw14_block.f k (rd y152 t155) l1 a2 a3).bind fun t157 => ((some (([] : List Int) : List Int)).bind fun y160 => (if y160.length + t157.length < 140737488355328 then ((some (y160 ++ t157 : List Int)).bind fun y163 => ((scrimlaw14_within.f a4 (rd y152 t155)).bind fun t166 => (if 0 ≤ t166 then (if t166 < (y163.length : Int) then (if 0 ≤ (rd y152 t155) then (if (rd y152 t155 : Int).toNat ≤ 281474976710656 then (scrimlaw14_PadStrips.l0 k a6 (rd y152 t155) t157 (([t157, (y163.set (t166 : Int).toNat (((rd y163 t166) + a5) % 256)), l1, (List.replicate (rd y152 t155 : Int).toNat 0)] : List (List Int))) (([a0, 1, 2, 3, 4] : List Int)) 0) else (none)) else (none)) else (none)) else (none)))) else (none)))) else (none)) else (none))))) = some r := by rw [if_pos rfl] at H; exact H
    clear H
    have H := H1
    clear H1
    by_cases c10 : (l1.length : Int) > 60
    · rw [if_pos c10] at H
      have c10b0 : decide (60 < (l1.length : Int)) = true := decide_eq_true c10
      have c10b1 : decide (60 < l1.length) = true := decide_eq_true (by omega)
      clear c10
      obtain rfl := Option.some.inj H
      go_enter Try.func4, Try.ntmps4
      go_wp2_with (first | ((with_reducible refine gate_callee (f := 10) rfl ?_); refine goesL_ (some 30) rfl rfl Try.func10 (by kernel_rfl) rfl #[] rfl (by (try simp only [List.map_toArray, List.map_cons, List.map_nil]); first | done | rfl | (simp only [List.length_drop, List.length_take]; rfl)) ?_; (with_reducible refine (scrimlaw14_known.calls k  true _ A8.out).mono ?_); rintro e w11 ⟨rfl, hb⟩; refine ⟨_, rfl, ?_⟩; have n0_ := Aside0.mk (Kd.V_below (by (with_reducible repeat (first | apply Kd.V_alloc | apply Kd.V_drewN | apply Kd.V_drew)); exact HO1.out) hb); have n1_ := Aside0.mk (below_step (by repeat (first | (with_reducible first | exact HB.out | apply below_alloc | apply pw_below_drewN | apply below_drew1) | exact HB.out)) hb); clear HO1; clear HB; have HO1 := n0_; have HB := n1_; clear n0_ n1_; (try clear hb); (try clear hb2); (try clear hk); (try clear hi)))
      go_ret
      exact ⟨by first | rfl | (simp [errW_none, errW_some] <;> rfl) | (simp [*, errW_none, errW_some] <;> rfl), by repeat (first | (with_reducible first | exact HB.out | apply below_alloc | apply pw_below_drewN | apply below_drew1) | exact HB.out)⟩
    · rw [if_neg c10] at H
      have c10b0 : decide (60 < (l1.length : Int)) = false := decide_eq_false c10
      have c10b1 : decide (60 < l1.length) = false := decide_eq_false (by omega)
      clear c10
      obtain ⟨y152, hy152⟩ : ∃ y_ : List Int, y_ = (([8, 16] : List Int)) := ⟨_, rfl⟩
      replace H : ((scrimlaw14_within.f a6 2).bind fun t155 => (if 0 ≤ t155 then (if t155 < (y152.length : Int) then ((scrimlaw14_block.f k (rd y152 t155) l1 a2 a3).bind fun t157 => ((some (([] : List Int) : List Int)).bind fun y160 => (if y160.length + t157.length < 140737488355328 then ((some (y160 ++ t157 : List Int)).bind fun y163 => ((scrimlaw14_within.f a4 (rd y152 t155)).bind fun t166 => (if 0 ≤ t166 then (if t166 < (y163.length : Int) then (if 0 ≤ (rd y152 t155) then (if (rd y152 t155 : Int).toNat ≤ 281474976710656 then (scrimlaw14_PadStrips.l0 k a6 (rd y152 t155) t157 (([t157, (y163.set (t166 : Int).toNat (((rd y163 t166) + a5) % 256)), l1, (List.replicate (rd y152 t155 : Int).toNat 0)] : List (List Int))) (([a0, 1, 2, 3, 4] : List Int)) 0) else (none)) else (none)) else (none)) else (none)))) else (none)))) else (none)) else (none))) = some r := by first | (rw [hy152]; with_reducible exact H) | (have H2_ := (Option.bind_some _ _).symm.trans H; rw [hy152]; with_reducible exact H2_) | (have H2_ := (Option.bind_some _ _).symm.trans H; with_reducible exact H2_) | with_reducible exact H | (rw [hy152]; exact H) | exact H
      have Ny152 := Aside0.mk hy152
      clear hy152
      replace H := Option.bind_eq_some_iff.mp H
      obtain ⟨t155, A120, H⟩ := H
      replace H : (if 0 ≤ t155 then (if t155 < (y152.length : Int) then ((scrimlaw14_block.f k (rd y152 t155) l1 a2 a3).bind fun t157 => ((some (([] : List Int) : List Int)).bind fun y160 => (if y160.length + t157.length < 140737488355328 then ((some (y160 ++ t157 : List Int)).bind fun y163 => ((scrimlaw14_within.f a4 (rd y152 t155)).bind fun t166 => (if 0 ≤ t166 then (if t166 < (y163.length : Int) then (if 0 ≤ (rd y152 t155) then (if (rd y152 t155 : Int).toNat ≤ 281474976710656 then (scrimlaw14_PadStrips.l0 k a6 (rd y152 t155) t157 (([t157, (y163.set (t166 : Int).toNat (((rd y163 t166) + a5) % 256)), l1, (List.replicate (rd y152 t155 : Int).toNat 0)] : List (List Int))) (([a0, 1, 2, 3, 4] : List Int)) 0) else (none)) else (none)) else (none)) else (none)))) else (none)))) else (none)) else (none)) = some r := H
      have A12 := Aside0.mk A120
      clear A120
      by_cases c13 : 0 ≤ t155
      · rw [if_pos c13] at H
        have c13b0 : decide (0 ≤ t155) = true := decide_eq_true c13
        clear c13
        by_cases c14 : t155 < (y152.length : Int)
        · rw [if_pos c14] at H
          have c14b0 : decide (t155 < (y152.length : Int)) = true := decide_eq_true c14
          clear c14
          replace H := Option.bind_eq_some_iff.mp H
          obtain ⟨t157, A150, H⟩ := H
          replace H : ((some (([] : List Int) : List Int)).bind fun y160 => (if y160.length + t157.length < 140737488355328 then ((some (y160 ++ t157 : List Int)).bind fun y163 => ((scrimlaw14_within.f a4 (rd y152 t155)).bind fun t166 => (if 0 ≤ t166 then (if t166 < (y163.length : Int) then (if 0 ≤ (rd y152 t155) then (if (rd y152 t155 : Int).toNat ≤ 281474976710656 then (scrimlaw14_PadStrips.l0 k a6 (rd y152 t155) t157 (([t157, (y163.set (t166 : Int).toNat (((rd y163 t166) + a5) % 256)), l1, (List.replicate (rd y152 t155 : Int).toNat 0)] : List (List Int))) (([a0, 1, 2, 3, 4] : List Int)) 0) else (none)) else (none)) else (none)) else (none)))) else (none))) = some r := H
          have A15 := Aside0.mk A150
          clear A150
          obtain ⟨y160, hy160⟩ : ∃ y_ : List Int, y_ = (([] : List Int)) := ⟨_, rfl⟩
          replace H : (if y160.length + t157.length < 140737488355328 then ((some (y160 ++ t157 : List Int)).bind fun y163 => ((scrimlaw14_within.f a4 (rd y152 t155)).bind fun t166 => (if 0 ≤ t166 then (if t166 < (y163.length : Int) then (if 0 ≤ (rd y152 t155) then (if (rd y152 t155 : Int).toNat ≤ 281474976710656 then (scrimlaw14_PadStrips.l0 k a6 (rd y152 t155) t157 (([t157, (y163.set (t166 : Int).toNat (((rd y163 t166) + a5) % 256)), l1, (List.replicate (rd y152 t155 : Int).toNat 0)] : List (List Int))) (([a0, 1, 2, 3, 4] : List Int)) 0) else (none)) else (none)) else (none)) else (none)))) else (none)) = some r := by first | (rw [hy160]; with_reducible exact H) | (have H2_ := (Option.bind_some _ _).symm.trans H; rw [hy160]; with_reducible exact H2_) | (have H2_ := (Option.bind_some _ _).symm.trans H; with_reducible exact H2_) | with_reducible exact H | (rw [hy160]; exact H) | exact H
          have Ny160 := Aside0.mk hy160
          clear hy160
          by_cases c16 : y160.length + t157.length < 140737488355328
          · rw [if_pos c16] at H
            have LMc16 := Aside0.mk c16
            clear c16
            obtain ⟨y163, hy163⟩ : ∃ y_ : List Int, y_ = (y160 ++ t157) := ⟨_, rfl⟩
            replace H : ((scrimlaw14_within.f a4 (rd y152 t155)).bind fun t166 => (if 0 ≤ t166 then (if t166 < (y163.length : Int) then (if 0 ≤ (rd y152 t155) then (if (rd y152 t155 : Int).toNat ≤ 281474976710656 then (scrimlaw14_PadStrips.l0 k a6 (rd y152 t155) t157 (([t157, (y163.set (t166 : Int).toNat (((rd y163 t166) + a5) % 256)), l1, (List.replicate (rd y152 t155 : Int).toNat 0)] : List (List Int))) (([a0, 1, 2, 3, 4] : List Int)) 0) else (none)) else (none)) else (none)) else (none))) = some r := by first | (rw [hy163]; with_reducible exact H) | (have H2_ := (Option.bind_some _ _).symm.trans H; rw [hy163]; with_reducible exact H2_) | (have H2_ := (Option.bind_some _ _).symm.trans H; with_reducible exact H2_) | with_reducible exact H | (rw [hy163]; exact H) | exact H
            have Ny163 := Aside0.mk hy163
            clear hy163
            replace H := Option.bind_eq_some_iff.mp H
            obtain ⟨t166, A170, H⟩ := H
            replace H : (if 0 ≤ t166 then (if t166 < (y163.length : Int) then (if 0 ≤ (rd y152 t155) then (if (rd y152 t155 : Int).toNat ≤ 281474976710656 then (scrimlaw14_PadStrips.l0 k a6 (rd y152 t155) t157 (([t157, (y163.set (t166 : Int).toNat (((rd y163 t166) + a5) % 256)), l1, (List.replicate (rd y152 t155 : Int).toNat 0)] : List (List Int))) (([a0, 1, 2, 3, 4] : List Int)) 0) else (none)) else (none)) else (none)) else (none)) = some r := H
            have A17 := Aside0.mk A170
            clear A170
            by_cases c18 : 0 ≤ t166
            · rw [if_pos c18] at H
              have c18b0 : decide (0 ≤ t166) = true := decide_eq_true c18
              clear c18
              by_cases c19 : t166 < (y163.length : Int)
              · rw [if_pos c19] at H
                have c19b0 : decide (t166 < (y163.length : Int)) = true := decide_eq_true c19
                clear c19
                obtain ⟨y168, hy168⟩ : ∃ y_ : List Int, y_ = (y163.set (t166 : Int).toNat (((rd y163 t166) + a5) % 256)) := ⟨_, rfl⟩
                replace H : (if 0 ≤ (rd y152 t155) then (if (rd y152 t155 : Int).toNat ≤ 281474976710656 then (scrimlaw14_PadStrips.l0 k a6 (rd y152 t155) t157 (([t157, y168, l1, (List.replicate (rd y152 t155 : Int).toNat 0)] : List (List Int))) (([a0, 1, 2, 3, 4] : List Int)) 0) else (none)) else (none)) = some r := by first | (rw [hy168]; with_reducible exact H) | (have H2_ := (Option.bind_some _ _).symm.trans H; rw [hy168]; with_reducible exact H2_) | (have H2_ := (Option.bind_some _ _).symm.trans H; with_reducible exact H2_) | with_reducible exact H | (rw [hy168]; exact H) | exact H
                have Ny168 := Aside0.mk hy168
                clear hy168
                by_cases c21 : 0 ≤ (rd y152 t155)
                · rw [if_pos c21] at H
                  have c21b0 := eq_true c21
                  have c21b1 : decide (0 ≤ (rd y152 t155)) = true := decide_eq_true c21
                  clear c21
                  by_cases c22 : (rd y152 t155 : Int).toNat ≤ 281474976710656
                  · rw [if_pos c22] at H
                    have c22b0 := eq_true c22
                    have c22b1 : decide ((rd y152 t155 : Int).toNat ≤ 281474976710656) = true := decide_eq_true c22
                    clear c22
                    obtain ⟨y169, hy169⟩ : ∃ y_ : List Int, y_ = (List.replicate (rd y152 t155 : Int).toNat 0) := ⟨_, rfl⟩
                    replace H : (scrimlaw14_PadStrips.l0 k a6 (rd y152 t155) t157 (([t157, y168, l1, y169] : List (List Int))) (([a0, 1, 2, 3, 4] : List Int)) 0) = some r := by first | (rw [hy169]; with_reducible exact H) | (have H2_ := (Option.bind_some _ _).symm.trans H; rw [hy169]; with_reducible exact H2_) | (have H2_ := (Option.bind_some _ _).symm.trans H; with_reducible exact H2_) | with_reducible exact H | (rw [hy169]; exact H) | exact H
                    have Ny169 := Aside0.mk hy169
                    clear hy169
                    obtain ⟨y172, hy172⟩ : ∃ y_ : List (List Int), y_ = (([t157, y168, l1, y169] : List (List Int))) := ⟨_, rfl⟩
                    replace H : (scrimlaw14_PadStrips.l0 k a6 (rd y152 t155) t157 y172 (([a0, 1, 2, 3, 4] : List Int)) 0) = some r := by first | (rw [hy172]; with_reducible exact H) | (have H2_ := (Option.bind_some _ _).symm.trans H; rw [hy172]; with_reducible exact H2_) | (have H2_ := (Option.bind_some _ _).symm.trans H; with_reducible exact H2_) | with_reducible exact H | (rw [hy172]; exact H) | exact H
                    have Ny172 := Aside0.mk hy172
                    clear hy172
                    obtain ⟨y175, hy175⟩ : ∃ y_ : List Int, y_ = (([a0, 1, 2, 3, 4] : List Int)) := ⟨_, rfl⟩
                    replace H : (scrimlaw14_PadStrips.l0 k a6 (rd y152 t155) t157 y172 y175 0) = some r := by first | (rw [hy175]; with_reducible exact H) | (have H2_ := (Option.bind_some _ _).symm.trans H; rw [hy175]; with_reducible exact H2_) | (have H2_ := (Option.bind_some _ _).symm.trans H; with_reducible exact H2_) | with_reducible exact H | (rw [hy175]; exact H) | exact H
                    have Ny175 := Aside0.mk hy175
                    clear hy175
                    have H' := Aside0.mk H
                    clear H
                    go_enter Try.func4, Try.ntmps4
                    go_wp2_with (first | ((with_reducible refine gate_callee (f := 10) rfl ?_); refine goesL_ (some 30) rfl rfl Try.func10 (by kernel_rfl) rfl #[] rfl (by (try simp only [List.map_toArray, List.map_cons, List.map_nil]); first | done | rfl | (simp only [List.length_drop, List.length_take]; rfl)) ?_; (with_reducible refine (scrimlaw14_known.calls k  true _ A8.out).mono ?_); rintro e w23 ⟨rfl, hb⟩; refine ⟨_, rfl, ?_⟩; have n0_ := Aside0.mk (Kd.V_below (by (with_reducible repeat (first | apply Kd.V_alloc | apply Kd.V_drewN | apply Kd.V_drew)); exact HO1.out) hb); have n1_ := Aside0.mk (below_step (by repeat (first | (with_reducible first | exact HB.out | apply below_alloc | apply pw_below_drewN | apply below_drew1) | exact HB.out)) hb); clear HO1; clear HB; have HO1 := n0_; have HB := n1_; clear n0_ n1_; (try clear hb); (try clear hb2); (try clear hk); (try clear hi)) | ((with_reducible refine gate_dst (N := 35) rfl ?_); refine Kd.R_lit (Kd.int .i64) _ 3 ?hg (N := 35) ?hd (xs := ([8, 16] : List Int)) (inner := [.int .i64 8, .int .i64 16]) (ok := fun _ => True) (okp := fun _ => True) ?hr ?hp (fun _ hk => hk) trivial (Below.refl _ _) (Nat.le_refl _) (by simp) ?_; (case hd => rfl); (case hg => rfl); (case hr => first | (go_simp; done) | (go_simp; rfl)); (case hp => exact (Reps.one (show Kd.M (Kd.int .i64) _ _ _ 8 [.int .i64 8] from rfl) (Reps.one (show Kd.M (Kd.int .i64) _ _ _ 16 [.int .i64 16] from rfl) (Reps.none _ _)))); intro v153 w24 ho25 hb hg_ hnew_; clear hg_ hnew_; (first | rw [← Ny152.out] at ho25 | (simp only [Int.reduceToNat] at ho25; rw [← Ny152.out] at ho25)); have n0_ := Aside0.mk (Kd.V_elder' (by (with_reducible repeat (first | apply Kd.V_alloc | apply Kd.V_drewN | apply Kd.V_drew)); exact HO1.out) (Kd.R_base ho25) hb); have n1_ := Aside0.mk (Kd.R_lower (Kd.R_newM (M := fun k_ => (w.heap.size ≤ k_)) ho25 (below_size (by repeat (first | (with_reducible first | exact HB.out | apply below_alloc | apply pw_below_drewN | apply below_drew1) | exact HB.out))) (fun k_ h_ => h_)) (below_size (by repeat (first | (with_reducible first | exact HB.out | apply below_alloc | apply pw_below_drewN | apply below_drew1) | exact HB.out)))); have n2_ := Aside0.mk (below_step (by repeat (first | (with_reducible first | exact HB.out | apply below_alloc | apply pw_below_drewN | apply below_drew1) | exact HB.out)) hb); clear HO1; clear HB; have HO1 := n0_; have HO154 := n1_; have HB := n2_; clear n0_ n1_ n2_; clear hb ho25) | ((with_reducible refine gate_callee (f := 11) rfl ?_); refine goesL_ (some 37) rfl rfl Try.func11 (by kernel_rfl) rfl #[.int .i64 a6, .int .i64 2] rfl (by (try simp only [List.map_toArray, List.map_cons, List.map_nil]); first | done | rfl | (simp only [List.length_drop, List.length_take]; rfl)) ?_; (with_reducible refine (scrimlaw14_within.calls a6 2 t155 _ A12.out).mono ?_); rintro e w' ⟨rfl, ⟨nd, rfl⟩⟩; refine ⟨_, rfl, ?_⟩; (try (rw [drewN_self w24]; generalize hq_ : World.drewN w24 _ = w24; have n0_ : Aside0 (Kd.V (Kd.int .u8) 5 w24 w.heap.size (fun k_ => (P1_ k_ ∨ w.heap.size ≤ k_) ∧ some k_ ≠ (v153 : Value).ownBlock) (.slice A1 l1.length c1) l1) := ⟨by rw [← hq_]; exact (by (with_reducible repeat (first | apply Kd.V_alloc | apply Kd.V_drewN | apply Kd.V_drew)); exact HO1.out)⟩; have n1_ : Aside0 (Kd.R (Kd.int .i64) 3 w24 w.heap.size (fun k_ => (w.heap.size ≤ k_)) v153 y152) := ⟨by rw [← hq_]; exact (by (with_reducible repeat (first | apply Kd.R_alloc | apply Kd.R_drewN | apply Kd.R_drew)); exact Kd.R_mono HO154.out (fun _ hk => hk.1))⟩; have n2_ : Aside0 (Below w.heap.size w w24) := ⟨by rw [← hq_]; exact (by repeat (first | (with_reducible first | exact HB.out | apply below_alloc | apply pw_below_drewN | apply below_drew1) | exact HB.out))⟩; clear HO1 HO154 HB hq_; have HO1 := n0_; have HO154 := n1_; have HB := n2_; clear n0_ n1_ n2_)); obtain ⟨Ao26, co26, eo26⟩ := Kd.R_slice HO154.out; subst eo26; have p156 : 0 ≤ (t155 : Int) := of_decide_eq_true (by first | (with_reducible assumption) | assumption); have q156 : t155 < (y152.length : Int) := of_decide_eq_true (by first | (with_reducible assumption) | assumption); obtain ⟨ad156, e156, hx156_0⟩ := Kd.at_int (Kd.R_reads' HO154.out).2.2 t155 p156 q156; cases e156; replace p156 := eq_true p156; replace q156 := eq_true q156) | ((with_reducible refine gate_callee (f := 14) rfl ?_); refine goesL_ (some 44) rfl rfl Try.func14 (by kernel_rfl) rfl #[.int .i64 (rd y152 t155), .slice A1 l1.length c1, .int .i64 a2, .int .i64 a3] rfl (by (try simp only [List.map_toArray, List.map_cons, List.map_nil]); first | done | rfl | (simp only [List.length_drop, List.length_take]; rfl)) ?_; (with_reducible refine (scrimlaw14_block.calls k (rd y152 t155) _ _ l1 a2 a3 t157 _ ?side1 ?side2 A15.out).mono ?_); (case side1 => repeat (first | exact (Kd.V_reads' HO1.out).2.2 | (with_reducible refine Kd.C_alloc ?_ _) | (with_reducible refine Kd.C_drewN ?_ _) | (with_reducible refine Kd.C_drew ?_))); (case side2 => exact (Kd.V_reads' HO1.out).2.1); rintro e w27 ⟨v158, rfl, ho0, hb⟩; refine ⟨_, rfl, ?_⟩; have n0_ := Aside0.mk (Kd.V_elder' (by (with_reducible repeat (first | apply Kd.V_alloc | apply Kd.V_drewN | apply Kd.V_drew)); exact HO1.out) (Kd.R_base ho0) hb); have n1_ := Aside0.mk (Kd.R_below (by (with_reducible repeat (first | apply Kd.R_alloc | apply Kd.R_drewN | apply Kd.R_drew)); exact HO154.out) hb); have n2_ := Aside0.mk (Kd.R_lower (Kd.R_newM (M := fun k_ => (w.heap.size ≤ k_)) ho0 (below_size (by repeat (first | (with_reducible first | exact HB.out | apply below_alloc | apply pw_below_drewN | apply below_drew1) | exact HB.out))) (fun k_ h_ => h_)) (below_size (by repeat (first | (with_reducible first | exact HB.out | apply below_alloc | apply pw_below_drewN | apply below_drew1) | exact HB.out)))); have n3_ := Aside0.mk (below_step (by repeat (first | (with_reducible first | exact HB.out | apply below_alloc | apply pw_below_drewN | apply below_drew1) | exact HB.out)) hb); clear HO1; clear HO154; clear HB; have HO1 := n0_; have HO154 := n1_; have HO159 := n2_; have HB := n3_; clear n0_ n1_ n2_ n3_; (try clear hb); (try clear hb2); (try clear hk); (try clear hi); (try clear ho0)) | ((with_reducible refine gate_dst (N := 45) rfl ?_); refine Kd.R_lit (Kd.int .u8) _ 5 ?hg (N := 45) ?hd (xs := ([] : List Int)) (inner := []) (ok := fun _ => True) (okp := fun _ => True) ?hr ?hp (fun _ hk => hk) trivial (Below.refl _ _) (Nat.le_refl _) (by simp) ?_; (case hd => rfl); (case hg => rfl); (case hr => first | (go_simp; done) | (go_simp; rfl)); (case hp => exact (Reps.none _ _)); intro v161 w28 ho29 hb hg_ hnew_; clear hg_ hnew_; (first | rw [← Ny160.out] at ho29 | (simp only [Int.reduceToNat] at ho29; rw [← Ny160.out] at ho29)); have n0_ := Aside0.mk (Kd.V_elder' (by (with_reducible repeat (first | apply Kd.V_alloc | apply Kd.V_drewN | apply Kd.V_drew)); exact HO1.out) (Kd.R_base ho29) hb); have n1_ := Aside0.mk (Kd.R_below (by (with_reducible repeat (first | apply Kd.R_alloc | apply Kd.R_drewN | apply Kd.R_drew)); exact HO154.out) hb); have n2_ := Aside0.mk (Kd.R_elder' (by (with_reducible repeat (first | apply Kd.R_alloc | apply Kd.R_drewN | apply Kd.R_drew)); exact HO159.out) (Kd.R_base ho29) hb); have n3_ := Aside0.mk (Kd.R_lower (Kd.R_new' (Kd.R_newM (M := fun k_ => (w.heap.size ≤ k_)) ho29 (below_size (by repeat (first | (with_reducible first | exact HB.out | apply below_alloc | apply pw_below_drewN | apply below_drew1) | exact HB.out))) (fun k_ h_ => h_)) (Kd.R_lt (by (with_reducible repeat (first | apply Kd.R_alloc | apply Kd.R_drewN | apply Kd.R_drew)); exact HO159.out))) (below_size (by repeat (first | (with_reducible first | exact HB.out | apply below_alloc | apply pw_below_drewN | apply below_drew1) | exact HB.out)))); have n4_ := Aside0.mk (below_step (by repeat (first | (with_reducible first | exact HB.out | apply below_alloc | apply pw_below_drewN | apply below_drew1) | exact HB.out)) hb); clear HO1; clear HO154; clear HO159; clear HB; have HO1 := n0_; have HO154 := n1_; have HO159 := n2_; have HO162 := n3_; have HB := n4_; clear n0_ n1_ n2_ n3_ n4_; clear hb ho29; obtain ⟨Ao31, co31, eo31⟩ := Kd.R_slice HO159.out; subst eo31) | ((with_reducible refine gate_builtin (b := .append) (xs := #[.tmp 45, .tmp 46]) rfl ?_); at_builtin; refine Kd.R_append_rows (Kd.int .u8) (w0 := w) w.heap.size rfl (.tmp 45) (.tmp 46) 22 5 (.int .u8 0) 1 rfl Try.underlying22 info5 rfl (by decide) (by omega) v161 y160 t157 _ _ _ (fun k_ => (w.heap.size ≤ k_) ∧ some k_ ≠ (.slice Ao31 t157.length co31 : Value).ownBlock) (fun _ => False) rfl rfl ?aO ?aR (fun _ _ h => h) (fun _ h => h.elim) ?aF ?aB ?aS ?aL ?_; (case aR => repeat (first | exact (Kd.R_reads' HO159.out).2.2 | (with_reducible refine Kd.C_alloc ?_ _) | (with_reducible refine Kd.C_drewN ?_ _) | (with_reducible refine Kd.C_drew ?_))); (case aB => exact (by repeat (first | (with_reducible first | exact HB.out | apply below_alloc | apply pw_below_drewN | apply below_drew1) | exact HB.out))); (case aF => exact (fun k_ hk => ⟨(Nat.le_trans (below_size (by repeat (first | (with_reducible first | exact HB.out | apply below_alloc | apply pw_below_drewN | apply below_drew1) | exact HB.out))) hk), Kd.fresh' (Kd.R_lt (by (with_reducible repeat (first | apply Kd.R_alloc | apply Kd.R_drewN | apply Kd.R_drew)); exact HO159.out)) k_ hk⟩)); (case aO => exact (by (with_reducible repeat (first | apply Kd.R_alloc | apply Kd.R_drewN | apply Kd.R_drew)); exact Kd.R_mono HO162.out (fun _ hk => ⟨hk.1.1, hk.2⟩))); (case aS => exact (below_size (by repeat (first | (with_reducible first | exact HB.out | apply below_alloc | apply pw_below_drewN | apply below_drew1) | exact HB.out)))); (case aL => have := LMc16.out; omega); intro v164 w30 ho hb hg hat; rw [← Ny163.out] at ho; have n0_ := Aside0.mk (Kd.V_afterv (ok := (fun k_ => (P1_ k_ ∨ w.heap.size ≤ k_) ∧ some k_ ≠ (.slice (some ad156) y152.length co26 : Value).ownBlock ∧ some k_ ≠ (.slice Ao31 t157.length co31 : Value).ownBlock)) (by (with_reducible repeat (first | apply Kd.V_alloc | apply Kd.V_drewN | apply Kd.V_drew)); exact Kd.V_mono HO1.out (fun _ hk => ⟨⟨hk.1.1.1, ⟨hk.1.1.2, hk.1.2⟩⟩, hk.2⟩)) hg hat); have n1_ := Aside0.mk (Kd.R_over' (by (with_reducible repeat (first | apply Kd.R_alloc | apply Kd.R_drewN | apply Kd.R_drew)); exact HO154.out) (Kd.R_typed (by (with_reducible repeat (first | apply Kd.R_alloc | apply Kd.R_drewN | apply Kd.R_drew)); exact HO162.out)) (by decide) hg); have n2_ := Aside0.mk (Kd.R_after (ok := (fun k_ => (w.heap.size ≤ k_))) (by (with_reducible repeat (first | apply Kd.R_alloc | apply Kd.R_drewN | apply Kd.R_drew)); exact Kd.R_mono HO159.out (fun _ hk => ⟨hk.1.1, hk.2⟩)) hg hat); have n3_ := Aside0.mk (hb); have n4_ := Aside0.mk (ho); clear HO1; clear HO154; clear HO159; clear HB; clear HO162; have HO1 := n0_; have HO154 := n1_; have HO159 := n2_; have HB := n3_; have HO165 := n4_; clear n0_ n1_ n2_ n3_ n4_; clear ho hb hg hat) | ((with_reducible refine gate_callee (f := 11) rfl ?_); refine goesL_ (some 51) rfl rfl Try.func11 (by kernel_rfl) rfl #[.int .i64 a4, .int .i64 (rd y152 t155)] rfl (by (try simp only [List.map_toArray, List.map_cons, List.map_nil]); first | done | rfl | (simp only [List.length_drop, List.length_take]; rfl)) ?_; (with_reducible refine (scrimlaw14_within.calls a4 (rd y152 t155) t166 _ A17.out).mono ?_); rintro e w' ⟨rfl, ⟨nd, rfl⟩⟩; refine ⟨_, rfl, ?_⟩; replace HO1 := Aside0.mk (Kd.V_drewN HO1.out nd); replace HO154 := Aside0.mk (Kd.R_drewN HO154.out nd); replace HO159 := Aside0.mk (Kd.R_drewN HO159.out nd); replace HO165 := Aside0.mk (Kd.R_drewN HO165.out nd); replace HB := Aside0.mk (pw_below_drewN HB.out nd); generalize w30.drewN nd = w30 at *; (try (rw [drewN_self w30]; generalize hq_ : World.drewN w30 _ = w30; have n0_ : Aside0 (Kd.V (Kd.int .u8) 5 w30 w.heap.size (fun k_ => (P1_ k_ ∨ w.heap.size ≤ k_) ∧ some k_ ≠ (.slice (some ad156) y152.length co26 : Value).ownBlock ∧ some k_ ≠ (.slice Ao31 t157.length co31 : Value).ownBlock ∧ some k_ ≠ (v164 : Value).ownBlock) (.slice A1 l1.length c1) l1) := ⟨by rw [← hq_]; exact (by (with_reducible repeat (first | apply Kd.V_alloc | apply Kd.V_drewN | apply Kd.V_drew)); exact Kd.V_mono HO1.out (fun _ hk => ⟨hk.1.1, ⟨hk.1.2.1, ⟨hk.1.2.2, hk.2⟩⟩⟩))⟩; have n1_ : Aside0 (Kd.R (Kd.int .i64) 3 w30 w.heap.size (fun k_ => (w.heap.size ≤ k_)) (.slice (some ad156) y152.length co26) y152) := ⟨by rw [← hq_]; exact (by (with_reducible repeat (first | apply Kd.R_alloc | apply Kd.R_drewN | apply Kd.R_drew)); exact Kd.R_mono HO154.out (fun _ hk => hk.1))⟩; have n2_ : Aside0 (Kd.R (Kd.int .u8) 5 w30 w.heap.size (fun k_ => (w.heap.size ≤ k_) ∧ some k_ ≠ (v164 : Value).ownBlock) (.slice Ao31 t157.length co31) t157) := ⟨by rw [← hq_]; exact (by (with_reducible repeat (first | apply Kd.R_alloc | apply Kd.R_drewN | apply Kd.R_drew)); exact HO159.out)⟩; have n3_ : Aside0 (Kd.R (Kd.int .u8) 5 w30 w.heap.size (fun k_ => (w.heap.size ≤ k_) ∧ some k_ ≠ (.slice Ao31 t157.length co31 : Value).ownBlock) v164 y163) := ⟨by rw [← hq_]; exact (by (with_reducible repeat (first | apply Kd.R_alloc | apply Kd.R_drewN | apply Kd.R_drew)); exact HO165.out)⟩; have n4_ : Aside0 (Below w.heap.size w w30) := ⟨by rw [← hq_]; exact (by repeat (first | (with_reducible first | exact HB.out | apply below_alloc | apply pw_below_drewN | apply below_drew1) | exact HB.out))⟩; clear HO1 HO154 HO159 HO165 HB hq_; have HO1 := n0_; have HO154 := n1_; have HO159 := n2_; have HO165 := n3_; have HB := n4_; clear n0_ n1_ n2_ n3_ n4_)); obtain ⟨Ao32, co32, eo32⟩ := Kd.R_slice HO165.out; subst eo32; have p167 : 0 ≤ (t166 : Int) := of_decide_eq_true (by first | (with_reducible assumption) | assumption); have q167 : t166 < (y163.length : Int) := of_decide_eq_true (by first | (with_reducible assumption) | assumption); obtain ⟨ad167, e167, hx167_0⟩ := Kd.at_int (Kd.R_reads' HO165.out).2.2 t166 p167 q167; cases e167; replace p167 := eq_true p167; replace q167 := eq_true q167; have p20 : 0 ≤ (t166 : Int) := of_decide_eq_true (by first | (with_reducible assumption) | assumption); have q20 : (t166 : Int) < ((y163.length : Int) : Int) := of_decide_eq_true (by first | (with_reducible assumption) | assumption); obtain ⟨go20, co20, eo20, gb20, gl20, cl20, HG20⟩ := Kd.R_form HO165.out (by omega); (first | cases eo20 | (injection eo20 with ea_ en_ ec_; (first | subst ea_ | (injection ea_ with ea_; subst ea_)); subst ec_; clear en_)); have GB20 := Aside0.mk gb20; have GG20 := Aside0.mk HG20; clear gb20 gl20 HG20; (first | simp only [add_plain] at hx167_0 | skip); obtain ⟨hx20_0, hf20_0⟩ := Kd.R_celln 0 HO165.out (t166 : Int) p20 q20; replace p20 := eq_true p20; replace q20 := eq_true q20; obtain ⟨hy33_, hz33_⟩ := Kd.R_celln 0 HO165.out (t166 : Int) (of_decide_eq_true (by first | (with_reducible assumption) | assumption)) (of_decide_eq_true (by first | (with_reducible assumption) | assumption)); have HP33 := Kd.R_putg HO165.out (t166 : Int) (((rd y163 t166) + a5) % 256)) | ((with_reducible refine gate_store (t := 5) (p := 56) rfl ?_); refine store_event (t := 5) (p := 56) (v := ?vo_w34) (w1 := (w30.setCell ⟨go20, (t166 : Int).toNat, none⟩ (.int .u8 (((rd y163 t166) + a5) % 256)))) ?hg ?ho ?hn ?hr ?_; (case ho => rfl); (case hg => rfl); (case hn => rfl); (case hr => first | (go_simp; done) | (go_simp; rfl)); intro w34 hw; have hg : w30.grownBy w34 (some go20) := (by rw [hw]; exact HP33.2); have hp_ : Kd.R (Kd.int .u8) 5 w34 w.heap.size (fun k_ => (w.heap.size ≤ k_) ∧ some k_ ≠ (.slice Ao31 t157.length co31 : Value).ownBlock) (.slice (some ⟨go20, 0, none⟩) y163.length co32) y168 := (by rw [hw, Ny168.out]; exact HP33.1); clear HP33; have n0_ := Aside0.mk (Kd.V_afterv (v := (.slice (some ⟨go20, 0, none⟩) y163.length co32)) (v1 := (.slice (some ⟨go20, 0, none⟩) y163.length co32)) (ok := (fun k_ => (P1_ k_ ∨ w.heap.size ≤ k_) ∧ some k_ ≠ (.slice (some ad156) y152.length co26 : Value).ownBlock ∧ some k_ ≠ (.slice Ao31 t157.length co31 : Value).ownBlock)) (by (with_reducible repeat (first | apply Kd.V_alloc | apply Kd.V_drewN | apply Kd.V_drew)); exact HO1.out) hg (.inl rfl)); have n1_ := Aside0.mk (Kd.R_over' (v := (.slice (some ⟨go20, 0, none⟩) y163.length co32)) (by (with_reducible repeat (first | apply Kd.R_alloc | apply Kd.R_drewN | apply Kd.R_drew)); exact HO154.out) (Kd.R_typed HO165.out) (by decide) hg); have n2_ := Aside0.mk (Kd.R_after (v := (.slice (some ⟨go20, 0, none⟩) y163.length co32)) (v1 := (.slice (some ⟨go20, 0, none⟩) y163.length co32)) (ok := (fun k_ => (w.heap.size ≤ k_))) (by (with_reducible repeat (first | apply Kd.R_alloc | apply Kd.R_drewN | apply Kd.R_drew)); exact HO159.out) hg (.inl rfl)); have n3_ := Aside0.mk (hp_); have n4_ := Aside0.mk ((by rw [hw]; exact below_set (HB.out) GB20.out : Below w.heap.size w w34)); clear HO1; clear HO154; clear HO159; clear HO165; clear HB; have HO1 := n0_; have HO154 := n1_; have HO159 := n2_; have HO165 := n3_; have HB := n4_; clear n0_ n1_ n2_ n3_ n4_; clear hg hw hp_) | ((with_reducible refine gate_dst (N := 61) rfl ?_); refine Kd.R_make (Kd.int .u8) _ 5 rfl (N := 61) rfl 22 _ _ rfl (rd y152 t155) rfl rfl Try.underlying22 (.int .u8 0) 1 info5 rfl (by decide) (by omega) 0 (ok := fun _ => True) (okp := fun _ => True) rfl (fun _ hk => hk) trivial (of_decide_eq_true (by first | (with_reducible assumption) | assumption)) (Nat.le_trans (Nat.mul_le_mul_right _ (of_decide_eq_true (by first | (with_reducible assumption) | assumption) : (rd y152 t155).toNat ≤ 281474976710656)) (by omega)) (Below.refl _ _) (Nat.le_refl _) ?_; intro v170 w35 ho36 hb hg_ hnew_; clear hg_ hnew_; (first | rw [← Ny169.out] at ho36 | (simp only [Int.reduceToNat] at ho36; rw [← Ny169.out] at ho36)); have n0_ := Aside0.mk (Kd.V_elder' (by (with_reducible repeat (first | apply Kd.V_alloc | apply Kd.V_drewN | apply Kd.V_drew)); exact HO1.out) (Kd.R_base ho36) hb); have n1_ := Aside0.mk (Kd.R_below (by (with_reducible repeat (first | apply Kd.R_alloc | apply Kd.R_drewN | apply Kd.R_drew)); exact HO154.out) hb); have n2_ := Aside0.mk (Kd.R_elder' (by (with_reducible repeat (first | apply Kd.R_alloc | apply Kd.R_drewN | apply Kd.R_drew)); exact HO159.out) (Kd.R_base ho36) hb); have n3_ := Aside0.mk (Kd.R_elder' (by (with_reducible repeat (first | apply Kd.R_alloc | apply Kd.R_drewN | apply Kd.R_drew)); exact HO165.out) (Kd.R_base ho36) hb); have n4_ := Aside0.mk (Kd.R_lower (Kd.R_new' (Kd.R_new' (Kd.R_newM (M := fun k_ => (w.heap.size ≤ k_)) ho36 (below_size (by repeat (first | (with_reducible first | exact HB.out | apply below_alloc | apply pw_below_drewN | apply below_drew1) | exact HB.out))) (fun k_ h_ => h_)) (Kd.R_lt (by (with_reducible repeat (first | apply Kd.R_alloc | apply Kd.R_drewN | apply Kd.R_drew)); exact HO159.out))) (Kd.R_lt (by (with_reducible repeat (first | apply Kd.R_alloc | apply Kd.R_drewN | apply Kd.R_drew)); exact HO165.out))) (below_size (by repeat (first | (with_reducible first | exact HB.out | apply below_alloc | apply pw_below_drewN | apply below_drew1) | exact HB.out)))); have n5_ := Aside0.mk (below_step (by repeat (first | (with_reducible first | exact HB.out | apply below_alloc | apply pw_below_drewN | apply below_drew1) | exact HB.out)) hb); clear HO1; clear HO154; clear HO159; clear HO165; clear HB; have HO1 := n0_; have HO154 := n1_; have HO159 := n2_; have HO165 := n3_; have HO171 := n4_; have HB := n5_; clear n0_ n1_ n2_ n3_ n4_ n5_; clear hb ho36; obtain ⟨Ao37, co37, eo37⟩ := Kd.R_slice HO171.out; subst eo37) | ((with_reducible refine gate_dst (N := 62) rfl ?_); refine Kd.N_lit (Kd.slice 5 (Kd.int .u8)) _ 22 ?hg (N' := 62) ?hd (xs := ([t157, y168, l1, y169] : List (List Int))) (inner := [.slice Ao31 t157.length co31, .slice (some ⟨go20, 0, none⟩) y163.length co32, .slice A1 l1.length c1, .slice Ao37 y169.length co37]) (ok := (fun k_ => (P1_ k_ ∨ w.heap.size ≤ k_) ∧ some k_ ≠ (.slice (some ad156) y152.length co26 : Value).ownBlock)) (okp := (fun k_ => (P1_ k_ ∨ w.heap.size ≤ k_) ∧ some k_ ≠ (.slice (some ad156) y152.length co26 : Value).ownBlock)) ?hr ?hp (fun _ hk => hk) ((show ∀ k_, w35.heap.size ≤ k_ → (fun k_ => (P1_ k_ ∨ w.heap.size ≤ k_) ∧ some k_ ≠ (.slice (some ad156) y152.length co26 : Value).ownBlock) k_ from fun k_ hk => ⟨(.inr (Nat.le_trans (below_size (by repeat (first | (with_reducible first | exact HB.out | apply below_alloc | apply pw_below_drewN | apply below_drew1) | exact HB.out))) hk)), Kd.fresh' (Kd.R_lt (by (with_reducible repeat (first | apply Kd.R_alloc | apply Kd.R_drewN | apply Kd.R_drew)); exact HO154.out)) k_ hk⟩) _ (Nat.le_refl _)) (Below.refl _ _) (Nat.le_refl _) (by simp) ?_; (case hd => rfl); (case hg => rfl); (case hr => first | (go_simp; done) | (go_simp; rfl)); (case hp => exact (Reps.one (show Kd.FK (Kd.slice 5 (Kd.int .u8)) _ _ t157 [.slice Ao31 t157.length co31] from (Kd.FK_slice_mk (Kd.R_reads' (Kd.R_mono (ok' := (fun k_ => (P1_ k_ ∨ w.heap.size ≤ k_) ∧ some k_ ≠ (.slice (some ad156) y152.length co26 : Value).ownBlock)) (Kd.R_apart' (HO159.out) (Kd.R_typed HO154.out) (by decide)) (fun k_ hk => ⟨(.inr (hk.1.1.1)), hk.2⟩))).2.1 (Kd.R_F (Kd.R_mono (ok' := (fun k_ => (P1_ k_ ∨ w.heap.size ≤ k_) ∧ some k_ ≠ (.slice (some ad156) y152.length co26 : Value).ownBlock)) (Kd.R_apart' (HO159.out) (Kd.R_typed HO154.out) (by decide)) (fun k_ hk => ⟨(.inr (hk.1.1.1)), hk.2⟩))))) (Reps.one (show Kd.FK (Kd.slice 5 (Kd.int .u8)) _ _ y168 [.slice (some ⟨go20, 0, none⟩) y163.length co32] from (FK_of_R (Kd.R_mono (ok' := (fun k_ => (P1_ k_ ∨ w.heap.size ≤ k_) ∧ some k_ ≠ (.slice (some ad156) y152.length co26 : Value).ownBlock)) (Kd.R_apart' (HO165.out) (Kd.R_typed HO154.out) (by decide)) (fun k_ hk => ⟨(.inr (hk.1.1.1)), hk.2⟩)))) (Reps.one (show Kd.FK (Kd.slice 5 (Kd.int .u8)) _ _ l1 [.slice A1 l1.length c1] from (Kd.FK_slice_mk (Kd.V_reads' (Kd.V_mono (ok' := (fun k_ => (P1_ k_ ∨ w.heap.size ≤ k_) ∧ some k_ ≠ (.slice (some ad156) y152.length co26 : Value).ownBlock)) (HO1.out) (fun k_ hk => ⟨hk.1.1.1, hk.1.1.2.1⟩))).2.1 (Kd.V_F (Kd.V_mono (ok' := (fun k_ => (P1_ k_ ∨ w.heap.size ≤ k_) ∧ some k_ ≠ (.slice (some ad156) y152.length co26 : Value).ownBlock)) (HO1.out) (fun k_ hk => ⟨hk.1.1.1, hk.1.1.2.1⟩))))) (Reps.one (show Kd.FK (Kd.slice 5 (Kd.int .u8)) _ _ y169 [.slice Ao37 y169.length co37] from (Kd.FK_slice_mk (Kd.R_reads' (Kd.R_mono (ok' := (fun k_ => (P1_ k_ ∨ w.heap.size ≤ k_) ∧ some k_ ≠ (.slice (some ad156) y152.length co26 : Value).ownBlock)) (Kd.R_apart' (HO171.out) (Kd.R_typed HO154.out) (by decide)) (fun k_ hk => ⟨(.inr (hk.1.1.1.1)), hk.2⟩))).2.1 (Kd.R_F (Kd.R_mono (ok' := (fun k_ => (P1_ k_ ∨ w.heap.size ≤ k_) ∧ some k_ ≠ (.slice (some ad156) y152.length co26 : Value).ownBlock)) (Kd.R_apart' (HO171.out) (Kd.R_typed HO154.out) (by decide)) (fun k_ hk => ⟨(.inr (hk.1.1.1.1)), hk.2⟩))))) (Reps.none _ _)))))); intro v173 w38 ho39 hb hg_ hnew_; clear hg_ hnew_; (first | rw [← Ny172.out] at ho39 | (simp only [Int.reduceToNat] at ho39; rw [← Ny172.out] at ho39)); replace HO159 := Aside0.mk (Kd.R_below (by (with_reducible repeat (first | apply Kd.R_alloc | apply Kd.R_drewN | apply Kd.R_drew)); exact HO159.out) hb); have n0_ := Aside0.mk (Kd.V_elder' (by (with_reducible repeat (first | apply Kd.V_alloc | apply Kd.V_drewN | apply Kd.V_drew)); exact HO1.out) (Kd.N_base ho39) hb); have n1_ := Aside0.mk (Kd.R_below (by (with_reducible repeat (first | apply Kd.R_alloc | apply Kd.R_drewN | apply Kd.R_drew)); exact HO154.out) hb); have n2_ := Aside0.mk (Kd.N_lower ho39 (below_size (by repeat (first | (with_reducible first | exact HB.out | apply below_alloc | apply pw_below_drewN | apply below_drew1) | exact HB.out)))); have n3_ := Aside0.mk (below_step (by repeat (first | (with_reducible first | exact HB.out | apply below_alloc | apply pw_below_drewN | apply below_drew1) | exact HB.out)) hb); clear HO1; clear HO154; clear HB; clear HO165; clear HO171; have HO1 := n0_; have HO154 := n1_; have HO174 := n2_; have HB := n3_; clear n0_ n1_ n2_ n3_; clear hb ho39) | ((with_reducible refine gate_dst (N := 64) rfl ?_); refine Kd.R_lit (Kd.int .i64) _ 3 ?hg (N := 64) ?hd (xs := ([a0, 1, 2, 3, 4] : List Int)) (inner := [.int .i64 a0, .int .i64 1, .int .i64 2, .int .i64 3, .int .i64 4]) (ok := fun _ => True) (okp := fun _ => True) ?hr ?hp (fun _ hk => hk) trivial (Below.refl _ _) (Nat.le_refl _) (by simp) ?_; (case hd => rfl); (case hg => rfl); (case hr => first | (go_simp; done) | (go_simp; rfl)); (case hp => exact (Reps.one (show Kd.M (Kd.int .i64) _ _ _ a0 [.int .i64 a0] from rfl) (Reps.one (show Kd.M (Kd.int .i64) _ _ _ 1 [.int .i64 1] from rfl) (Reps.one (show Kd.M (Kd.int .i64) _ _ _ 2 [.int .i64 2] from rfl) (Reps.one (show Kd.M (Kd.int .i64) _ _ _ 3 [.int .i64 3] from rfl) (Reps.one (show Kd.M (Kd.int .i64) _ _ _ 4 [.int .i64 4] from rfl) (Reps.none _ _))))))); intro v176 w40 ho41 hb hg_ hnew_; clear hg_ hnew_; (first | rw [← Ny175.out] at ho41 | (simp only [Int.reduceToNat] at ho41; rw [← Ny175.out] at ho41)); replace HO159 := Aside0.mk (Kd.R_below (by (with_reducible repeat (first | apply Kd.R_alloc | apply Kd.R_drewN | apply Kd.R_drew)); exact HO159.out) hb); have n0_ := Aside0.mk (Kd.V_elder' (by (with_reducible repeat (first | apply Kd.V_alloc | apply Kd.V_drewN | apply Kd.V_drew)); exact HO1.out) (Kd.R_base ho41) hb); have n1_ := Aside0.mk (Kd.R_elder' (by (with_reducible repeat (first | apply Kd.R_alloc | apply Kd.R_drewN | apply Kd.R_drew)); exact HO154.out) (Kd.R_base ho41) hb); have n2_ := Aside0.mk (Kd.N_elder' (by (with_reducible repeat (first | apply Kd.N_alloc | apply Kd.N_drewN | apply Kd.N_drew)); exact HO174.out) (Kd.R_base ho41) hb); have n3_ := Aside0.mk (Kd.R_lower (Kd.R_new' (Kd.R_newM (M := fun k_ => (w.heap.size ≤ k_)) ho41 (below_size (by repeat (first | (with_reducible first | exact HB.out | apply below_alloc | apply pw_below_drewN | apply below_drew1) | exact HB.out))) (fun k_ h_ => h_)) (Kd.R_lt (by (with_reducible repeat (first | apply Kd.R_alloc | apply Kd.R_drewN | apply Kd.R_drew)); exact HO154.out))) (below_size (by repeat (first | (with_reducible first | exact HB.out | apply below_alloc | apply pw_below_drewN | apply below_drew1) | exact HB.out)))); have n4_ := Aside0.mk (below_step (by repeat (first | (with_reducible first | exact HB.out | apply below_alloc | apply pw_below_drewN | apply below_drew1) | exact HB.out)) hb); clear HO1; clear HO154; clear HO174; clear HB; have HO1 := n0_; have HO154 := n1_; have HO174 := n2_; have HO177 := n3_; have HB := n4_; clear n0_ n1_ n2_ n3_ n4_; clear hb ho41))
                    go_loopg [20] k (fun kq v20 w' => ∃ (x20_1 : Int), v20 = .int .i64 x20_1 ∧ Aside0 (scrimlaw14_PadStrips.l0 kq a6 (rd y152 t155) t157 y172 y175 x20_1 = some r) ∧ Aside0 (kq ≤ k) ∧ Aside0 (Kd.R (Kd.int .u8) 5 w' w.heap.size (fun k_ => (w.heap.size ≤ k_)) (.slice Ao31 t157.length co31) t157) ∧ Aside0 (Kd.N (Kd.slice 5 (Kd.int .u8)) 22 w' w.heap.size (fun k_ => (P1_ k_ ∨ w.heap.size ≤ k_) ∧ some k_ ≠ (v176 : Value).ownBlock) v173 y172) ∧ Aside0 (Kd.R (Kd.int .i64) 3 w' w.heap.size (fun k_ => (w.heap.size ≤ k_)) v176 y175) ∧ Aside0 (Below w.heap.size w w'))
                    case atStart => exact ⟨(0), (by first | rfl | (simp; done) | (simp [*]; done)), H', ⟨Nat.le_refl _⟩, ⟨by (with_reducible repeat (first | apply Kd.R_alloc | apply Kd.R_drewN | apply Kd.R_drew)); exact Kd.R_mono (Kd.R_bound HO159.out) (fun _ hk => hk.2.1)⟩, ⟨by (with_reducible repeat (first | apply Kd.N_alloc | apply Kd.N_drewN | apply Kd.N_drew)); exact Kd.N_mono HO174.out (fun _ hk => ⟨hk.1.1, hk.2⟩)⟩, ⟨by (with_reducible repeat (first | apply Kd.R_alloc | apply Kd.R_drewN | apply Kd.R_drew)); exact Kd.R_mono HO177.out (fun _ hk => hk.1.1)⟩, ⟨by repeat (first | (with_reducible first | exact HB.out | apply below_alloc | apply pw_below_drewN | apply below_drew1) | exact HB.out)⟩⟩
                    case round =>
                      clear H'
                      try clear c1
                      try clear p1
                      try clear q1
                      try clear hx1
                      try clear c2
                      try clear p2
                      try clear q2
                      try clear hx2
                      try clear c4
                      try clear c9
                      try clear c10
                      try clear c10b0
                      try clear c10b1
                      try clear c11
                      try clear c13
                      try clear c13b0
                      try clear c14
                      try clear c14b0
                      try clear p15
                      try clear q15
                      try clear hx15
                      try clear c16
                      try clear p16
                      try clear q16
                      try clear hx16
                      try clear c18
                      try clear c18b0
                      try clear c19
                      try clear c19b0
                      try clear p20
                      try clear q20
                      try clear hx20
                      try clear hf20
                      try clear c21
                      try clear c21b0
                      try clear c21b1
                      try clear c22
                      try clear c22b0
                      try clear c22b1
                      try clear hx156_0
                      try clear hx167_0
                      try clear hx20_0
                      try clear p156
                      try clear p167
                      try clear p20
                      try clear q156
                      try clear q167
                      try clear q20
                      obtain ⟨x20_1, rfl, HA, HK1, HO_16, HO_18, HO_19, HB⟩ := hrel
                      cases gk with
                      | zero => exact absurd HA.out (by simp [scrimlaw14_PadStrips.l0])
                      | succ k1 =>
                        have H := HA.out
                        clear HA
                        simp only [scrimlaw14_PadStrips.l0] at H
                        by_cases c42 : x20_1 < (y172.length : Int)
                        · rw [if_pos c42] at H
                          have c42b0 : decide (x20_1 < (y172.length : Int)) = true := decide_eq_true c42
                          clear c42
                          have H' := Aside0.mk H
                          clear H
                          obtain ⟨Ao43, co43, eo43⟩ := Kd.N_slice HO_18.out
                          subst eo43
                          go_wp2
                          go_loopg [21] k1 (fun kq v21 w' => ∃ (x21_2 : Int), v21 = .int .i64 x21_2 ∧ Aside0 (scrimlaw14_PadStrips.l1 kq a6 (rd y152 t155) t157 y172 y175 x20_1 x21_2 = some r) ∧ Aside0 (kq ≤ k1) ∧ Aside0 (Kd.R (Kd.int .u8) 5 w' w.heap.size (fun k_ => (w.heap.size ≤ k_)) (.slice Ao31 t157.length co31) t157) ∧ Aside0 (Kd.N (Kd.slice 5 (Kd.int .u8)) 22 w' w.heap.size (fun k_ => (P1_ k_ ∨ w.heap.size ≤ k_) ∧ some k_ ≠ (v176 : Value).ownBlock) (.slice Ao43 y172.length co43) y172) ∧ Aside0 (Kd.R (Kd.int .i64) 3 w' w.heap.size (fun k_ => (w.heap.size ≤ k_)) v176 y175) ∧ Aside0 (Below w.heap.size w w'))
                          case atStart => exact ⟨(0), (by first | rfl | (simp; done) | (simp [*]; done)), H', ⟨Nat.le_refl _⟩, ⟨by (with_reducible repeat (first | apply Kd.R_alloc | apply Kd.R_drewN | apply Kd.R_drew)); exact HO_16.out⟩, ⟨by (with_reducible repeat (first | apply Kd.N_alloc | apply Kd.N_drewN | apply Kd.N_drew)); exact HO_18.out⟩, ⟨by (with_reducible repeat (first | apply Kd.R_alloc | apply Kd.R_drewN | apply Kd.R_drew)); exact HO_19.out⟩, ⟨by repeat (first | (with_reducible first | exact HB.out | apply below_alloc | apply pw_below_drewN | apply below_drew1) | exact HB.out)⟩⟩
                          case round =>
                            clear H'
                            try clear c1
                            try clear p1
                            try clear q1
                            try clear hx1
                            try clear c2
                            try clear p2
                            try clear q2
                            try clear hx2
                            try clear c4
                            try clear c9
                            try clear c10
                            try clear c10b0
                            try clear c10b1
                            try clear c11
                            try clear c13
                            try clear c13b0
                            try clear c14
                            try clear c14b0
                            try clear p15
                            try clear q15
                            try clear hx15
                            try clear c16
                            try clear p16
                            try clear q16
                            try clear hx16
                            try clear c18
                            try clear c18b0
                            try clear c19
                            try clear c19b0
                            try clear p20
                            try clear q20
                            try clear hx20
                            try clear hf20
                            try clear c21
                            try clear c21b0
                            try clear c21b1
                            try clear c22
                            try clear c22b0
                            try clear c22b1
                            try clear c42
                            try clear c42b0
                            try clear hx156_0
                            try clear hx167_0
                            try clear hx20_0
                            try clear p1
                            try clear p15
                            try clear p156
                            try clear p16
                            try clear p167
                            try clear p2
                            try clear p20
                            try clear q1
                            try clear q15
                            try clear q156
                            try clear q16
                            try clear q167
                            try clear q2
                            try clear q20
                            obtain ⟨x21_2, rfl, HA, HK2, HO_16, HO_18, HO_19, HB⟩ := hrel
                            cases gk with
                            | zero => exact absurd HA.out (by simp [scrimlaw14_PadStrips.l1])
                            | succ k2 =>
                              have H := HA.out
                              clear HA
                              simp only [scrimlaw14_PadStrips.l1] at H
                              by_cases c44 : x21_2 < (y175.length : Int)
                              · rw [if_pos c44] at H
                                have c44b0 : decide (x21_2 < (y175.length : Int)) = true := decide_eq_true c44
                                clear c44
                                by_cases c45 : 0 ≤ x21_2
                                · rw [if_pos c45] at H
                                  have c45b0 : decide (0 ≤ x21_2) = true := decide_eq_true c45
                                  clear c45
                                  by_cases c46 : 0 ≤ x20_1
                                  · rw [if_pos c46] at H
                                    have c46b0 : decide (0 ≤ x20_1) = true := decide_eq_true c46
                                    clear c46
                                    by_cases c47 : x20_1 < (y172.length : Int)
                                    · rw [if_pos c47] at H
                                      have c47b0 : decide (x20_1 < (y172.length : Int)) = true := decide_eq_true c47
                                      clear c47
                                      replace H := Option.bind_eq_some_iff.mp H
                                      obtain ⟨⟨t188, t189⟩, A480, H⟩ := H
                                      replace H : ((scrimref14_Strip.f k2 (rd y175 x21_2) (rd y152 t155) (rd_L1 y172 x20_1)).bind fun bt194 => (if t189 = bt194.2 then (if (strOfNums t188).toList = (strOfNums bt194.1).toList then (scrimlaw14_PadStrips.l1 k2 a6 (rd y152 t155) t157 y172 y175 x20_1 (wrap64 (x21_2 + 1))) else (some false)) else (some false))) = some r := H
                                      have A48 := Aside0.mk A480
                                      clear A480
                                      replace H := Option.bind_eq_some_iff.mp H
                                      obtain ⟨⟨t194, t195⟩, A490, H⟩ := H
                                      replace H : (if t189 = t195 then (if (strOfNums t188).toList = (strOfNums t194).toList then (scrimlaw14_PadStrips.l1 k2 a6 (rd y152 t155) t157 y172 y175 x20_1 (wrap64 (x21_2 + 1))) else (some false)) else (some false)) = some r := H
                                      have A49 := Aside0.mk A490
                                      clear A490
                                      by_cases c50 : t189 = t195
                                      · rw [if_pos c50] at H
                                        have c50b0 : (t189 == t195) = true := beq_iff_eq.mpr c50
                                        have c50b1 : (t189 != t195) = false := bne_eq_false_iff_eq.mpr c50
                                        clear c50
                                        by_cases c51 : (strOfNums t188).toList = (strOfNums t194).toList
                                        · rw [if_pos c51] at H
                                          have c51b0 : ((strOfNums t188).toList == (strOfNums t194).toList) = true := beq_iff_eq.mpr c51
                                          have c51b1 : ((strOfNums t188).toList != (strOfNums t194).toList) = false := bne_eq_false_iff_eq.mpr c51
                                          clear c51
                                          have H' := Aside0.mk H
                                          clear H
                                          obtain ⟨Ao52, co52, eo52⟩ := Kd.R_slice HO_19.out
                                          subst eo52
                                          try go_wp2
                                          have n0_ := Aside0.mk (Kd.R_drew HO_16.out)
                                          have n1_ := Aside0.mk (Kd.N_drew HO_18.out)
                                          have n2_ := Aside0.mk (Kd.R_drew HO_19.out)
                                          have n3_ := Aside0.mk (below_drew1 HB.out)
                                          clear HO_16
                                          clear HO_18
                                          clear HO_19
                                          clear HB
                                          have HO_16 := n0_
                                          have HO_18 := n1_
                                          have HO_19 := n2_
                                          have HB := n3_
                                          clear n0_ n1_ n2_ n3_
                                          have p186 : 0 ≤ (x21_2 : Int) := of_decide_eq_true (by first | (with_reducible assumption) | assumption)
                                          have q186 : x21_2 < (y175.length : Int) := of_decide_eq_true (by first | (with_reducible assumption) | assumption)
                                          obtain ⟨ad186, e186, hx186_0⟩ := Kd.at_int (Kd.R_reads' HO_19.out).2.2 x21_2 p186 q186
                                          cases e186
                                          replace p186 := eq_true p186
                                          replace q186 := eq_true q186
                                          have p187 : 0 ≤ (x20_1 : Int) := of_decide_eq_true (by first | (with_reducible assumption) | assumption)
                                          have q187 : x20_1 < (y172.length : Int) := of_decide_eq_true (by first | (with_reducible assumption) | assumption)
                                          obtain ⟨ad187, A187_0, c187_0, e187, hx187_0, hl187_0, hi187_0⟩ := at_L1 (Kd.N_reads' HO_18.out).2.2 x20_1 p187 q187
                                          cases e187
                                          obtain ⟨ce187, hce187, hMe187, hcc187⟩ := Kd.N_get HO_18.out [] x20_1 p187 (by first | exact q187 | exact of_decide_eq_true (by first | (with_reducible assumption) | assumption) | (have e_ := (Kd.N_reads' HO_18.out).1; omega))
                                          obtain ⟨ua187_0, uc187_0, rfl, ul187_0, ge187_0⟩ := Kd.FK_slice_open hMe187
                                          have hv187_0 := hcc187 0 _ rfl
                                          rw [Nat.add_zero, show ((Kd.slice 5 (Kd.int .u8))).sz = 1 from rfl, Nat.mul_one] at hv187_0
                                          replace hv187_0 := Option.some.inj (hv187_0.symm.trans hx187_0)
                                          injection hv187_0 with hva_ hvn_ hvc_
                                          rw [hva_] at ge187_0
                                          rw [hvc_] at ul187_0
                                          have HL187_0 := Aside0.mk (show Kd.V (Kd.int .u8) 5 _ w.heap.size _ _ (rd_L1 y172 x20_1) from Kd.V_mk ul187_0 ge187_0)
                                          clear hva_ hvn_ hvc_ ge187_0 ul187_0
                                          clear hcc187 hce187
                                          have HR187_0 := Aside0.mk hi187_0
                                          have HC187_0 := Aside0.mk hl187_0
                                          clear hi187_0 hl187_0
                                          replace p187 := eq_true p187
                                          replace q187 := eq_true q187
                                          refine start_ (n := 15) (S := fun w' => w'.cell? (ad186.add (x21_2).toNat) = some (.int .i64 (rd y175 x21_2)) ∧ w'.cell? (ad187.add (x20_1).toNat) = some (.slice A187_0 (rd_L1 y172 x20_1).length c187_0)) (ds := []) #[false, false, false, false, false, false, false, false, false, false, false, false, false, false, false] (by kernel_rfl) rfl rfl ⟨hx186_0, hx187_0⟩ (fun hHeld => ?_); refine with_tabW scrimlaw14_PadStrips.tab17 scrimlaw14_PadStrips.bits17 (fun HT_ HW_ => ?_)
                                          generalize wr.drew = w53 at HO_16 HO_18 HO_19 HB HL187_0 HR187_0 hx186_0 hx187_0 hHeld ⊢
                                          refine pure_ (i := 0) (N := some 78) (v := ?_) (a' := ?_) #[true, false, false, false, false, false, false, false, false, false, false, false, false, false, false] rfl rfl (any_of HT_.out (by kernel_rfl)) (fun _ _ _ h => h) (Or.inl ⟨by rfl, ?_⟩) ?_ ?_
                                          rotate_left
                                          · intro w'
                                            go_simp
                                            with_reducible rfl
                                          rotate_left
                                          · simp only [Act.put, List.setIfInBounds_toArray, List.set_cons_zero, List.set_cons_succ, i64_w, i32_w]
                                            rfl
                                          refine pure_ (i := 1) (N := some 79) (v := ?_) (a' := ?_) #[true, true, false, false, false, false, false, false, false, false, false, false, false, false, false] rfl rfl (any_of HT_.out (by kernel_rfl)) (fun _ _ _ h => h) (Or.inl ⟨by rfl, ?_⟩) ?_ ?_
                                          rotate_left
                                          · intro w'
                                            go_simp
                                            with_reducible rfl
                                          rotate_left
                                          · simp only [Act.put, List.setIfInBounds_toArray, List.set_cons_zero, List.set_cons_succ, i64_w, i32_w]
                                            rfl
                                          refine pure_ (i := 2) (N := some 80) (v := ?_) (a' := ?_) #[true, true, true, false, false, false, false, false, false, false, false, false, false, false, false] rfl rfl (any_of HT_.out (by kernel_rfl)) (fun _ _ _ h => h) (Or.inl ⟨by rfl, ?_⟩) ?_ ?_
                                          rotate_left
                                          · intro w'
                                            go_simp
                                            with_reducible rfl
                                          rotate_left
                                          · simp only [Act.put, List.setIfInBounds_toArray, List.set_cons_zero, List.set_cons_succ, i64_w, i32_w]
                                            rfl
                                          refine pure_ (i := 4) (N := some 82) (v := ?_) (a' := ?_) #[true, true, true, false, true, false, false, false, false, false, false, false, false, false, false] rfl rfl (any_of HT_.out (by kernel_rfl)) (fun _ _ _ h => h) (Or.inl ⟨by rfl, ?_⟩) ?_ ?_
                                          rotate_left
                                          · intro w'
                                            go_simp
                                            with_reducible rfl
                                          rotate_left
                                          · simp only [Act.put, List.setIfInBounds_toArray, List.set_cons_zero, List.set_cons_succ, i64_w, i32_w]
                                            rfl
                                          refine pure_ (i := 5) (N := some 83) (v := ?_) (a' := ?_) #[true, true, true, false, true, true, false, false, false, false, false, false, false, false, false] rfl rfl (any_of HT_.out (by kernel_rfl)) (fun _ _ _ h => h) (Or.inl ⟨by rfl, ?_⟩) ?_ ?_
                                          rotate_left
                                          · intro w'
                                            go_simp
                                            with_reducible rfl
                                          rotate_left
                                          · simp only [Act.put, List.setIfInBounds_toArray, List.set_cons_zero, List.set_cons_succ, i64_w, i32_w]
                                            rfl
                                          refine pure_ (i := 6) (N := some 84) (v := ?_) (a' := ?_) #[true, true, true, false, true, true, true, false, false, false, false, false, false, false, false] rfl rfl (any_of HT_.out (by kernel_rfl)) (fun _ _ _ h => h) (Or.inl ⟨by rfl, ?_⟩) ?_ ?_
                                          rotate_left
                                          · intro w'
                                            go_simp
                                            with_reducible rfl
                                          rotate_left
                                          · simp only [Act.put, List.setIfInBounds_toArray, List.set_cons_zero, List.set_cons_succ, i64_w, i32_w]
                                            rfl
                                          refine pure_ (i := 7) (N := some 85) (v := ?_) (a' := ?_) #[true, true, true, false, true, true, true, true, false, false, false, false, false, false, false] rfl rfl (any_of HT_.out (by kernel_rfl)) (fun _ _ _ h => h) (Or.inl ⟨by rfl, ?_⟩) ?_ ?_
                                          rotate_left
                                          · intro w'
                                            go_simp
                                            with_reducible rfl
                                          rotate_left
                                          · simp only [Act.put, List.setIfInBounds_toArray, List.set_cons_zero, List.set_cons_succ, i64_w, i32_w]
                                            rfl
                                          refine take_ (i := 3) (N := some 81) (v := ?_) (a' := ?_) #[true, true, true, true, true, true, true, true, false, false, false, false, false, false, false] rfl rfl (take_ofW HT_.out HW_.out (by kernel_rfl)) (fun _ _ _ h => h) (Or.inl ⟨by rfl, ?_⟩) hHeld ?_ ?_
                                          rotate_left
                                          · rintro w' ⟨s0, s1⟩
                                            go_simp
                                            with_reducible rfl
                                          rotate_left
                                          · simp only [Act.put, List.setIfInBounds_toArray, List.set_cons_zero, List.set_cons_succ, i64_w, i32_w]
                                            rfl
                                          refine take_ (i := 8) (N := some 86) (v := ?_) (a' := ?_) #[true, true, true, true, true, true, true, true, true, false, false, false, false, false, false] rfl rfl (take_ofW HT_.out HW_.out (by kernel_rfl)) (fun _ _ _ h => h) (Or.inl ⟨by rfl, ?_⟩) hHeld ?_ ?_
                                          rotate_left
                                          · rintro w' ⟨s0, s1⟩
                                            go_simp
                                            with_reducible rfl
                                          rotate_left
                                          · simp only [Act.put, List.setIfInBounds_toArray, List.set_cons_zero, List.set_cons_succ, i64_w, i32_w]
                                            rfl
                                          refine one_ (i := 9) (N := some 87) #[true, true, true, true, true, true, true, true, true, true, false, false, false, false, false] rfl rfl (one_of HT_.out (by kernel_rfl)) (by decide) (fun K hK => ?_)
                                          refine goes_ Try.func15 (by kernel_rfl) rfl #[.int .i64 (rd y175 x21_2), .int .i64 (rd y152 t155), .slice A187_0 (rd_L1 y172 x20_1).length c187_0] (by rfl) rfl rfl (by (try simp only [List.map_toArray, List.map_cons, List.map_nil]); first | done | rfl | (simp only [List.length_drop, List.length_take]; rfl)) ?_
                                          with_reducible refine (pad_Strip.calls k2 (rd y175 x21_2) (rd y152 t155) _ _ (rd_L1 y172 x20_1) t188 t189 _ ?side1 ?side2 A48.out).mono ?_
                                          (case side1 => repeat (first | exact (by repeat (first | (with_reducible exact HR187_0.out) | (with_reducible refine Kd.C_alloc ?_ _) | (with_reducible refine Kd.C_drewN ?_ _) | (with_reducible refine Kd.C_drew ?_) | exact HR187_0.out)) | (with_reducible refine Kd.C_alloc ?_ _) | (with_reducible refine Kd.C_drewN ?_ _) | (with_reducible refine Kd.C_drew ?_)))
                                          (case side2 => exact HC187_0.out)
                                          rintro e w54 ⟨v190, rfl, ho0, hb⟩
                                          have HS0_ := (hb.cell (World.block_lt_of_cell? _ _ (hHeld.1))).trans (hHeld.1)
                                          have HS1_ := (hb.cell (World.block_lt_of_cell? _ _ (hHeld.2))).trans (hHeld.2)
                                          refine ⟨_, rfl, ?_⟩
                                          have n0_ := Aside0.mk (Kd.R_elder' (by (with_reducible repeat (first | apply Kd.R_alloc | apply Kd.R_drewN | apply Kd.R_drew)); exact HO_16.out) (Kd.R_base ho0) hb)
                                          have n1_ := Aside0.mk (Kd.N_elder' (by (with_reducible repeat (first | apply Kd.N_alloc | apply Kd.N_drewN | apply Kd.N_drew)); exact HO_18.out) (Kd.R_base ho0) hb)
                                          have n2_ := Aside0.mk (Kd.R_below (by (with_reducible repeat (first | apply Kd.R_alloc | apply Kd.R_drewN | apply Kd.R_drew)); exact HO_19.out) hb)
                                          have n3_ := Aside0.mk (Kd.V_elder' (by (with_reducible repeat (first | apply Kd.V_alloc | apply Kd.V_drewN | apply Kd.V_drew)); exact HL187_0.out) (Kd.R_base ho0) hb)
                                          have n4_ := Aside0.mk (Kd.R_lower (Kd.R_new' (Kd.R_newM (M := fun k_ => (w.heap.size ≤ k_)) ho0 (below_size (by repeat (first | (with_reducible first | exact HB.out | apply below_alloc | apply pw_below_drewN | apply below_drew1) | exact HB.out))) (fun k_ h_ => h_)) (Kd.R_lt (by (with_reducible repeat (first | apply Kd.R_alloc | apply Kd.R_drewN | apply Kd.R_drew)); exact HO_16.out))) (below_size (by repeat (first | (with_reducible first | exact HB.out | apply below_alloc | apply pw_below_drewN | apply below_drew1) | exact HB.out))))
                                          have n5_ := Aside0.mk (Kd.C_below (by repeat (first | (with_reducible exact HR187_0.out) | (with_reducible refine Kd.C_alloc ?_ _) | (with_reducible refine Kd.C_drewN ?_ _) | (with_reducible refine Kd.C_drew ?_) | exact HR187_0.out)) hb)
                                          have n6_ := Aside0.mk (below_step (by repeat (first | (with_reducible first | exact HB.out | apply below_alloc | apply pw_below_drewN | apply below_drew1) | exact HB.out)) hb)
                                          clear HO_16
                                          clear HO_18
                                          clear HO_19
                                          clear HL187_0
                                          clear HR187_0
                                          clear HB
                                          have HO_16 := n0_
                                          have HO_18 := n1_
                                          have HO_19 := n2_
                                          have HL187_0 := n3_
                                          have HO191 := n4_
                                          have HR187_0 := n5_
                                          have HB := n6_
                                          clear n0_ n1_ n2_ n3_ n4_ n5_ n6_
                                          (try clear hb)
                                          (try clear hb2)
                                          (try clear hk)
                                          (try clear hi)
                                          (try clear ho0)
                                          refine hK.out _ _ ⟨HS0_, HS1_⟩ (fun hHeld => ?_)
                                          clear hK K
                                          refine norm_ (a' := ?_) ?_ ?_
                                          rotate_left
                                          · show Act.put _ (some 87) _ = _
                                            simp only [Act.put, List.setIfInBounds_toArray, List.set_cons_zero, List.set_cons_succ, i64_w, i32_w]
                                            rfl
                                          refine pure_ (i := 10) (N := some 77) (v := ?_) (a' := ?_) #[true, true, true, true, true, true, true, true, true, true, true, false, false, false, false] rfl rfl (any_of HT_.out (by kernel_rfl)) (fun _ _ _ h => h) (Or.inl ⟨by rfl, ?_⟩) ?_ ?_
                                          rotate_left
                                          · intro w'
                                            go_simp
                                            with_reducible rfl
                                          rotate_left
                                          · simp only [Act.put, List.setIfInBounds_toArray, List.set_cons_zero, List.set_cons_succ, i64_w, i32_w]
                                            rfl
                                          refine pure_ (i := 11) (N := some 88) (v := ?_) (a' := ?_) #[true, true, true, true, true, true, true, true, true, true, true, true, false, false, false] rfl rfl (any_of HT_.out (by kernel_rfl)) (fun _ _ _ h => h) (Or.inl ⟨by rfl, ?_⟩) ?_ ?_
                                          rotate_left
                                          · intro w'
                                            go_simp
                                            with_reducible rfl
                                          rotate_left
                                          · simp only [Act.put, List.setIfInBounds_toArray, List.set_cons_zero, List.set_cons_succ, i64_w, i32_w]
                                            rfl
                                          refine pure_ (i := 12) (N := some 89) (v := ?_) (a' := ?_) #[true, true, true, true, true, true, true, true, true, true, true, true, true, false, false] rfl rfl (any_of HT_.out (by kernel_rfl)) (fun _ _ _ h => h) (Or.inl ⟨by rfl, ?_⟩) ?_ ?_
                                          rotate_left
                                          · intro w'
                                            go_simp
                                            with_reducible rfl
                                          rotate_left
                                          · simp only [Act.put, List.setIfInBounds_toArray, List.set_cons_zero, List.set_cons_succ, i64_w, i32_w]
                                            rfl
                                          refine pure_ (i := 13) (N := some 22) (v := ?_) (a' := ?_) #[true, true, true, true, true, true, true, true, true, true, true, true, true, true, false] rfl rfl (any_of HT_.out (by kernel_rfl)) (fun _ _ _ h => h) (Or.inl ⟨by rfl, ?_⟩) ?_ ?_
                                          rotate_left
                                          · intro w'
                                            go_simp
                                            with_reducible rfl
                                          rotate_left
                                          · simp only [Act.put, List.setIfInBounds_toArray, List.set_cons_zero, List.set_cons_succ, i64_w, i32_w]
                                            rfl
                                          refine pure_ (i := 14) (N := some 23) (v := ?_) (a' := ?_) #[true, true, true, true, true, true, true, true, true, true, true, true, true, true, true] rfl rfl (any_of HT_.out (by kernel_rfl)) (fun _ _ _ h => h) (Or.inl ⟨by rfl, ?_⟩) ?_ ?_
                                          rotate_left
                                          · intro w'
                                            go_simp
                                            with_reducible rfl
                                          rotate_left
                                          · simp only [Act.put, List.setIfInBounds_toArray, List.set_cons_zero, List.set_cons_succ, i64_w, i32_w]
                                            rfl
                                          refine done_ (done_of HT_.out (by kernel_rfl)) ?_
                                          try go_wp2
                                          have n0_ := Aside0.mk (Kd.R_drew HO_16.out)
                                          have n1_ := Aside0.mk (Kd.N_drew HO_18.out)
                                          have n2_ := Aside0.mk (Kd.R_drew HO_19.out)
                                          have n3_ := Aside0.mk (Kd.V_drew HL187_0.out)
                                          have n4_ := Aside0.mk (Kd.R_drew HO191.out)
                                          have n5_ := Aside0.mk (Kd.C_drew HR187_0.out)
                                          have n6_ := Aside0.mk (below_drew1 HB.out)
                                          clear HO_16
                                          clear HO_18
                                          clear HO_19
                                          clear HL187_0
                                          clear HO191
                                          clear HR187_0
                                          clear HB
                                          have HO_16 := n0_
                                          have HO_18 := n1_
                                          have HO_19 := n2_
                                          have HL187_0 := n3_
                                          have HO191 := n4_
                                          have HR187_0 := n5_
                                          have HB := n6_
                                          clear n0_ n1_ n2_ n3_ n4_ n5_ n6_
                                          have p192 : 0 ≤ (x21_2 : Int) := of_decide_eq_true (by first | (with_reducible assumption) | assumption)
                                          have q192 : x21_2 < (y175.length : Int) := of_decide_eq_true (by first | (with_reducible assumption) | assumption)
                                          obtain ⟨ad192, e192, hx192_0⟩ := Kd.at_int (Kd.R_reads' HO_19.out).2.2 x21_2 p192 q192
                                          obtain rfl : ad186 = ad192 := (by injection e192)
                                          replace p192 := eq_true p192
                                          replace q192 := eq_true q192
                                          have p193 : 0 ≤ (x20_1 : Int) := of_decide_eq_true (by first | (with_reducible assumption) | assumption)
                                          have q193 : x20_1 < (y172.length : Int) := of_decide_eq_true (by first | (with_reducible assumption) | assumption)
                                          obtain ⟨ad193, A193_0, c193_0, e193, hx193_0, hl193_0, hi193_0⟩ := at_L1 (Kd.N_reads' HO_18.out).2.2 x20_1 p193 q193
                                          obtain rfl : ad187 = ad193 := (by injection e193)
                                          obtain ⟨ce193, hce193, hMe193, hcc193⟩ := Kd.N_get HO_18.out [] x20_1 p193 (by first | exact q193 | exact of_decide_eq_true (by first | (with_reducible assumption) | assumption) | (have e_ := (Kd.N_reads' HO_18.out).1; omega))
                                          obtain ⟨ua193_0, uc193_0, rfl, ul193_0, ge193_0⟩ := Kd.FK_slice_open hMe193
                                          have hv193_0 := hcc193 0 _ rfl
                                          rw [Nat.add_zero, show ((Kd.slice 5 (Kd.int .u8))).sz = 1 from rfl, Nat.mul_one] at hv193_0
                                          replace hv193_0 := Option.some.inj (hv193_0.symm.trans hx193_0)
                                          injection hv193_0 with hva_ hvn_ hvc_
                                          rw [hva_] at ge193_0
                                          rw [hvc_] at ul193_0
                                          have HL193_0 := Aside0.mk (show Kd.V (Kd.int .u8) 5 _ w.heap.size _ _ (rd_L1 y172 x20_1) from Kd.V_mk ul193_0 ge193_0)
                                          clear hva_ hvn_ hvc_ ge193_0 ul193_0
                                          clear hcc193 hce193
                                          have HR193_0 := Aside0.mk hi193_0
                                          have HC193_0 := Aside0.mk hl193_0
                                          clear hi193_0 hl193_0
                                          replace p193 := eq_true p193
                                          replace q193 := eq_true q193
                                          refine start_ (n := 15) (S := fun w' => w'.cell? (ad186.add (x21_2).toNat) = some (.int .i64 (rd y175 x21_2)) ∧ w'.cell? (ad187.add (x20_1).toNat) = some (.slice A193_0 (rd_L1 y172 x20_1).length c193_0)) (ds := []) #[false, false, false, false, false, false, false, false, false, false, false, false, false, false, false] (by kernel_rfl) rfl rfl ⟨hx192_0, hx193_0⟩ (fun hHeld => ?_); refine with_tabW scrimlaw14_PadStrips.tab18 scrimlaw14_PadStrips.bits18 (fun HT_ HW_ => ?_)
                                          generalize w54.drew = w55 at HO_16 HO_18 HO_19 HL187_0 HO191 HR187_0 HB HL193_0 HR193_0 hx192_0 hx193_0 hHeld ⊢
                                          refine pure_ (i := 0) (N := some 91) (v := ?_) (a' := ?_) #[true, false, false, false, false, false, false, false, false, false, false, false, false, false, false] rfl rfl (any_of HT_.out (by kernel_rfl)) (fun _ _ _ h => h) (Or.inl ⟨by rfl, ?_⟩) ?_ ?_
                                          rotate_left
                                          · intro w'
                                            go_simp
                                            with_reducible rfl
                                          rotate_left
                                          · simp only [Act.put, List.setIfInBounds_toArray, List.set_cons_zero, List.set_cons_succ, i64_w, i32_w]
                                            rfl
                                          refine pure_ (i := 1) (N := some 92) (v := ?_) (a' := ?_) #[true, true, false, false, false, false, false, false, false, false, false, false, false, false, false] rfl rfl (any_of HT_.out (by kernel_rfl)) (fun _ _ _ h => h) (Or.inl ⟨by rfl, ?_⟩) ?_ ?_
                                          rotate_left
                                          · intro w'
                                            go_simp
                                            with_reducible rfl
                                          rotate_left
                                          · simp only [Act.put, List.setIfInBounds_toArray, List.set_cons_zero, List.set_cons_succ, i64_w, i32_w]
                                            rfl
                                          refine pure_ (i := 2) (N := some 93) (v := ?_) (a' := ?_) #[true, true, true, false, false, false, false, false, false, false, false, false, false, false, false] rfl rfl (any_of HT_.out (by kernel_rfl)) (fun _ _ _ h => h) (Or.inl ⟨by rfl, ?_⟩) ?_ ?_
                                          rotate_left
                                          · intro w'
                                            go_simp
                                            with_reducible rfl
                                          rotate_left
                                          · simp only [Act.put, List.setIfInBounds_toArray, List.set_cons_zero, List.set_cons_succ, i64_w, i32_w]
                                            rfl
                                          refine pure_ (i := 4) (N := some 95) (v := ?_) (a' := ?_) #[true, true, true, false, true, false, false, false, false, false, false, false, false, false, false] rfl rfl (any_of HT_.out (by kernel_rfl)) (fun _ _ _ h => h) (Or.inl ⟨by rfl, ?_⟩) ?_ ?_
                                          rotate_left
                                          · intro w'
                                            go_simp
                                            with_reducible rfl
                                          rotate_left
                                          · simp only [Act.put, List.setIfInBounds_toArray, List.set_cons_zero, List.set_cons_succ, i64_w, i32_w]
                                            rfl
                                          refine pure_ (i := 5) (N := some 96) (v := ?_) (a' := ?_) #[true, true, true, false, true, true, false, false, false, false, false, false, false, false, false] rfl rfl (any_of HT_.out (by kernel_rfl)) (fun _ _ _ h => h) (Or.inl ⟨by rfl, ?_⟩) ?_ ?_
                                          rotate_left
                                          · intro w'
                                            go_simp
                                            with_reducible rfl
                                          rotate_left
                                          · simp only [Act.put, List.setIfInBounds_toArray, List.set_cons_zero, List.set_cons_succ, i64_w, i32_w]
                                            rfl
                                          refine pure_ (i := 6) (N := some 97) (v := ?_) (a' := ?_) #[true, true, true, false, true, true, true, false, false, false, false, false, false, false, false] rfl rfl (any_of HT_.out (by kernel_rfl)) (fun _ _ _ h => h) (Or.inl ⟨by rfl, ?_⟩) ?_ ?_
                                          rotate_left
                                          · intro w'
                                            go_simp
                                            with_reducible rfl
                                          rotate_left
                                          · simp only [Act.put, List.setIfInBounds_toArray, List.set_cons_zero, List.set_cons_succ, i64_w, i32_w]
                                            rfl
                                          refine pure_ (i := 7) (N := some 98) (v := ?_) (a' := ?_) #[true, true, true, false, true, true, true, true, false, false, false, false, false, false, false] rfl rfl (any_of HT_.out (by kernel_rfl)) (fun _ _ _ h => h) (Or.inl ⟨by rfl, ?_⟩) ?_ ?_
                                          rotate_left
                                          · intro w'
                                            go_simp
                                            with_reducible rfl
                                          rotate_left
                                          · simp only [Act.put, List.setIfInBounds_toArray, List.set_cons_zero, List.set_cons_succ, i64_w, i32_w]
                                            rfl
                                          refine take_ (i := 3) (N := some 94) (v := ?_) (a' := ?_) #[true, true, true, true, true, true, true, true, false, false, false, false, false, false, false] rfl rfl (take_ofW HT_.out HW_.out (by kernel_rfl)) (fun _ _ _ h => h) (Or.inl ⟨by rfl, ?_⟩) hHeld ?_ ?_
                                          rotate_left
                                          · rintro w' ⟨s0, s1⟩
                                            go_simp
                                            with_reducible rfl
                                          rotate_left
                                          · simp only [Act.put, List.setIfInBounds_toArray, List.set_cons_zero, List.set_cons_succ, i64_w, i32_w]
                                            rfl
                                          refine take_ (i := 8) (N := some 99) (v := ?_) (a' := ?_) #[true, true, true, true, true, true, true, true, true, false, false, false, false, false, false] rfl rfl (take_ofW HT_.out HW_.out (by kernel_rfl)) (fun _ _ _ h => h) (Or.inl ⟨by rfl, ?_⟩) hHeld ?_ ?_
                                          rotate_left
                                          · rintro w' ⟨s0, s1⟩
                                            go_simp
                                            with_reducible rfl
                                          rotate_left
                                          · simp only [Act.put, List.setIfInBounds_toArray, List.set_cons_zero, List.set_cons_succ, i64_w, i32_w]
                                            rfl
                                          refine one_ (i := 9) (N := some 100) #[true, true, true, true, true, true, true, true, true, true, false, false, false, false, false] rfl rfl (one_of HT_.out (by kernel_rfl)) (by decide) (fun K hK => ?_)
                                          refine goes_ Try.func16 (by kernel_rfl) rfl #[.int .i64 (rd y175 x21_2), .int .i64 (rd y152 t155), .slice A193_0 (rd_L1 y172 x20_1).length c193_0] (by rfl) rfl rfl (by (try simp only [List.map_toArray, List.map_cons, List.map_nil]); first | done | rfl | (simp only [List.length_drop, List.length_take]; rfl)) ?_
                                          with_reducible refine (scrimref14_Strip.calls k2 (rd y175 x21_2) (rd y152 t155) _ _ (rd_L1 y172 x20_1) t194 t195 _ ?side1 ?side2 A49.out).mono ?_
                                          (case side1 => repeat (first | exact (by repeat (first | (with_reducible exact HR193_0.out) | (with_reducible refine Kd.C_alloc ?_ _) | (with_reducible refine Kd.C_drewN ?_ _) | (with_reducible refine Kd.C_drew ?_) | exact HR193_0.out)) | (with_reducible refine Kd.C_alloc ?_ _) | (with_reducible refine Kd.C_drewN ?_ _) | (with_reducible refine Kd.C_drew ?_)))
                                          (case side2 => exact HC193_0.out)
                                          rintro e w56 ⟨v196, rfl, ho0, hb⟩
                                          have HS0_ := (hb.cell (World.block_lt_of_cell? _ _ (hHeld.1))).trans (hHeld.1)
                                          have HS1_ := (hb.cell (World.block_lt_of_cell? _ _ (hHeld.2))).trans (hHeld.2)
                                          refine ⟨_, rfl, ?_⟩
                                          have n0_ := Aside0.mk (Kd.R_elder' (by (with_reducible repeat (first | apply Kd.R_alloc | apply Kd.R_drewN | apply Kd.R_drew)); exact HO_16.out) (Kd.R_base ho0) hb)
                                          have n1_ := Aside0.mk (Kd.N_elder' (by (with_reducible repeat (first | apply Kd.N_alloc | apply Kd.N_drewN | apply Kd.N_drew)); exact HO_18.out) (Kd.R_base ho0) hb)
                                          have n2_ := Aside0.mk (Kd.R_below (by (with_reducible repeat (first | apply Kd.R_alloc | apply Kd.R_drewN | apply Kd.R_drew)); exact HO_19.out) hb)
                                          have n3_ := Aside0.mk (Kd.V_elder' (by (with_reducible repeat (first | apply Kd.V_alloc | apply Kd.V_drewN | apply Kd.V_drew)); exact HL187_0.out) (Kd.R_base ho0) hb)
                                          have n4_ := Aside0.mk (Kd.R_elder' (by (with_reducible repeat (first | apply Kd.R_alloc | apply Kd.R_drewN | apply Kd.R_drew)); exact HO191.out) (Kd.R_base ho0) hb)
                                          have n5_ := Aside0.mk (Kd.V_elder' (by (with_reducible repeat (first | apply Kd.V_alloc | apply Kd.V_drewN | apply Kd.V_drew)); exact HL193_0.out) (Kd.R_base ho0) hb)
                                          have n6_ := Aside0.mk (Kd.R_lower (Kd.R_new' (Kd.R_new' (Kd.R_newM (M := fun k_ => (w.heap.size ≤ k_)) ho0 (below_size (by repeat (first | (with_reducible first | exact HB.out | apply below_alloc | apply pw_below_drewN | apply below_drew1) | exact HB.out))) (fun k_ h_ => h_)) (Kd.R_lt (by (with_reducible repeat (first | apply Kd.R_alloc | apply Kd.R_drewN | apply Kd.R_drew)); exact HO_16.out))) (Kd.R_lt (by (with_reducible repeat (first | apply Kd.R_alloc | apply Kd.R_drewN | apply Kd.R_drew)); exact HO191.out))) (below_size (by repeat (first | (with_reducible first | exact HB.out | apply below_alloc | apply pw_below_drewN | apply below_drew1) | exact HB.out))))
                                          have n7_ := Aside0.mk (Kd.C_below (by repeat (first | (with_reducible exact HR187_0.out) | (with_reducible refine Kd.C_alloc ?_ _) | (with_reducible refine Kd.C_drewN ?_ _) | (with_reducible refine Kd.C_drew ?_) | exact HR187_0.out)) hb)
                                          have n8_ := Aside0.mk (Kd.C_below (by repeat (first | (with_reducible exact HR193_0.out) | (with_reducible refine Kd.C_alloc ?_ _) | (with_reducible refine Kd.C_drewN ?_ _) | (with_reducible refine Kd.C_drew ?_) | exact HR193_0.out)) hb)
                                          have n9_ := Aside0.mk (below_step (by repeat (first | (with_reducible first | exact HB.out | apply below_alloc | apply pw_below_drewN | apply below_drew1) | exact HB.out)) hb)
                                          clear HO_16
                                          clear HO_18
                                          clear HO_19
                                          clear HL187_0
                                          clear HO191
                                          clear HL193_0
                                          clear HR187_0
                                          clear HR193_0
                                          clear HB
                                          have HO_16 := n0_
                                          have HO_18 := n1_
                                          have HO_19 := n2_
                                          have HL187_0 := n3_
                                          have HO191 := n4_
                                          have HL193_0 := n5_
                                          have HO197 := n6_
                                          have HR187_0 := n7_
                                          have HR193_0 := n8_
                                          have HB := n9_
                                          clear n0_ n1_ n2_ n3_ n4_ n5_ n6_ n7_ n8_ n9_
                                          (try clear hb)
                                          (try clear hb2)
                                          (try clear hk)
                                          (try clear hi)
                                          (try clear ho0)
                                          refine hK.out _ _ ⟨HS0_, HS1_⟩ (fun hHeld => ?_)
                                          clear hK K
                                          refine norm_ (a' := ?_) ?_ ?_
                                          rotate_left
                                          · show Act.put _ (some 100) _ = _
                                            simp only [Act.put, List.setIfInBounds_toArray, List.set_cons_zero, List.set_cons_succ, i64_w, i32_w]
                                            rfl
                                          refine pure_ (i := 10) (N := some 90) (v := ?_) (a' := ?_) #[true, true, true, true, true, true, true, true, true, true, true, false, false, false, false] rfl rfl (any_of HT_.out (by kernel_rfl)) (fun _ _ _ h => h) (Or.inl ⟨by rfl, ?_⟩) ?_ ?_
                                          rotate_left
                                          · intro w'
                                            go_simp
                                            with_reducible rfl
                                          rotate_left
                                          · simp only [Act.put, List.setIfInBounds_toArray, List.set_cons_zero, List.set_cons_succ, i64_w, i32_w]
                                            rfl
                                          refine pure_ (i := 11) (N := some 101) (v := ?_) (a' := ?_) #[true, true, true, true, true, true, true, true, true, true, true, true, false, false, false] rfl rfl (any_of HT_.out (by kernel_rfl)) (fun _ _ _ h => h) (Or.inl ⟨by rfl, ?_⟩) ?_ ?_
                                          rotate_left
                                          · intro w'
                                            go_simp
                                            with_reducible rfl
                                          rotate_left
                                          · simp only [Act.put, List.setIfInBounds_toArray, List.set_cons_zero, List.set_cons_succ, i64_w, i32_w]
                                            rfl
                                          refine pure_ (i := 12) (N := some 102) (v := ?_) (a' := ?_) #[true, true, true, true, true, true, true, true, true, true, true, true, true, false, false] rfl rfl (any_of HT_.out (by kernel_rfl)) (fun _ _ _ h => h) (Or.inl ⟨by rfl, ?_⟩) ?_ ?_
                                          rotate_left
                                          · intro w'
                                            go_simp
                                            with_reducible rfl
                                          rotate_left
                                          · simp only [Act.put, List.setIfInBounds_toArray, List.set_cons_zero, List.set_cons_succ, i64_w, i32_w]
                                            rfl
                                          refine pure_ (i := 13) (N := some 24) (v := ?_) (a' := ?_) #[true, true, true, true, true, true, true, true, true, true, true, true, true, true, false] rfl rfl (any_of HT_.out (by kernel_rfl)) (fun _ _ _ h => h) (Or.inl ⟨by rfl, ?_⟩) ?_ ?_
                                          rotate_left
                                          · intro w'
                                            go_simp
                                            with_reducible rfl
                                          rotate_left
                                          · simp only [Act.put, List.setIfInBounds_toArray, List.set_cons_zero, List.set_cons_succ, i64_w, i32_w]
                                            rfl
                                          refine pure_ (i := 14) (N := some 25) (v := ?_) (a' := ?_) #[true, true, true, true, true, true, true, true, true, true, true, true, true, true, true] rfl rfl (any_of HT_.out (by kernel_rfl)) (fun _ _ _ h => h) (Or.inl ⟨by rfl, ?_⟩) ?_ ?_
                                          rotate_left
                                          · intro w'
                                            go_simp
                                            with_reducible rfl
                                          rotate_left
                                          · simp only [Act.put, List.setIfInBounds_toArray, List.set_cons_zero, List.set_cons_succ, i64_w, i32_w]
                                            rfl
                                          refine done_ (done_of HT_.out (by kernel_rfl)) ?_
                                          have hcv57 := own_string (P := Try.prog) Try.underlying22 Try.underlying5 Try.underlying9 (Kd.own_of_R HO191.out)
                                          have hcv58 := own_string (P := Try.prog) Try.underlying22 Try.underlying5 Try.underlying9 (Kd.own_of_R HO197.out)
                                          try go_wp2
                                          go_roundg k2
                                          case measure => have := HK1.out; have := HK2.out; omega
                                          case rel => exact ⟨(wrap64 (x21_2 + 1)), (by first | rfl | (simp; done) | (simp [*]; done)), H', ⟨by have := HK1.out; have := HK2.out; omega⟩, ⟨by (with_reducible repeat (first | apply Kd.R_alloc | apply Kd.R_drewN | apply Kd.R_drew)); exact Kd.R_mono HO_16.out (fun _ hk => hk.1.1)⟩, ⟨by (with_reducible repeat (first | apply Kd.N_alloc | apply Kd.N_drewN | apply Kd.N_drew)); exact Kd.N_mono HO_18.out (fun _ hk => ⟨hk.1.1.1, hk.1.1.2⟩)⟩, ⟨by (with_reducible repeat (first | apply Kd.R_alloc | apply Kd.R_drewN | apply Kd.R_drew)); exact HO_19.out⟩, ⟨by repeat (first | (with_reducible first | exact HB.out | apply below_alloc | apply pw_below_drewN | apply below_drew1) | exact HB.out)⟩⟩
                                        · rw [if_neg c51] at H
                                          have c51b0 : ((strOfNums t188).toList == (strOfNums t194).toList) = false := beq_eq_false_iff_ne.mpr c51
                                          have c51b1 : ((strOfNums t188).toList != (strOfNums t194).toList) = true := bne_iff_ne.mpr c51
                                          obtain rfl := Option.some.inj H
                                          obtain ⟨Ao59, co59, eo59⟩ := Kd.R_slice HO_19.out
                                          subst eo59
                                          try go_wp2
                                          have n0_ := Aside0.mk (Kd.R_drew HO_16.out)
                                          have n1_ := Aside0.mk (Kd.N_drew HO_18.out)
                                          have n2_ := Aside0.mk (Kd.R_drew HO_19.out)
                                          have n3_ := Aside0.mk (below_drew1 HB.out)
                                          clear HO_16
                                          clear HO_18
                                          clear HO_19
                                          clear HB
                                          have HO_16 := n0_
                                          have HO_18 := n1_
                                          have HO_19 := n2_
                                          have HB := n3_
                                          clear n0_ n1_ n2_ n3_
                                          have p186 : 0 ≤ (x21_2 : Int) := of_decide_eq_true (by first | (with_reducible assumption) | assumption)
                                          have q186 : x21_2 < (y175.length : Int) := of_decide_eq_true (by first | (with_reducible assumption) | assumption)
                                          obtain ⟨ad186, e186, hx186_0⟩ := Kd.at_int (Kd.R_reads' HO_19.out).2.2 x21_2 p186 q186
                                          cases e186
                                          replace p186 := eq_true p186
                                          replace q186 := eq_true q186
                                          have p187 : 0 ≤ (x20_1 : Int) := of_decide_eq_true (by first | (with_reducible assumption) | assumption)
                                          have q187 : x20_1 < (y172.length : Int) := of_decide_eq_true (by first | (with_reducible assumption) | assumption)
                                          obtain ⟨ad187, A187_0, c187_0, e187, hx187_0, hl187_0, hi187_0⟩ := at_L1 (Kd.N_reads' HO_18.out).2.2 x20_1 p187 q187
                                          cases e187
                                          obtain ⟨ce187, hce187, hMe187, hcc187⟩ := Kd.N_get HO_18.out [] x20_1 p187 (by first | exact q187 | exact of_decide_eq_true (by first | (with_reducible assumption) | assumption) | (have e_ := (Kd.N_reads' HO_18.out).1; omega))
                                          obtain ⟨ua187_0, uc187_0, rfl, ul187_0, ge187_0⟩ := Kd.FK_slice_open hMe187
                                          have hv187_0 := hcc187 0 _ rfl
                                          rw [Nat.add_zero, show ((Kd.slice 5 (Kd.int .u8))).sz = 1 from rfl, Nat.mul_one] at hv187_0
                                          replace hv187_0 := Option.some.inj (hv187_0.symm.trans hx187_0)
                                          injection hv187_0 with hva_ hvn_ hvc_
                                          rw [hva_] at ge187_0
                                          rw [hvc_] at ul187_0
                                          have HL187_0 := Aside0.mk (show Kd.V (Kd.int .u8) 5 _ w.heap.size _ _ (rd_L1 y172 x20_1) from Kd.V_mk ul187_0 ge187_0)
                                          clear hva_ hvn_ hvc_ ge187_0 ul187_0
                                          clear hcc187 hce187
                                          have HR187_0 := Aside0.mk hi187_0
                                          have HC187_0 := Aside0.mk hl187_0
                                          clear hi187_0 hl187_0
                                          replace p187 := eq_true p187
                                          replace q187 := eq_true q187
                                          refine start_ (n := 15) (S := fun w' => w'.cell? (ad186.add (x21_2).toNat) = some (.int .i64 (rd y175 x21_2)) ∧ w'.cell? (ad187.add (x20_1).toNat) = some (.slice A187_0 (rd_L1 y172 x20_1).length c187_0)) (ds := []) #[false, false, false, false, false, false, false, false, false, false, false, false, false, false, false] (by kernel_rfl) rfl rfl ⟨hx186_0, hx187_0⟩ (fun hHeld => ?_); refine with_tabW scrimlaw14_PadStrips.tab17 scrimlaw14_PadStrips.bits17 (fun HT_ HW_ => ?_)
                                          generalize wr.drew = w60 at HO_16 HO_18 HO_19 HB HL187_0 HR187_0 hx186_0 hx187_0 hHeld ⊢
                                          refine pure_ (i := 0) (N := some 78) (v := ?_) (a' := ?_) #[true, false, false, false, false, false, false, false, false, false, false, false, false, false, false] rfl rfl (any_of HT_.out (by kernel_rfl)) (fun _ _ _ h => h) (Or.inl ⟨by rfl, ?_⟩) ?_ ?_
                                          rotate_left
                                          · intro w'
                                            go_simp
                                            with_reducible rfl
                                          rotate_left
                                          · simp only [Act.put, List.setIfInBounds_toArray, List.set_cons_zero, List.set_cons_succ, i64_w, i32_w]
                                            rfl
                                          refine pure_ (i := 1) (N := some 79) (v := ?_) (a' := ?_) #[true, true, false, false, false, false, false, false, false, false, false, false, false, false, false] rfl rfl (any_of HT_.out (by kernel_rfl)) (fun _ _ _ h => h) (Or.inl ⟨by rfl, ?_⟩) ?_ ?_
                                          rotate_left
                                          · intro w'
                                            go_simp
                                            with_reducible rfl
                                          rotate_left
                                          · simp only [Act.put, List.setIfInBounds_toArray, List.set_cons_zero, List.set_cons_succ, i64_w, i32_w]
                                            rfl
                                          refine pure_ (i := 2) (N := some 80) (v := ?_) (a' := ?_) #[true, true, true, false, false, false, false, false, false, false, false, false, false, false, false] rfl rfl (any_of HT_.out (by kernel_rfl)) (fun _ _ _ h => h) (Or.inl ⟨by rfl, ?_⟩) ?_ ?_
                                          rotate_left
                                          · intro w'
                                            go_simp
                                            with_reducible rfl
                                          rotate_left
                                          · simp only [Act.put, List.setIfInBounds_toArray, List.set_cons_zero, List.set_cons_succ, i64_w, i32_w]
                                            rfl
                                          refine pure_ (i := 4) (N := some 82) (v := ?_) (a' := ?_) #[true, true, true, false, true, false, false, false, false, false, false, false, false, false, false] rfl rfl (any_of HT_.out (by kernel_rfl)) (fun _ _ _ h => h) (Or.inl ⟨by rfl, ?_⟩) ?_ ?_
                                          rotate_left
                                          · intro w'
                                            go_simp
                                            with_reducible rfl
                                          rotate_left
                                          · simp only [Act.put, List.setIfInBounds_toArray, List.set_cons_zero, List.set_cons_succ, i64_w, i32_w]
                                            rfl
                                          refine pure_ (i := 5) (N := some 83) (v := ?_) (a' := ?_) #[true, true, true, false, true, true, false, false, false, false, false, false, false, false, false] rfl rfl (any_of HT_.out (by kernel_rfl)) (fun _ _ _ h => h) (Or.inl ⟨by rfl, ?_⟩) ?_ ?_
                                          rotate_left
                                          · intro w'
                                            go_simp
                                            with_reducible rfl
                                          rotate_left
                                          · simp only [Act.put, List.setIfInBounds_toArray, List.set_cons_zero, List.set_cons_succ, i64_w, i32_w]
                                            rfl
                                          refine pure_ (i := 6) (N := some 84) (v := ?_) (a' := ?_) #[true, true, true, false, true, true, true, false, false, false, false, false, false, false, false] rfl rfl (any_of HT_.out (by kernel_rfl)) (fun _ _ _ h => h) (Or.inl ⟨by rfl, ?_⟩) ?_ ?_
                                          rotate_left
                                          · intro w'
                                            go_simp
                                            with_reducible rfl
                                          rotate_left
                                          · simp only [Act.put, List.setIfInBounds_toArray, List.set_cons_zero, List.set_cons_succ, i64_w, i32_w]
                                            rfl
                                          refine pure_ (i := 7) (N := some 85) (v := ?_) (a' := ?_) #[true, true, true, false, true, true, true, true, false, false, false, false, false, false, false] rfl rfl (any_of HT_.out (by kernel_rfl)) (fun _ _ _ h => h) (Or.inl ⟨by rfl, ?_⟩) ?_ ?_
                                          rotate_left
                                          · intro w'
                                            go_simp
                                            with_reducible rfl
                                          rotate_left
                                          · simp only [Act.put, List.setIfInBounds_toArray, List.set_cons_zero, List.set_cons_succ, i64_w, i32_w]
                                            rfl
                                          refine take_ (i := 3) (N := some 81) (v := ?_) (a' := ?_) #[true, true, true, true, true, true, true, true, false, false, false, false, false, false, false] rfl rfl (take_ofW HT_.out HW_.out (by kernel_rfl)) (fun _ _ _ h => h) (Or.inl ⟨by rfl, ?_⟩) hHeld ?_ ?_
                                          rotate_left
                                          · rintro w' ⟨s0, s1⟩
                                            go_simp
                                            with_reducible rfl
                                          rotate_left
                                          · simp only [Act.put, List.setIfInBounds_toArray, List.set_cons_zero, List.set_cons_succ, i64_w, i32_w]
                                            rfl
                                          refine take_ (i := 8) (N := some 86) (v := ?_) (a' := ?_) #[true, true, true, true, true, true, true, true, true, false, false, false, false, false, false] rfl rfl (take_ofW HT_.out HW_.out (by kernel_rfl)) (fun _ _ _ h => h) (Or.inl ⟨by rfl, ?_⟩) hHeld ?_ ?_
                                          rotate_left
                                          · rintro w' ⟨s0, s1⟩
                                            go_simp
                                            with_reducible rfl
                                          rotate_left
                                          · simp only [Act.put, List.setIfInBounds_toArray, List.set_cons_zero, List.set_cons_succ, i64_w, i32_w]
                                            rfl
                                          refine one_ (i := 9) (N := some 87) #[true, true, true, true, true, true, true, true, true, true, false, false, false, false, false] rfl rfl (one_of HT_.out (by kernel_rfl)) (by decide) (fun K hK => ?_)
                                          refine goes_ Try.func15 (by kernel_rfl) rfl #[.int .i64 (rd y175 x21_2), .int .i64 (rd y152 t155), .slice A187_0 (rd_L1 y172 x20_1).length c187_0] (by rfl) rfl rfl (by (try simp only [List.map_toArray, List.map_cons, List.map_nil]); first | done | rfl | (simp only [List.length_drop, List.length_take]; rfl)) ?_
                                          with_reducible refine (pad_Strip.calls k2 (rd y175 x21_2) (rd y152 t155) _ _ (rd_L1 y172 x20_1) t188 t189 _ ?side1 ?side2 A48.out).mono ?_
                                          (case side1 => repeat (first | exact (by repeat (first | (with_reducible exact HR187_0.out) | (with_reducible refine Kd.C_alloc ?_ _) | (with_reducible refine Kd.C_drewN ?_ _) | (with_reducible refine Kd.C_drew ?_) | exact HR187_0.out)) | (with_reducible refine Kd.C_alloc ?_ _) | (with_reducible refine Kd.C_drewN ?_ _) | (with_reducible refine Kd.C_drew ?_)))
                                          (case side2 => exact HC187_0.out)
                                          rintro e w61 ⟨v190, rfl, ho0, hb⟩
                                          have HS0_ := (hb.cell (World.block_lt_of_cell? _ _ (hHeld.1))).trans (hHeld.1)
                                          have HS1_ := (hb.cell (World.block_lt_of_cell? _ _ (hHeld.2))).trans (hHeld.2)
                                          refine ⟨_, rfl, ?_⟩
                                          have n0_ := Aside0.mk (Kd.R_elder' (by (with_reducible repeat (first | apply Kd.R_alloc | apply Kd.R_drewN | apply Kd.R_drew)); exact HO_16.out) (Kd.R_base ho0) hb)
                                          have n1_ := Aside0.mk (Kd.N_elder' (by (with_reducible repeat (first | apply Kd.N_alloc | apply Kd.N_drewN | apply Kd.N_drew)); exact HO_18.out) (Kd.R_base ho0) hb)
                                          have n2_ := Aside0.mk (Kd.R_below (by (with_reducible repeat (first | apply Kd.R_alloc | apply Kd.R_drewN | apply Kd.R_drew)); exact HO_19.out) hb)
                                          have n3_ := Aside0.mk (Kd.V_elder' (by (with_reducible repeat (first | apply Kd.V_alloc | apply Kd.V_drewN | apply Kd.V_drew)); exact HL187_0.out) (Kd.R_base ho0) hb)
                                          have n4_ := Aside0.mk (Kd.R_lower (Kd.R_new' (Kd.R_newM (M := fun k_ => (w.heap.size ≤ k_)) ho0 (below_size (by repeat (first | (with_reducible first | exact HB.out | apply below_alloc | apply pw_below_drewN | apply below_drew1) | exact HB.out))) (fun k_ h_ => h_)) (Kd.R_lt (by (with_reducible repeat (first | apply Kd.R_alloc | apply Kd.R_drewN | apply Kd.R_drew)); exact HO_16.out))) (below_size (by repeat (first | (with_reducible first | exact HB.out | apply below_alloc | apply pw_below_drewN | apply below_drew1) | exact HB.out))))
                                          have n5_ := Aside0.mk (Kd.C_below (by repeat (first | (with_reducible exact HR187_0.out) | (with_reducible refine Kd.C_alloc ?_ _) | (with_reducible refine Kd.C_drewN ?_ _) | (with_reducible refine Kd.C_drew ?_) | exact HR187_0.out)) hb)
                                          have n6_ := Aside0.mk (below_step (by repeat (first | (with_reducible first | exact HB.out | apply below_alloc | apply pw_below_drewN | apply below_drew1) | exact HB.out)) hb)
                                          clear HO_16
                                          clear HO_18
                                          clear HO_19
                                          clear HL187_0
                                          clear HR187_0
                                          clear HB
                                          have HO_16 := n0_
                                          have HO_18 := n1_
                                          have HO_19 := n2_
                                          have HL187_0 := n3_
                                          have HO191 := n4_
                                          have HR187_0 := n5_
                                          have HB := n6_
                                          clear n0_ n1_ n2_ n3_ n4_ n5_ n6_
                                          (try clear hb)
                                          (try clear hb2)
                                          (try clear hk)
                                          (try clear hi)
                                          (try clear ho0)
                                          refine hK.out _ _ ⟨HS0_, HS1_⟩ (fun hHeld => ?_)
                                          clear hK K
                                          refine norm_ (a' := ?_) ?_ ?_
                                          rotate_left
                                          · show Act.put _ (some 87) _ = _
                                            simp only [Act.put, List.setIfInBounds_toArray, List.set_cons_zero, List.set_cons_succ, i64_w, i32_w]
                                            rfl
                                          refine pure_ (i := 10) (N := some 77) (v := ?_) (a' := ?_) #[true, true, true, true, true, true, true, true, true, true, true, false, false, false, false] rfl rfl (any_of HT_.out (by kernel_rfl)) (fun _ _ _ h => h) (Or.inl ⟨by rfl, ?_⟩) ?_ ?_
                                          rotate_left
                                          · intro w'
                                            go_simp
                                            with_reducible rfl
                                          rotate_left
                                          · simp only [Act.put, List.setIfInBounds_toArray, List.set_cons_zero, List.set_cons_succ, i64_w, i32_w]
                                            rfl
                                          refine pure_ (i := 11) (N := some 88) (v := ?_) (a' := ?_) #[true, true, true, true, true, true, true, true, true, true, true, true, false, false, false] rfl rfl (any_of HT_.out (by kernel_rfl)) (fun _ _ _ h => h) (Or.inl ⟨by rfl, ?_⟩) ?_ ?_
                                          rotate_left
                                          · intro w'
                                            go_simp
                                            with_reducible rfl
                                          rotate_left
                                          · simp only [Act.put, List.setIfInBounds_toArray, List.set_cons_zero, List.set_cons_succ, i64_w, i32_w]
                                            rfl
                                          refine pure_ (i := 12) (N := some 89) (v := ?_) (a' := ?_) #[true, true, true, true, true, true, true, true, true, true, true, true, true, false, false] rfl rfl (any_of HT_.out (by kernel_rfl)) (fun _ _ _ h => h) (Or.inl ⟨by rfl, ?_⟩) ?_ ?_
                                          rotate_left
                                          · intro w'
                                            go_simp
                                            with_reducible rfl
                                          rotate_left
                                          · simp only [Act.put, List.setIfInBounds_toArray, List.set_cons_zero, List.set_cons_succ, i64_w, i32_w]
                                            rfl
                                          refine pure_ (i := 13) (N := some 22) (v := ?_) (a' := ?_) #[true, true, true, true, true, true, true, true, true, true, true, true, true, true, false] rfl rfl (any_of HT_.out (by kernel_rfl)) (fun _ _ _ h => h) (Or.inl ⟨by rfl, ?_⟩) ?_ ?_
                                          rotate_left
                                          · intro w'
                                            go_simp
                                            with_reducible rfl
                                          rotate_left
                                          · simp only [Act.put, List.setIfInBounds_toArray, List.set_cons_zero, List.set_cons_succ, i64_w, i32_w]
                                            rfl
                                          refine pure_ (i := 14) (N := some 23) (v := ?_) (a' := ?_) #[true, true, true, true, true, true, true, true, true, true, true, true, true, true, true] rfl rfl (any_of HT_.out (by kernel_rfl)) (fun _ _ _ h => h) (Or.inl ⟨by rfl, ?_⟩) ?_ ?_
                                          rotate_left
                                          · intro w'
                                            go_simp
                                            with_reducible rfl
                                          rotate_left
                                          · simp only [Act.put, List.setIfInBounds_toArray, List.set_cons_zero, List.set_cons_succ, i64_w, i32_w]
                                            rfl
                                          refine done_ (done_of HT_.out (by kernel_rfl)) ?_
                                          try go_wp2
                                          have n0_ := Aside0.mk (Kd.R_drew HO_16.out)
                                          have n1_ := Aside0.mk (Kd.N_drew HO_18.out)
                                          have n2_ := Aside0.mk (Kd.R_drew HO_19.out)
                                          have n3_ := Aside0.mk (Kd.V_drew HL187_0.out)
                                          have n4_ := Aside0.mk (Kd.R_drew HO191.out)
                                          have n5_ := Aside0.mk (Kd.C_drew HR187_0.out)
                                          have n6_ := Aside0.mk (below_drew1 HB.out)
                                          clear HO_16
                                          clear HO_18
                                          clear HO_19
                                          clear HL187_0
                                          clear HO191
                                          clear HR187_0
                                          clear HB
                                          have HO_16 := n0_
                                          have HO_18 := n1_
                                          have HO_19 := n2_
                                          have HL187_0 := n3_
                                          have HO191 := n4_
                                          have HR187_0 := n5_
                                          have HB := n6_
                                          clear n0_ n1_ n2_ n3_ n4_ n5_ n6_
                                          have p192 : 0 ≤ (x21_2 : Int) := of_decide_eq_true (by first | (with_reducible assumption) | assumption)
                                          have q192 : x21_2 < (y175.length : Int) := of_decide_eq_true (by first | (with_reducible assumption) | assumption)
                                          obtain ⟨ad192, e192, hx192_0⟩ := Kd.at_int (Kd.R_reads' HO_19.out).2.2 x21_2 p192 q192
                                          obtain rfl : ad186 = ad192 := (by injection e192)
                                          replace p192 := eq_true p192
                                          replace q192 := eq_true q192
                                          have p193 : 0 ≤ (x20_1 : Int) := of_decide_eq_true (by first | (with_reducible assumption) | assumption)
                                          have q193 : x20_1 < (y172.length : Int) := of_decide_eq_true (by first | (with_reducible assumption) | assumption)
                                          obtain ⟨ad193, A193_0, c193_0, e193, hx193_0, hl193_0, hi193_0⟩ := at_L1 (Kd.N_reads' HO_18.out).2.2 x20_1 p193 q193
                                          obtain rfl : ad187 = ad193 := (by injection e193)
                                          obtain ⟨ce193, hce193, hMe193, hcc193⟩ := Kd.N_get HO_18.out [] x20_1 p193 (by first | exact q193 | exact of_decide_eq_true (by first | (with_reducible assumption) | assumption) | (have e_ := (Kd.N_reads' HO_18.out).1; omega))
                                          obtain ⟨ua193_0, uc193_0, rfl, ul193_0, ge193_0⟩ := Kd.FK_slice_open hMe193
                                          have hv193_0 := hcc193 0 _ rfl
                                          rw [Nat.add_zero, show ((Kd.slice 5 (Kd.int .u8))).sz = 1 from rfl, Nat.mul_one] at hv193_0
                                          replace hv193_0 := Option.some.inj (hv193_0.symm.trans hx193_0)
                                          injection hv193_0 with hva_ hvn_ hvc_
                                          rw [hva_] at ge193_0
                                          rw [hvc_] at ul193_0
                                          have HL193_0 := Aside0.mk (show Kd.V (Kd.int .u8) 5 _ w.heap.size _ _ (rd_L1 y172 x20_1) from Kd.V_mk ul193_0 ge193_0)
                                          clear hva_ hvn_ hvc_ ge193_0 ul193_0
                                          clear hcc193 hce193
                                          have HR193_0 := Aside0.mk hi193_0
                                          have HC193_0 := Aside0.mk hl193_0
                                          clear hi193_0 hl193_0
                                          replace p193 := eq_true p193
                                          replace q193 := eq_true q193
                                          refine start_ (n := 15) (S := fun w' => w'.cell? (ad186.add (x21_2).toNat) = some (.int .i64 (rd y175 x21_2)) ∧ w'.cell? (ad187.add (x20_1).toNat) = some (.slice A193_0 (rd_L1 y172 x20_1).length c193_0)) (ds := []) #[false, false, false, false, false, false, false, false, false, false, false, false, false, false, false] (by kernel_rfl) rfl rfl ⟨hx192_0, hx193_0⟩ (fun hHeld => ?_); refine with_tabW scrimlaw14_PadStrips.tab18 scrimlaw14_PadStrips.bits18 (fun HT_ HW_ => ?_)
                                          generalize w61.drew = w62 at HO_16 HO_18 HO_19 HL187_0 HO191 HR187_0 HB HL193_0 HR193_0 hx192_0 hx193_0 hHeld ⊢
                                          refine pure_ (i := 0) (N := some 91) (v := ?_) (a' := ?_) #[true, false, false, false, false, false, false, false, false, false, false, false, false, false, false] rfl rfl (any_of HT_.out (by kernel_rfl)) (fun _ _ _ h => h) (Or.inl ⟨by rfl, ?_⟩) ?_ ?_
                                          rotate_left
                                          · intro w'
                                            go_simp
                                            with_reducible rfl
                                          rotate_left
                                          · simp only [Act.put, List.setIfInBounds_toArray, List.set_cons_zero, List.set_cons_succ, i64_w, i32_w]
                                            rfl
                                          refine pure_ (i := 1) (N := some 92) (v := ?_) (a' := ?_) #[true, true, false, false, false, false, false, false, false, false, false, false, false, false, false] rfl rfl (any_of HT_.out (by kernel_rfl)) (fun _ _ _ h => h) (Or.inl ⟨by rfl, ?_⟩) ?_ ?_
                                          rotate_left
                                          · intro w'
                                            go_simp
                                            with_reducible rfl
                                          rotate_left
                                          · simp only [Act.put, List.setIfInBounds_toArray, List.set_cons_zero, List.set_cons_succ, i64_w, i32_w]
                                            rfl
                                          refine pure_ (i := 2) (N := some 93) (v := ?_) (a' := ?_) #[true, true, true, false, false, false, false, false, false, false, false, false, false, false, false] rfl rfl (any_of HT_.out (by kernel_rfl)) (fun _ _ _ h => h) (Or.inl ⟨by rfl, ?_⟩) ?_ ?_
                                          rotate_left
                                          · intro w'
                                            go_simp
                                            with_reducible rfl
                                          rotate_left
                                          · simp only [Act.put, List.setIfInBounds_toArray, List.set_cons_zero, List.set_cons_succ, i64_w, i32_w]
                                            rfl
                                          refine pure_ (i := 4) (N := some 95) (v := ?_) (a' := ?_) #[true, true, true, false, true, false, false, false, false, false, false, false, false, false, false] rfl rfl (any_of HT_.out (by kernel_rfl)) (fun _ _ _ h => h) (Or.inl ⟨by rfl, ?_⟩) ?_ ?_
                                          rotate_left
                                          · intro w'
                                            go_simp
                                            with_reducible rfl
                                          rotate_left
                                          · simp only [Act.put, List.setIfInBounds_toArray, List.set_cons_zero, List.set_cons_succ, i64_w, i32_w]
                                            rfl
                                          refine pure_ (i := 5) (N := some 96) (v := ?_) (a' := ?_) #[true, true, true, false, true, true, false, false, false, false, false, false, false, false, false] rfl rfl (any_of HT_.out (by kernel_rfl)) (fun _ _ _ h => h) (Or.inl ⟨by rfl, ?_⟩) ?_ ?_
                                          rotate_left
                                          · intro w'
                                            go_simp
                                            with_reducible rfl
                                          rotate_left
                                          · simp only [Act.put, List.setIfInBounds_toArray, List.set_cons_zero, List.set_cons_succ, i64_w, i32_w]
                                            rfl
                                          refine pure_ (i := 6) (N := some 97) (v := ?_) (a' := ?_) #[true, true, true, false, true, true, true, false, false, false, false, false, false, false, false] rfl rfl (any_of HT_.out (by kernel_rfl)) (fun _ _ _ h => h) (Or.inl ⟨by rfl, ?_⟩) ?_ ?_
                                          rotate_left
                                          · intro w'
                                            go_simp
                                            with_reducible rfl
                                          rotate_left
                                          · simp only [Act.put, List.setIfInBounds_toArray, List.set_cons_zero, List.set_cons_succ, i64_w, i32_w]
                                            rfl
                                          refine pure_ (i := 7) (N := some 98) (v := ?_) (a' := ?_) #[true, true, true, false, true, true, true, true, false, false, false, false, false, false, false] rfl rfl (any_of HT_.out (by kernel_rfl)) (fun _ _ _ h => h) (Or.inl ⟨by rfl, ?_⟩) ?_ ?_
                                          rotate_left
                                          · intro w'
                                            go_simp
                                            with_reducible rfl
                                          rotate_left
                                          · simp only [Act.put, List.setIfInBounds_toArray, List.set_cons_zero, List.set_cons_succ, i64_w, i32_w]
                                            rfl
                                          refine take_ (i := 3) (N := some 94) (v := ?_) (a' := ?_) #[true, true, true, true, true, true, true, true, false, false, false, false, false, false, false] rfl rfl (take_ofW HT_.out HW_.out (by kernel_rfl)) (fun _ _ _ h => h) (Or.inl ⟨by rfl, ?_⟩) hHeld ?_ ?_
                                          rotate_left
                                          · rintro w' ⟨s0, s1⟩
                                            go_simp
                                            with_reducible rfl
                                          rotate_left
                                          · simp only [Act.put, List.setIfInBounds_toArray, List.set_cons_zero, List.set_cons_succ, i64_w, i32_w]
                                            rfl
                                          refine take_ (i := 8) (N := some 99) (v := ?_) (a' := ?_) #[true, true, true, true, true, true, true, true, true, false, false, false, false, false, false] rfl rfl (take_ofW HT_.out HW_.out (by kernel_rfl)) (fun _ _ _ h => h) (Or.inl ⟨by rfl, ?_⟩) hHeld ?_ ?_
                                          rotate_left
                                          · rintro w' ⟨s0, s1⟩
                                            go_simp
                                            with_reducible rfl
                                          rotate_left
                                          · simp only [Act.put, List.setIfInBounds_toArray, List.set_cons_zero, List.set_cons_succ, i64_w, i32_w]
                                            rfl
                                          refine one_ (i := 9) (N := some 100) #[true, true, true, true, true, true, true, true, true, true, false, false, false, false, false] rfl rfl (one_of HT_.out (by kernel_rfl)) (by decide) (fun K hK => ?_)
                                          refine goes_ Try.func16 (by kernel_rfl) rfl #[.int .i64 (rd y175 x21_2), .int .i64 (rd y152 t155), .slice A193_0 (rd_L1 y172 x20_1).length c193_0] (by rfl) rfl rfl (by (try simp only [List.map_toArray, List.map_cons, List.map_nil]); first | done | rfl | (simp only [List.length_drop, List.length_take]; rfl)) ?_
                                          with_reducible refine (scrimref14_Strip.calls k2 (rd y175 x21_2) (rd y152 t155) _ _ (rd_L1 y172 x20_1) t194 t195 _ ?side1 ?side2 A49.out).mono ?_
                                          (case side1 => repeat (first | exact (by repeat (first | (with_reducible exact HR193_0.out) | (with_reducible refine Kd.C_alloc ?_ _) | (with_reducible refine Kd.C_drewN ?_ _) | (with_reducible refine Kd.C_drew ?_) | exact HR193_0.out)) | (with_reducible refine Kd.C_alloc ?_ _) | (with_reducible refine Kd.C_drewN ?_ _) | (with_reducible refine Kd.C_drew ?_)))
                                          (case side2 => exact HC193_0.out)
                                          rintro e w63 ⟨v196, rfl, ho0, hb⟩
                                          have HS0_ := (hb.cell (World.block_lt_of_cell? _ _ (hHeld.1))).trans (hHeld.1)
                                          have HS1_ := (hb.cell (World.block_lt_of_cell? _ _ (hHeld.2))).trans (hHeld.2)
                                          refine ⟨_, rfl, ?_⟩
                                          have n0_ := Aside0.mk (Kd.R_elder' (by (with_reducible repeat (first | apply Kd.R_alloc | apply Kd.R_drewN | apply Kd.R_drew)); exact HO_16.out) (Kd.R_base ho0) hb)
                                          have n1_ := Aside0.mk (Kd.N_elder' (by (with_reducible repeat (first | apply Kd.N_alloc | apply Kd.N_drewN | apply Kd.N_drew)); exact HO_18.out) (Kd.R_base ho0) hb)
                                          have n2_ := Aside0.mk (Kd.R_below (by (with_reducible repeat (first | apply Kd.R_alloc | apply Kd.R_drewN | apply Kd.R_drew)); exact HO_19.out) hb)
                                          have n3_ := Aside0.mk (Kd.V_elder' (by (with_reducible repeat (first | apply Kd.V_alloc | apply Kd.V_drewN | apply Kd.V_drew)); exact HL187_0.out) (Kd.R_base ho0) hb)
                                          have n4_ := Aside0.mk (Kd.R_elder' (by (with_reducible repeat (first | apply Kd.R_alloc | apply Kd.R_drewN | apply Kd.R_drew)); exact HO191.out) (Kd.R_base ho0) hb)
                                          have n5_ := Aside0.mk (Kd.V_elder' (by (with_reducible repeat (first | apply Kd.V_alloc | apply Kd.V_drewN | apply Kd.V_drew)); exact HL193_0.out) (Kd.R_base ho0) hb)
                                          have n6_ := Aside0.mk (Kd.R_lower (Kd.R_new' (Kd.R_new' (Kd.R_newM (M := fun k_ => (w.heap.size ≤ k_)) ho0 (below_size (by repeat (first | (with_reducible first | exact HB.out | apply below_alloc | apply pw_below_drewN | apply below_drew1) | exact HB.out))) (fun k_ h_ => h_)) (Kd.R_lt (by (with_reducible repeat (first | apply Kd.R_alloc | apply Kd.R_drewN | apply Kd.R_drew)); exact HO_16.out))) (Kd.R_lt (by (with_reducible repeat (first | apply Kd.R_alloc | apply Kd.R_drewN | apply Kd.R_drew)); exact HO191.out))) (below_size (by repeat (first | (with_reducible first | exact HB.out | apply below_alloc | apply pw_below_drewN | apply below_drew1) | exact HB.out))))
                                          have n7_ := Aside0.mk (Kd.C_below (by repeat (first | (with_reducible exact HR187_0.out) | (with_reducible refine Kd.C_alloc ?_ _) | (with_reducible refine Kd.C_drewN ?_ _) | (with_reducible refine Kd.C_drew ?_) | exact HR187_0.out)) hb)
                                          have n8_ := Aside0.mk (Kd.C_below (by repeat (first | (with_reducible exact HR193_0.out) | (with_reducible refine Kd.C_alloc ?_ _) | (with_reducible refine Kd.C_drewN ?_ _) | (with_reducible refine Kd.C_drew ?_) | exact HR193_0.out)) hb)
                                          have n9_ := Aside0.mk (below_step (by repeat (first | (with_reducible first | exact HB.out | apply below_alloc | apply pw_below_drewN | apply below_drew1) | exact HB.out)) hb)
                                          clear HO_16
                                          clear HO_18
                                          clear HO_19
                                          clear HL187_0
                                          clear HO191
                                          clear HL193_0
                                          clear HR187_0
                                          clear HR193_0
                                          clear HB
                                          have HO_16 := n0_
                                          have HO_18 := n1_
                                          have HO_19 := n2_
                                          have HL187_0 := n3_
                                          have HO191 := n4_
                                          have HL193_0 := n5_
                                          have HO197 := n6_
                                          have HR187_0 := n7_
                                          have HR193_0 := n8_
                                          have HB := n9_
                                          clear n0_ n1_ n2_ n3_ n4_ n5_ n6_ n7_ n8_ n9_
                                          (try clear hb)
                                          (try clear hb2)
                                          (try clear hk)
                                          (try clear hi)
                                          (try clear ho0)
                                          refine hK.out _ _ ⟨HS0_, HS1_⟩ (fun hHeld => ?_)
                                          clear hK K
                                          refine norm_ (a' := ?_) ?_ ?_
                                          rotate_left
                                          · show Act.put _ (some 100) _ = _
                                            simp only [Act.put, List.setIfInBounds_toArray, List.set_cons_zero, List.set_cons_succ, i64_w, i32_w]
                                            rfl
                                          refine pure_ (i := 10) (N := some 90) (v := ?_) (a' := ?_) #[true, true, true, true, true, true, true, true, true, true, true, false, false, false, false] rfl rfl (any_of HT_.out (by kernel_rfl)) (fun _ _ _ h => h) (Or.inl ⟨by rfl, ?_⟩) ?_ ?_
                                          rotate_left
                                          · intro w'
                                            go_simp
                                            with_reducible rfl
                                          rotate_left
                                          · simp only [Act.put, List.setIfInBounds_toArray, List.set_cons_zero, List.set_cons_succ, i64_w, i32_w]
                                            rfl
                                          refine pure_ (i := 11) (N := some 101) (v := ?_) (a' := ?_) #[true, true, true, true, true, true, true, true, true, true, true, true, false, false, false] rfl rfl (any_of HT_.out (by kernel_rfl)) (fun _ _ _ h => h) (Or.inl ⟨by rfl, ?_⟩) ?_ ?_
                                          rotate_left
                                          · intro w'
                                            go_simp
                                            with_reducible rfl
                                          rotate_left
                                          · simp only [Act.put, List.setIfInBounds_toArray, List.set_cons_zero, List.set_cons_succ, i64_w, i32_w]
                                            rfl
                                          refine pure_ (i := 12) (N := some 102) (v := ?_) (a' := ?_) #[true, true, true, true, true, true, true, true, true, true, true, true, true, false, false] rfl rfl (any_of HT_.out (by kernel_rfl)) (fun _ _ _ h => h) (Or.inl ⟨by rfl, ?_⟩) ?_ ?_
                                          rotate_left
                                          · intro w'
                                            go_simp
                                            with_reducible rfl
                                          rotate_left
                                          · simp only [Act.put, List.setIfInBounds_toArray, List.set_cons_zero, List.set_cons_succ, i64_w, i32_w]
                                            rfl
                                          refine pure_ (i := 13) (N := some 24) (v := ?_) (a' := ?_) #[true, true, true, true, true, true, true, true, true, true, true, true, true, true, false] rfl rfl (any_of HT_.out (by kernel_rfl)) (fun _ _ _ h => h) (Or.inl ⟨by rfl, ?_⟩) ?_ ?_
                                          rotate_left
                                          · intro w'
                                            go_simp
                                            with_reducible rfl
                                          rotate_left
                                          · simp only [Act.put, List.setIfInBounds_toArray, List.set_cons_zero, List.set_cons_succ, i64_w, i32_w]
                                            rfl
                                          refine pure_ (i := 14) (N := some 25) (v := ?_) (a' := ?_) #[true, true, true, true, true, true, true, true, true, true, true, true, true, true, true] rfl rfl (any_of HT_.out (by kernel_rfl)) (fun _ _ _ h => h) (Or.inl ⟨by rfl, ?_⟩) ?_ ?_
                                          rotate_left
                                          · intro w'
                                            go_simp
                                            with_reducible rfl
                                          rotate_left
                                          · simp only [Act.put, List.setIfInBounds_toArray, List.set_cons_zero, List.set_cons_succ, i64_w, i32_w]
                                            rfl
                                          refine done_ (done_of HT_.out (by kernel_rfl)) ?_
                                          have hcv64 := own_string (P := Try.prog) Try.underlying22 Try.underlying5 Try.underlying9 (Kd.own_of_R HO191.out)
                                          have hcv65 := own_string (P := Try.prog) Try.underlying22 Try.underlying5 Try.underlying9 (Kd.own_of_R HO197.out)
                                          try go_wp2
                                          go_ret
                                          exact ⟨by first | rfl | (simp [errW_none, errW_some] <;> rfl) | (simp [*, errW_none, errW_some] <;> rfl), by repeat (first | (with_reducible first | exact HB.out | apply below_alloc | apply pw_below_drewN | apply below_drew1) | exact HB.out)⟩
                                      · rw [if_neg c50] at H
                                        have c50b0 : (t189 == t195) = false := beq_eq_false_iff_ne.mpr c50
                                        have c50b1 : (t189 != t195) = true := bne_iff_ne.mpr c50
                                        obtain rfl := Option.some.inj H
                                        obtain ⟨Ao66, co66, eo66⟩ := Kd.R_slice HO_19.out
                                        subst eo66
                                        try go_wp2
                                        have n0_ := Aside0.mk (Kd.R_drew HO_16.out)
                                        have n1_ := Aside0.mk (Kd.N_drew HO_18.out)
                                        have n2_ := Aside0.mk (Kd.R_drew HO_19.out)
                                        have n3_ := Aside0.mk (below_drew1 HB.out)
                                        clear HO_16
                                        clear HO_18
                                        clear HO_19
                                        clear HB
                                        have HO_16 := n0_
                                        have HO_18 := n1_
                                        have HO_19 := n2_
                                        have HB := n3_
                                        clear n0_ n1_ n2_ n3_
                                        have p186 : 0 ≤ (x21_2 : Int) := of_decide_eq_true (by first | (with_reducible assumption) | assumption)
                                        have q186 : x21_2 < (y175.length : Int) := of_decide_eq_true (by first | (with_reducible assumption) | assumption)
                                        obtain ⟨ad186, e186, hx186_0⟩ := Kd.at_int (Kd.R_reads' HO_19.out).2.2 x21_2 p186 q186
                                        cases e186
                                        replace p186 := eq_true p186
                                        replace q186 := eq_true q186
                                        have p187 : 0 ≤ (x20_1 : Int) := of_decide_eq_true (by first | (with_reducible assumption) | assumption)
                                        have q187 : x20_1 < (y172.length : Int) := of_decide_eq_true (by first | (with_reducible assumption) | assumption)
                                        obtain ⟨ad187, A187_0, c187_0, e187, hx187_0, hl187_0, hi187_0⟩ := at_L1 (Kd.N_reads' HO_18.out).2.2 x20_1 p187 q187
                                        cases e187
                                        obtain ⟨ce187, hce187, hMe187, hcc187⟩ := Kd.N_get HO_18.out [] x20_1 p187 (by first | exact q187 | exact of_decide_eq_true (by first | (with_reducible assumption) | assumption) | (have e_ := (Kd.N_reads' HO_18.out).1; omega))
                                        obtain ⟨ua187_0, uc187_0, rfl, ul187_0, ge187_0⟩ := Kd.FK_slice_open hMe187
                                        have hv187_0 := hcc187 0 _ rfl
                                        rw [Nat.add_zero, show ((Kd.slice 5 (Kd.int .u8))).sz = 1 from rfl, Nat.mul_one] at hv187_0
                                        replace hv187_0 := Option.some.inj (hv187_0.symm.trans hx187_0)
                                        injection hv187_0 with hva_ hvn_ hvc_
                                        rw [hva_] at ge187_0
                                        rw [hvc_] at ul187_0
                                        have HL187_0 := Aside0.mk (show Kd.V (Kd.int .u8) 5 _ w.heap.size _ _ (rd_L1 y172 x20_1) from Kd.V_mk ul187_0 ge187_0)
                                        clear hva_ hvn_ hvc_ ge187_0 ul187_0
                                        clear hcc187 hce187
                                        have HR187_0 := Aside0.mk hi187_0
                                        have HC187_0 := Aside0.mk hl187_0
                                        clear hi187_0 hl187_0
                                        replace p187 := eq_true p187
                                        replace q187 := eq_true q187
                                        refine start_ (n := 15) (S := fun w' => w'.cell? (ad186.add (x21_2).toNat) = some (.int .i64 (rd y175 x21_2)) ∧ w'.cell? (ad187.add (x20_1).toNat) = some (.slice A187_0 (rd_L1 y172 x20_1).length c187_0)) (ds := []) #[false, false, false, false, false, false, false, false, false, false, false, false, false, false, false] (by kernel_rfl) rfl rfl ⟨hx186_0, hx187_0⟩ (fun hHeld => ?_); refine with_tabW scrimlaw14_PadStrips.tab17 scrimlaw14_PadStrips.bits17 (fun HT_ HW_ => ?_)
                                        generalize wr.drew = w67 at HO_16 HO_18 HO_19 HB HL187_0 HR187_0 hx186_0 hx187_0 hHeld ⊢
                                        refine pure_ (i := 0) (N := some 78) (v := ?_) (a' := ?_) #[true, false, false, false, false, false, false, false, false, false, false, false, false, false, false] rfl rfl (any_of HT_.out (by kernel_rfl)) (fun _ _ _ h => h) (Or.inl ⟨by rfl, ?_⟩) ?_ ?_
                                        rotate_left
                                        · intro w'
                                          go_simp
                                          with_reducible rfl
                                        rotate_left
                                        · simp only [Act.put, List.setIfInBounds_toArray, List.set_cons_zero, List.set_cons_succ, i64_w, i32_w]
                                          rfl
                                        refine pure_ (i := 1) (N := some 79) (v := ?_) (a' := ?_) #[true, true, false, false, false, false, false, false, false, false, false, false, false, false, false] rfl rfl (any_of HT_.out (by kernel_rfl)) (fun _ _ _ h => h) (Or.inl ⟨by rfl, ?_⟩) ?_ ?_
                                        rotate_left
                                        · intro w'
                                          go_simp
                                          with_reducible rfl
                                        rotate_left
                                        · simp only [Act.put, List.setIfInBounds_toArray, List.set_cons_zero, List.set_cons_succ, i64_w, i32_w]
                                          rfl
                                        refine pure_ (i := 2) (N := some 80) (v := ?_) (a' := ?_) #[true, true, true, false, false, false, false, false, false, false, false, false, false, false, false] rfl rfl (any_of HT_.out (by kernel_rfl)) (fun _ _ _ h => h) (Or.inl ⟨by rfl, ?_⟩) ?_ ?_
                                        rotate_left
                                        · intro w'
                                          go_simp
                                          with_reducible rfl
                                        rotate_left
                                        · simp only [Act.put, List.setIfInBounds_toArray, List.set_cons_zero, List.set_cons_succ, i64_w, i32_w]
                                          rfl
                                        refine pure_ (i := 4) (N := some 82) (v := ?_) (a' := ?_) #[true, true, true, false, true, false, false, false, false, false, false, false, false, false, false] rfl rfl (any_of HT_.out (by kernel_rfl)) (fun _ _ _ h => h) (Or.inl ⟨by rfl, ?_⟩) ?_ ?_
                                        rotate_left
                                        · intro w'
                                          go_simp
                                          with_reducible rfl
                                        rotate_left
                                        · simp only [Act.put, List.setIfInBounds_toArray, List.set_cons_zero, List.set_cons_succ, i64_w, i32_w]
                                          rfl
                                        refine pure_ (i := 5) (N := some 83) (v := ?_) (a' := ?_) #[true, true, true, false, true, true, false, false, false, false, false, false, false, false, false] rfl rfl (any_of HT_.out (by kernel_rfl)) (fun _ _ _ h => h) (Or.inl ⟨by rfl, ?_⟩) ?_ ?_
                                        rotate_left
                                        · intro w'
                                          go_simp
                                          with_reducible rfl
                                        rotate_left
                                        · simp only [Act.put, List.setIfInBounds_toArray, List.set_cons_zero, List.set_cons_succ, i64_w, i32_w]
                                          rfl
                                        refine pure_ (i := 6) (N := some 84) (v := ?_) (a' := ?_) #[true, true, true, false, true, true, true, false, false, false, false, false, false, false, false] rfl rfl (any_of HT_.out (by kernel_rfl)) (fun _ _ _ h => h) (Or.inl ⟨by rfl, ?_⟩) ?_ ?_
                                        rotate_left
                                        · intro w'
                                          go_simp
                                          with_reducible rfl
                                        rotate_left
                                        · simp only [Act.put, List.setIfInBounds_toArray, List.set_cons_zero, List.set_cons_succ, i64_w, i32_w]
                                          rfl
                                        refine pure_ (i := 7) (N := some 85) (v := ?_) (a' := ?_) #[true, true, true, false, true, true, true, true, false, false, false, false, false, false, false] rfl rfl (any_of HT_.out (by kernel_rfl)) (fun _ _ _ h => h) (Or.inl ⟨by rfl, ?_⟩) ?_ ?_
                                        rotate_left
                                        · intro w'
                                          go_simp
                                          with_reducible rfl
                                        rotate_left
                                        · simp only [Act.put, List.setIfInBounds_toArray, List.set_cons_zero, List.set_cons_succ, i64_w, i32_w]
                                          rfl
                                        refine take_ (i := 3) (N := some 81) (v := ?_) (a' := ?_) #[true, true, true, true, true, true, true, true, false, false, false, false, false, false, false] rfl rfl (take_ofW HT_.out HW_.out (by kernel_rfl)) (fun _ _ _ h => h) (Or.inl ⟨by rfl, ?_⟩) hHeld ?_ ?_
                                        rotate_left
                                        · rintro w' ⟨s0, s1⟩
                                          go_simp
                                          with_reducible rfl
                                        rotate_left
                                        · simp only [Act.put, List.setIfInBounds_toArray, List.set_cons_zero, List.set_cons_succ, i64_w, i32_w]
                                          rfl
                                        refine take_ (i := 8) (N := some 86) (v := ?_) (a' := ?_) #[true, true, true, true, true, true, true, true, true, false, false, false, false, false, false] rfl rfl (take_ofW HT_.out HW_.out (by kernel_rfl)) (fun _ _ _ h => h) (Or.inl ⟨by rfl, ?_⟩) hHeld ?_ ?_
                                        rotate_left
                                        · rintro w' ⟨s0, s1⟩
                                          go_simp
                                          with_reducible rfl
                                        rotate_left
                                        · simp only [Act.put, List.setIfInBounds_toArray, List.set_cons_zero, List.set_cons_succ, i64_w, i32_w]
                                          rfl
                                        refine one_ (i := 9) (N := some 87) #[true, true, true, true, true, true, true, true, true, true, false, false, false, false, false] rfl rfl (one_of HT_.out (by kernel_rfl)) (by decide) (fun K hK => ?_)
                                        refine goes_ Try.func15 (by kernel_rfl) rfl #[.int .i64 (rd y175 x21_2), .int .i64 (rd y152 t155), .slice A187_0 (rd_L1 y172 x20_1).length c187_0] (by rfl) rfl rfl (by (try simp only [List.map_toArray, List.map_cons, List.map_nil]); first | done | rfl | (simp only [List.length_drop, List.length_take]; rfl)) ?_
                                        with_reducible refine (pad_Strip.calls k2 (rd y175 x21_2) (rd y152 t155) _ _ (rd_L1 y172 x20_1) t188 t189 _ ?side1 ?side2 A48.out).mono ?_
                                        (case side1 => repeat (first | exact (by repeat (first | (with_reducible exact HR187_0.out) | (with_reducible refine Kd.C_alloc ?_ _) | (with_reducible refine Kd.C_drewN ?_ _) | (with_reducible refine Kd.C_drew ?_) | exact HR187_0.out)) | (with_reducible refine Kd.C_alloc ?_ _) | (with_reducible refine Kd.C_drewN ?_ _) | (with_reducible refine Kd.C_drew ?_)))
                                        (case side2 => exact HC187_0.out)
                                        rintro e w68 ⟨v190, rfl, ho0, hb⟩
                                        have HS0_ := (hb.cell (World.block_lt_of_cell? _ _ (hHeld.1))).trans (hHeld.1)
                                        have HS1_ := (hb.cell (World.block_lt_of_cell? _ _ (hHeld.2))).trans (hHeld.2)
                                        refine ⟨_, rfl, ?_⟩
                                        have n0_ := Aside0.mk (Kd.R_elder' (by (with_reducible repeat (first | apply Kd.R_alloc | apply Kd.R_drewN | apply Kd.R_drew)); exact HO_16.out) (Kd.R_base ho0) hb)
                                        have n1_ := Aside0.mk (Kd.N_elder' (by (with_reducible repeat (first | apply Kd.N_alloc | apply Kd.N_drewN | apply Kd.N_drew)); exact HO_18.out) (Kd.R_base ho0) hb)
                                        have n2_ := Aside0.mk (Kd.R_below (by (with_reducible repeat (first | apply Kd.R_alloc | apply Kd.R_drewN | apply Kd.R_drew)); exact HO_19.out) hb)
                                        have n3_ := Aside0.mk (Kd.V_elder' (by (with_reducible repeat (first | apply Kd.V_alloc | apply Kd.V_drewN | apply Kd.V_drew)); exact HL187_0.out) (Kd.R_base ho0) hb)
                                        have n4_ := Aside0.mk (Kd.R_lower (Kd.R_new' (Kd.R_newM (M := fun k_ => (w.heap.size ≤ k_)) ho0 (below_size (by repeat (first | (with_reducible first | exact HB.out | apply below_alloc | apply pw_below_drewN | apply below_drew1) | exact HB.out))) (fun k_ h_ => h_)) (Kd.R_lt (by (with_reducible repeat (first | apply Kd.R_alloc | apply Kd.R_drewN | apply Kd.R_drew)); exact HO_16.out))) (below_size (by repeat (first | (with_reducible first | exact HB.out | apply below_alloc | apply pw_below_drewN | apply below_drew1) | exact HB.out))))
                                        have n5_ := Aside0.mk (Kd.C_below (by repeat (first | (with_reducible exact HR187_0.out) | (with_reducible refine Kd.C_alloc ?_ _) | (with_reducible refine Kd.C_drewN ?_ _) | (with_reducible refine Kd.C_drew ?_) | exact HR187_0.out)) hb)
                                        have n6_ := Aside0.mk (below_step (by repeat (first | (with_reducible first | exact HB.out | apply below_alloc | apply pw_below_drewN | apply below_drew1) | exact HB.out)) hb)
                                        clear HO_16
                                        clear HO_18
                                        clear HO_19
                                        clear HL187_0
                                        clear HR187_0
                                        clear HB
                                        have HO_16 := n0_
                                        have HO_18 := n1_
                                        have HO_19 := n2_
                                        have HL187_0 := n3_
                                        have HO191 := n4_
                                        have HR187_0 := n5_
                                        have HB := n6_
                                        clear n0_ n1_ n2_ n3_ n4_ n5_ n6_
                                        (try clear hb)
                                        (try clear hb2)
                                        (try clear hk)
                                        (try clear hi)
                                        (try clear ho0)
                                        refine hK.out _ _ ⟨HS0_, HS1_⟩ (fun hHeld => ?_)
                                        clear hK K
                                        refine norm_ (a' := ?_) ?_ ?_
                                        rotate_left
                                        · show Act.put _ (some 87) _ = _
                                          simp only [Act.put, List.setIfInBounds_toArray, List.set_cons_zero, List.set_cons_succ, i64_w, i32_w]
                                          rfl
                                        refine pure_ (i := 10) (N := some 77) (v := ?_) (a' := ?_) #[true, true, true, true, true, true, true, true, true, true, true, false, false, false, false] rfl rfl (any_of HT_.out (by kernel_rfl)) (fun _ _ _ h => h) (Or.inl ⟨by rfl, ?_⟩) ?_ ?_
                                        rotate_left
                                        · intro w'
                                          go_simp
                                          with_reducible rfl
                                        rotate_left
                                        · simp only [Act.put, List.setIfInBounds_toArray, List.set_cons_zero, List.set_cons_succ, i64_w, i32_w]
                                          rfl
                                        refine pure_ (i := 11) (N := some 88) (v := ?_) (a' := ?_) #[true, true, true, true, true, true, true, true, true, true, true, true, false, false, false] rfl rfl (any_of HT_.out (by kernel_rfl)) (fun _ _ _ h => h) (Or.inl ⟨by rfl, ?_⟩) ?_ ?_
                                        rotate_left
                                        · intro w'
                                          go_simp
                                          with_reducible rfl
                                        rotate_left
                                        · simp only [Act.put, List.setIfInBounds_toArray, List.set_cons_zero, List.set_cons_succ, i64_w, i32_w]
                                          rfl
                                        refine pure_ (i := 12) (N := some 89) (v := ?_) (a' := ?_) #[true, true, true, true, true, true, true, true, true, true, true, true, true, false, false] rfl rfl (any_of HT_.out (by kernel_rfl)) (fun _ _ _ h => h) (Or.inl ⟨by rfl, ?_⟩) ?_ ?_
                                        rotate_left
                                        · intro w'
                                          go_simp
                                          with_reducible rfl
                                        rotate_left
                                        · simp only [Act.put, List.setIfInBounds_toArray, List.set_cons_zero, List.set_cons_succ, i64_w, i32_w]
                                          rfl
                                        refine pure_ (i := 13) (N := some 22) (v := ?_) (a' := ?_) #[true, true, true, true, true, true, true, true, true, true, true, true, true, true, false] rfl rfl (any_of HT_.out (by kernel_rfl)) (fun _ _ _ h => h) (Or.inl ⟨by rfl, ?_⟩) ?_ ?_
                                        rotate_left
                                        · intro w'
                                          go_simp
                                          with_reducible rfl
                                        rotate_left
                                        · simp only [Act.put, List.setIfInBounds_toArray, List.set_cons_zero, List.set_cons_succ, i64_w, i32_w]
                                          rfl
                                        refine pure_ (i := 14) (N := some 23) (v := ?_) (a' := ?_) #[true, true, true, true, true, true, true, true, true, true, true, true, true, true, true] rfl rfl (any_of HT_.out (by kernel_rfl)) (fun _ _ _ h => h) (Or.inl ⟨by rfl, ?_⟩) ?_ ?_
                                        rotate_left
                                        · intro w'
                                          go_simp
                                          with_reducible rfl
                                        rotate_left
                                        · simp only [Act.put, List.setIfInBounds_toArray, List.set_cons_zero, List.set_cons_succ, i64_w, i32_w]
                                          rfl
                                        refine done_ (done_of HT_.out (by kernel_rfl)) ?_
                                        try go_wp2
                                        have n0_ := Aside0.mk (Kd.R_drew HO_16.out)
                                        have n1_ := Aside0.mk (Kd.N_drew HO_18.out)
                                        have n2_ := Aside0.mk (Kd.R_drew HO_19.out)
                                        have n3_ := Aside0.mk (Kd.V_drew HL187_0.out)
                                        have n4_ := Aside0.mk (Kd.R_drew HO191.out)
                                        have n5_ := Aside0.mk (Kd.C_drew HR187_0.out)
                                        have n6_ := Aside0.mk (below_drew1 HB.out)
                                        clear HO_16
                                        clear HO_18
                                        clear HO_19
                                        clear HL187_0
                                        clear HO191
                                        clear HR187_0
                                        clear HB
                                        have HO_16 := n0_
                                        have HO_18 := n1_
                                        have HO_19 := n2_
                                        have HL187_0 := n3_
                                        have HO191 := n4_
                                        have HR187_0 := n5_
                                        have HB := n6_
                                        clear n0_ n1_ n2_ n3_ n4_ n5_ n6_
                                        have p192 : 0 ≤ (x21_2 : Int) := of_decide_eq_true (by first | (with_reducible assumption) | assumption)
                                        have q192 : x21_2 < (y175.length : Int) := of_decide_eq_true (by first | (with_reducible assumption) | assumption)
                                        obtain ⟨ad192, e192, hx192_0⟩ := Kd.at_int (Kd.R_reads' HO_19.out).2.2 x21_2 p192 q192
                                        obtain rfl : ad186 = ad192 := (by injection e192)
                                        replace p192 := eq_true p192
                                        replace q192 := eq_true q192
                                        have p193 : 0 ≤ (x20_1 : Int) := of_decide_eq_true (by first | (with_reducible assumption) | assumption)
                                        have q193 : x20_1 < (y172.length : Int) := of_decide_eq_true (by first | (with_reducible assumption) | assumption)
                                        obtain ⟨ad193, A193_0, c193_0, e193, hx193_0, hl193_0, hi193_0⟩ := at_L1 (Kd.N_reads' HO_18.out).2.2 x20_1 p193 q193
                                        obtain rfl : ad187 = ad193 := (by injection e193)
                                        obtain ⟨ce193, hce193, hMe193, hcc193⟩ := Kd.N_get HO_18.out [] x20_1 p193 (by first | exact q193 | exact of_decide_eq_true (by first | (with_reducible assumption) | assumption) | (have e_ := (Kd.N_reads' HO_18.out).1; omega))
                                        obtain ⟨ua193_0, uc193_0, rfl, ul193_0, ge193_0⟩ := Kd.FK_slice_open hMe193
                                        have hv193_0 := hcc193 0 _ rfl
                                        rw [Nat.add_zero, show ((Kd.slice 5 (Kd.int .u8))).sz = 1 from rfl, Nat.mul_one] at hv193_0
                                        replace hv193_0 := Option.some.inj (hv193_0.symm.trans hx193_0)
                                        injection hv193_0 with hva_ hvn_ hvc_
                                        rw [hva_] at ge193_0
                                        rw [hvc_] at ul193_0
                                        have HL193_0 := Aside0.mk (show Kd.V (Kd.int .u8) 5 _ w.heap.size _ _ (rd_L1 y172 x20_1) from Kd.V_mk ul193_0 ge193_0)
                                        clear hva_ hvn_ hvc_ ge193_0 ul193_0
                                        clear hcc193 hce193
                                        have HR193_0 := Aside0.mk hi193_0
                                        have HC193_0 := Aside0.mk hl193_0
                                        clear hi193_0 hl193_0
                                        replace p193 := eq_true p193
                                        replace q193 := eq_true q193
                                        refine start_ (n := 15) (S := fun w' => w'.cell? (ad186.add (x21_2).toNat) = some (.int .i64 (rd y175 x21_2)) ∧ w'.cell? (ad187.add (x20_1).toNat) = some (.slice A193_0 (rd_L1 y172 x20_1).length c193_0)) (ds := []) #[false, false, false, false, false, false, false, false, false, false, false, false, false, false, false] (by kernel_rfl) rfl rfl ⟨hx192_0, hx193_0⟩ (fun hHeld => ?_); refine with_tabW scrimlaw14_PadStrips.tab18 scrimlaw14_PadStrips.bits18 (fun HT_ HW_ => ?_)
                                        generalize w68.drew = w69 at HO_16 HO_18 HO_19 HL187_0 HO191 HR187_0 HB HL193_0 HR193_0 hx192_0 hx193_0 hHeld ⊢
                                        refine pure_ (i := 0) (N := some 91) (v := ?_) (a' := ?_) #[true, false, false, false, false, false, false, false, false, false, false, false, false, false, false] rfl rfl (any_of HT_.out (by kernel_rfl)) (fun _ _ _ h => h) (Or.inl ⟨by rfl, ?_⟩) ?_ ?_
                                        rotate_left
                                        · intro w'
                                          go_simp
                                          with_reducible rfl
                                        rotate_left
                                        · simp only [Act.put, List.setIfInBounds_toArray, List.set_cons_zero, List.set_cons_succ, i64_w, i32_w]
                                          rfl
                                        refine pure_ (i := 1) (N := some 92) (v := ?_) (a' := ?_) #[true, true, false, false, false, false, false, false, false, false, false, false, false, false, false] rfl rfl (any_of HT_.out (by kernel_rfl)) (fun _ _ _ h => h) (Or.inl ⟨by rfl, ?_⟩) ?_ ?_
                                        rotate_left
                                        · intro w'
                                          go_simp
                                          with_reducible rfl
                                        rotate_left
                                        · simp only [Act.put, List.setIfInBounds_toArray, List.set_cons_zero, List.set_cons_succ, i64_w, i32_w]
                                          rfl
                                        refine pure_ (i := 2) (N := some 93) (v := ?_) (a' := ?_) #[true, true, true, false, false, false, false, false, false, false, false, false, false, false, false] rfl rfl (any_of HT_.out (by kernel_rfl)) (fun _ _ _ h => h) (Or.inl ⟨by rfl, ?_⟩) ?_ ?_
                                        rotate_left
                                        · intro w'
                                          go_simp
                                          with_reducible rfl
                                        rotate_left
                                        · simp only [Act.put, List.setIfInBounds_toArray, List.set_cons_zero, List.set_cons_succ, i64_w, i32_w]
                                          rfl
                                        refine pure_ (i := 4) (N := some 95) (v := ?_) (a' := ?_) #[true, true, true, false, true, false, false, false, false, false, false, false, false, false, false] rfl rfl (any_of HT_.out (by kernel_rfl)) (fun _ _ _ h => h) (Or.inl ⟨by rfl, ?_⟩) ?_ ?_
                                        rotate_left
                                        · intro w'
                                          go_simp
                                          with_reducible rfl
                                        rotate_left
                                        · simp only [Act.put, List.setIfInBounds_toArray, List.set_cons_zero, List.set_cons_succ, i64_w, i32_w]
                                          rfl
                                        refine pure_ (i := 5) (N := some 96) (v := ?_) (a' := ?_) #[true, true, true, false, true, true, false, false, false, false, false, false, false, false, false] rfl rfl (any_of HT_.out (by kernel_rfl)) (fun _ _ _ h => h) (Or.inl ⟨by rfl, ?_⟩) ?_ ?_
                                        rotate_left
                                        · intro w'
                                          go_simp
                                          with_reducible rfl
                                        rotate_left
                                        · simp only [Act.put, List.setIfInBounds_toArray, List.set_cons_zero, List.set_cons_succ, i64_w, i32_w]
                                          rfl
                                        refine pure_ (i := 6) (N := some 97) (v := ?_) (a' := ?_) #[true, true, true, false, true, true, true, false, false, false, false, false, false, false, false] rfl rfl (any_of HT_.out (by kernel_rfl)) (fun _ _ _ h => h) (Or.inl ⟨by rfl, ?_⟩) ?_ ?_
                                        rotate_left
                                        · intro w'
                                          go_simp
                                          with_reducible rfl
                                        rotate_left
                                        · simp only [Act.put, List.setIfInBounds_toArray, List.set_cons_zero, List.set_cons_succ, i64_w, i32_w]
                                          rfl
                                        refine pure_ (i := 7) (N := some 98) (v := ?_) (a' := ?_) #[true, true, true, false, true, true, true, true, false, false, false, false, false, false, false] rfl rfl (any_of HT_.out (by kernel_rfl)) (fun _ _ _ h => h) (Or.inl ⟨by rfl, ?_⟩) ?_ ?_
                                        rotate_left
                                        · intro w'
                                          go_simp
                                          with_reducible rfl
                                        rotate_left
                                        · simp only [Act.put, List.setIfInBounds_toArray, List.set_cons_zero, List.set_cons_succ, i64_w, i32_w]
                                          rfl
                                        refine take_ (i := 3) (N := some 94) (v := ?_) (a' := ?_) #[true, true, true, true, true, true, true, true, false, false, false, false, false, false, false] rfl rfl (take_ofW HT_.out HW_.out (by kernel_rfl)) (fun _ _ _ h => h) (Or.inl ⟨by rfl, ?_⟩) hHeld ?_ ?_
                                        rotate_left
                                        · rintro w' ⟨s0, s1⟩
                                          go_simp
                                          with_reducible rfl
                                        rotate_left
                                        · simp only [Act.put, List.setIfInBounds_toArray, List.set_cons_zero, List.set_cons_succ, i64_w, i32_w]
                                          rfl
                                        refine take_ (i := 8) (N := some 99) (v := ?_) (a' := ?_) #[true, true, true, true, true, true, true, true, true, false, false, false, false, false, false] rfl rfl (take_ofW HT_.out HW_.out (by kernel_rfl)) (fun _ _ _ h => h) (Or.inl ⟨by rfl, ?_⟩) hHeld ?_ ?_
                                        rotate_left
                                        · rintro w' ⟨s0, s1⟩
                                          go_simp
                                          with_reducible rfl
                                        rotate_left
                                        · simp only [Act.put, List.setIfInBounds_toArray, List.set_cons_zero, List.set_cons_succ, i64_w, i32_w]
                                          rfl
                                        refine one_ (i := 9) (N := some 100) #[true, true, true, true, true, true, true, true, true, true, false, false, false, false, false] rfl rfl (one_of HT_.out (by kernel_rfl)) (by decide) (fun K hK => ?_)
                                        refine goes_ Try.func16 (by kernel_rfl) rfl #[.int .i64 (rd y175 x21_2), .int .i64 (rd y152 t155), .slice A193_0 (rd_L1 y172 x20_1).length c193_0] (by rfl) rfl rfl (by (try simp only [List.map_toArray, List.map_cons, List.map_nil]); first | done | rfl | (simp only [List.length_drop, List.length_take]; rfl)) ?_
                                        with_reducible refine (scrimref14_Strip.calls k2 (rd y175 x21_2) (rd y152 t155) _ _ (rd_L1 y172 x20_1) t194 t195 _ ?side1 ?side2 A49.out).mono ?_
                                        (case side1 => repeat (first | exact (by repeat (first | (with_reducible exact HR193_0.out) | (with_reducible refine Kd.C_alloc ?_ _) | (with_reducible refine Kd.C_drewN ?_ _) | (with_reducible refine Kd.C_drew ?_) | exact HR193_0.out)) | (with_reducible refine Kd.C_alloc ?_ _) | (with_reducible refine Kd.C_drewN ?_ _) | (with_reducible refine Kd.C_drew ?_)))
                                        (case side2 => exact HC193_0.out)
                                        rintro e w70 ⟨v196, rfl, ho0, hb⟩
                                        have HS0_ := (hb.cell (World.block_lt_of_cell? _ _ (hHeld.1))).trans (hHeld.1)
                                        have HS1_ := (hb.cell (World.block_lt_of_cell? _ _ (hHeld.2))).trans (hHeld.2)
                                        refine ⟨_, rfl, ?_⟩
                                        have n0_ := Aside0.mk (Kd.R_elder' (by (with_reducible repeat (first | apply Kd.R_alloc | apply Kd.R_drewN | apply Kd.R_drew)); exact HO_16.out) (Kd.R_base ho0) hb)
                                        have n1_ := Aside0.mk (Kd.N_elder' (by (with_reducible repeat (first | apply Kd.N_alloc | apply Kd.N_drewN | apply Kd.N_drew)); exact HO_18.out) (Kd.R_base ho0) hb)
                                        have n2_ := Aside0.mk (Kd.R_below (by (with_reducible repeat (first | apply Kd.R_alloc | apply Kd.R_drewN | apply Kd.R_drew)); exact HO_19.out) hb)
                                        have n3_ := Aside0.mk (Kd.V_elder' (by (with_reducible repeat (first | apply Kd.V_alloc | apply Kd.V_drewN | apply Kd.V_drew)); exact HL187_0.out) (Kd.R_base ho0) hb)
                                        have n4_ := Aside0.mk (Kd.R_elder' (by (with_reducible repeat (first | apply Kd.R_alloc | apply Kd.R_drewN | apply Kd.R_drew)); exact HO191.out) (Kd.R_base ho0) hb)
                                        have n5_ := Aside0.mk (Kd.V_elder' (by (with_reducible repeat (first | apply Kd.V_alloc | apply Kd.V_drewN | apply Kd.V_drew)); exact HL193_0.out) (Kd.R_base ho0) hb)
                                        have n6_ := Aside0.mk (Kd.R_lower (Kd.R_new' (Kd.R_new' (Kd.R_newM (M := fun k_ => (w.heap.size ≤ k_)) ho0 (below_size (by repeat (first | (with_reducible first | exact HB.out | apply below_alloc | apply pw_below_drewN | apply below_drew1) | exact HB.out))) (fun k_ h_ => h_)) (Kd.R_lt (by (with_reducible repeat (first | apply Kd.R_alloc | apply Kd.R_drewN | apply Kd.R_drew)); exact HO_16.out))) (Kd.R_lt (by (with_reducible repeat (first | apply Kd.R_alloc | apply Kd.R_drewN | apply Kd.R_drew)); exact HO191.out))) (below_size (by repeat (first | (with_reducible first | exact HB.out | apply below_alloc | apply pw_below_drewN | apply below_drew1) | exact HB.out))))
                                        have n7_ := Aside0.mk (Kd.C_below (by repeat (first | (with_reducible exact HR187_0.out) | (with_reducible refine Kd.C_alloc ?_ _) | (with_reducible refine Kd.C_drewN ?_ _) | (with_reducible refine Kd.C_drew ?_) | exact HR187_0.out)) hb)
                                        have n8_ := Aside0.mk (Kd.C_below (by repeat (first | (with_reducible exact HR193_0.out) | (with_reducible refine Kd.C_alloc ?_ _) | (with_reducible refine Kd.C_drewN ?_ _) | (with_reducible refine Kd.C_drew ?_) | exact HR193_0.out)) hb)
                                        have n9_ := Aside0.mk (below_step (by repeat (first | (with_reducible first | exact HB.out | apply below_alloc | apply pw_below_drewN | apply below_drew1) | exact HB.out)) hb)
                                        clear HO_16
                                        clear HO_18
                                        clear HO_19
                                        clear HL187_0
                                        clear HO191
                                        clear HL193_0
                                        clear HR187_0
                                        clear HR193_0
                                        clear HB
                                        have HO_16 := n0_
                                        have HO_18 := n1_
                                        have HO_19 := n2_
                                        have HL187_0 := n3_
                                        have HO191 := n4_
                                        have HL193_0 := n5_
                                        have HO197 := n6_
                                        have HR187_0 := n7_
                                        have HR193_0 := n8_
                                        have HB := n9_
                                        clear n0_ n1_ n2_ n3_ n4_ n5_ n6_ n7_ n8_ n9_
                                        (try clear hb)
                                        (try clear hb2)
                                        (try clear hk)
                                        (try clear hi)
                                        (try clear ho0)
                                        refine hK.out _ _ ⟨HS0_, HS1_⟩ (fun hHeld => ?_)
                                        clear hK K
                                        refine norm_ (a' := ?_) ?_ ?_
                                        rotate_left
                                        · show Act.put _ (some 100) _ = _
                                          simp only [Act.put, List.setIfInBounds_toArray, List.set_cons_zero, List.set_cons_succ, i64_w, i32_w]
                                          rfl
                                        refine pure_ (i := 10) (N := some 90) (v := ?_) (a' := ?_) #[true, true, true, true, true, true, true, true, true, true, true, false, false, false, false] rfl rfl (any_of HT_.out (by kernel_rfl)) (fun _ _ _ h => h) (Or.inl ⟨by rfl, ?_⟩) ?_ ?_
                                        rotate_left
                                        · intro w'
                                          go_simp
                                          with_reducible rfl
                                        rotate_left
                                        · simp only [Act.put, List.setIfInBounds_toArray, List.set_cons_zero, List.set_cons_succ, i64_w, i32_w]
                                          rfl
                                        refine pure_ (i := 11) (N := some 101) (v := ?_) (a' := ?_) #[true, true, true, true, true, true, true, true, true, true, true, true, false, false, false] rfl rfl (any_of HT_.out (by kernel_rfl)) (fun _ _ _ h => h) (Or.inl ⟨by rfl, ?_⟩) ?_ ?_
                                        rotate_left
                                        · intro w'
                                          go_simp
                                          with_reducible rfl
                                        rotate_left
                                        · simp only [Act.put, List.setIfInBounds_toArray, List.set_cons_zero, List.set_cons_succ, i64_w, i32_w]
                                          rfl
                                        refine pure_ (i := 12) (N := some 102) (v := ?_) (a' := ?_) #[true, true, true, true, true, true, true, true, true, true, true, true, true, false, false] rfl rfl (any_of HT_.out (by kernel_rfl)) (fun _ _ _ h => h) (Or.inl ⟨by rfl, ?_⟩) ?_ ?_
                                        rotate_left
                                        · intro w'
                                          go_simp
                                          with_reducible rfl
                                        rotate_left
                                        · simp only [Act.put, List.setIfInBounds_toArray, List.set_cons_zero, List.set_cons_succ, i64_w, i32_w]
                                          rfl
                                        refine pure_ (i := 13) (N := some 24) (v := ?_) (a' := ?_) #[true, true, true, true, true, true, true, true, true, true, true, true, true, true, false] rfl rfl (any_of HT_.out (by kernel_rfl)) (fun _ _ _ h => h) (Or.inl ⟨by rfl, ?_⟩) ?_ ?_
                                        rotate_left
                                        · intro w'
                                          go_simp
                                          with_reducible rfl
                                        rotate_left
                                        · simp only [Act.put, List.setIfInBounds_toArray, List.set_cons_zero, List.set_cons_succ, i64_w, i32_w]
                                          rfl
                                        refine pure_ (i := 14) (N := some 25) (v := ?_) (a' := ?_) #[true, true, true, true, true, true, true, true, true, true, true, true, true, true, true] rfl rfl (any_of HT_.out (by kernel_rfl)) (fun _ _ _ h => h) (Or.inl ⟨by rfl, ?_⟩) ?_ ?_
                                        rotate_left
                                        · intro w'
                                          go_simp
                                          with_reducible rfl
                                        rotate_left
                                        · simp only [Act.put, List.setIfInBounds_toArray, List.set_cons_zero, List.set_cons_succ, i64_w, i32_w]
                                          rfl
                                        refine done_ (done_of HT_.out (by kernel_rfl)) ?_
                                        try go_wp2
                                        go_ret
                                        exact ⟨by first | rfl | (simp [errW_none, errW_some] <;> rfl) | (simp [*, errW_none, errW_some] <;> rfl), by repeat (first | (with_reducible first | exact HB.out | apply below_alloc | apply pw_below_drewN | apply below_drew1) | exact HB.out)⟩
                                    · rw [if_neg c47] at H
                                      exact absurd H (by simp)
                                  · rw [if_neg c46] at H
                                    exact absurd H (by simp)
                                · rw [if_neg c45] at H
                                  exact absurd H (by simp)
                              · rw [if_neg c44] at H
                                have c44b0 : decide (x21_2 < (y175.length : Int)) = false := decide_eq_false c44
                                clear c44
                                have H' := Aside0.mk H
                                clear H
                                obtain ⟨Ao71, co71, eo71⟩ := Kd.R_slice HO_19.out
                                subst eo71
                                go_wp2
                                go_roundg k2
                                case measure => have := HK1.out; have := HK2.out; omega
                                case rel => exact ⟨(wrap64 (x20_1 + 1)), (by first | rfl | (simp; done) | (simp [*]; done)), H', ⟨by have := HK1.out; have := HK2.out; omega⟩, ⟨by (with_reducible repeat (first | apply Kd.R_alloc | apply Kd.R_drewN | apply Kd.R_drew)); exact HO_16.out⟩, ⟨by (with_reducible repeat (first | apply Kd.N_alloc | apply Kd.N_drewN | apply Kd.N_drew)); exact HO_18.out⟩, ⟨by (with_reducible repeat (first | apply Kd.R_alloc | apply Kd.R_drewN | apply Kd.R_drew)); exact HO_19.out⟩, ⟨by repeat (first | (with_reducible first | exact HB.out | apply below_alloc | apply pw_below_drewN | apply below_drew1) | exact HB.out)⟩⟩
                        · rw [if_neg c42] at H
                          have c42b0 : decide (x20_1 < (y172.length : Int)) = false := decide_eq_false c42
                          clear c42
                          replace H := Option.bind_eq_some_iff.mp H
                          obtain ⟨⟨t178, t179⟩, A720, H⟩ := H
                          replace H : ((scrimref14_Strip.f k1 2 a6 t157).bind fun bt182 => (some (t179 == bt182.2))) = some r := H
                          have A72 := Aside0.mk A720
                          clear A720
                          replace H := Option.bind_eq_some_iff.mp H
                          obtain ⟨⟨t182, t183⟩, A730, H⟩ := H
                          replace H : (some (t179 == t183)) = some r := H
                          have A73 := Aside0.mk A730
                          clear A730
                          obtain rfl := Option.some.inj H
                          obtain ⟨Ao74, co74, eo74⟩ := Kd.N_slice HO_18.out
                          subst eo74
                          go_wp2_with (first | ((with_reducible refine gate_callee (f := 15) rfl ?_); refine goesL_ (some 116) rfl rfl Try.func15 (by kernel_rfl) rfl #[.int .i64 2, .int .i64 a6, .slice Ao31 t157.length co31] rfl (by (try simp only [List.map_toArray, List.map_cons, List.map_nil]); first | done | rfl | (simp only [List.length_drop, List.length_take]; rfl)) ?_; (with_reducible refine (pad_Strip.calls k1 2 a6 _ _ t157 t178 t179 _ ?side1 ?side2 A72.out).mono ?_); (case side1 => repeat (first | exact (Kd.R_reads' HO_16.out).2.2 | (with_reducible refine Kd.C_alloc ?_ _) | (with_reducible refine Kd.C_drewN ?_ _) | (with_reducible refine Kd.C_drew ?_))); (case side2 => exact (Kd.R_reads' HO_16.out).2.1); rintro e w75 ⟨v180, rfl, ho0, hb⟩; refine ⟨_, rfl, ?_⟩; have n0_ := Aside0.mk (Kd.R_elder' (by (with_reducible repeat (first | apply Kd.R_alloc | apply Kd.R_drewN | apply Kd.R_drew)); exact HO_16.out) (Kd.R_base ho0) hb); have n1_ := Aside0.mk (Kd.N_elder' (by (with_reducible repeat (first | apply Kd.N_alloc | apply Kd.N_drewN | apply Kd.N_drew)); exact HO_18.out) (Kd.R_base ho0) hb); have n2_ := Aside0.mk (Kd.R_below (by (with_reducible repeat (first | apply Kd.R_alloc | apply Kd.R_drewN | apply Kd.R_drew)); exact HO_19.out) hb); have n3_ := Aside0.mk (Kd.R_lower (Kd.R_new' (Kd.R_newM (M := fun k_ => (w.heap.size ≤ k_)) ho0 (below_size (by repeat (first | (with_reducible first | exact HB.out | apply below_alloc | apply pw_below_drewN | apply below_drew1) | exact HB.out))) (fun k_ h_ => h_)) (Kd.R_lt (by (with_reducible repeat (first | apply Kd.R_alloc | apply Kd.R_drewN | apply Kd.R_drew)); exact HO_16.out))) (below_size (by repeat (first | (with_reducible first | exact HB.out | apply below_alloc | apply pw_below_drewN | apply below_drew1) | exact HB.out)))); have n4_ := Aside0.mk (below_step (by repeat (first | (with_reducible first | exact HB.out | apply below_alloc | apply pw_below_drewN | apply below_drew1) | exact HB.out)) hb); clear HO_16; clear HO_18; clear HO_19; clear HB; have HO_16 := n0_; have HO_18 := n1_; have HO_19 := n2_; have HO181 := n3_; have HB := n4_; clear n0_ n1_ n2_ n3_ n4_; (try clear hb); (try clear hb2); (try clear hk); (try clear hi); (try clear ho0)) | ((with_reducible refine gate_callee (f := 16) rfl ?_); refine goesL_ (some 122) rfl rfl Try.func16 (by kernel_rfl) rfl #[.int .i64 2, .int .i64 a6, .slice Ao31 t157.length co31] rfl (by (try simp only [List.map_toArray, List.map_cons, List.map_nil]); first | done | rfl | (simp only [List.length_drop, List.length_take]; rfl)) ?_; (with_reducible refine (scrimref14_Strip.calls k1 2 a6 _ _ t157 t182 t183 _ ?side1 ?side2 A73.out).mono ?_); (case side1 => repeat (first | exact (Kd.R_reads' HO_16.out).2.2 | (with_reducible refine Kd.C_alloc ?_ _) | (with_reducible refine Kd.C_drewN ?_ _) | (with_reducible refine Kd.C_drew ?_))); (case side2 => exact (Kd.R_reads' HO_16.out).2.1); rintro e w76 ⟨v184, rfl, ho0, hb⟩; refine ⟨_, rfl, ?_⟩; have n0_ := Aside0.mk (Kd.R_elder' (by (with_reducible repeat (first | apply Kd.R_alloc | apply Kd.R_drewN | apply Kd.R_drew)); exact HO_16.out) (Kd.R_base ho0) hb); have n1_ := Aside0.mk (Kd.N_elder' (by (with_reducible repeat (first | apply Kd.N_alloc | apply Kd.N_drewN | apply Kd.N_drew)); exact HO_18.out) (Kd.R_base ho0) hb); have n2_ := Aside0.mk (Kd.R_below (by (with_reducible repeat (first | apply Kd.R_alloc | apply Kd.R_drewN | apply Kd.R_drew)); exact HO_19.out) hb); have n3_ := Aside0.mk (Kd.R_elder' (by (with_reducible repeat (first | apply Kd.R_alloc | apply Kd.R_drewN | apply Kd.R_drew)); exact HO181.out) (Kd.R_base ho0) hb); have n4_ := Aside0.mk (Kd.R_lower (Kd.R_new' (Kd.R_new' (Kd.R_newM (M := fun k_ => (w.heap.size ≤ k_)) ho0 (below_size (by repeat (first | (with_reducible first | exact HB.out | apply below_alloc | apply pw_below_drewN | apply below_drew1) | exact HB.out))) (fun k_ h_ => h_)) (Kd.R_lt (by (with_reducible repeat (first | apply Kd.R_alloc | apply Kd.R_drewN | apply Kd.R_drew)); exact HO_16.out))) (Kd.R_lt (by (with_reducible repeat (first | apply Kd.R_alloc | apply Kd.R_drewN | apply Kd.R_drew)); exact HO181.out))) (below_size (by repeat (first | (with_reducible first | exact HB.out | apply below_alloc | apply pw_below_drewN | apply below_drew1) | exact HB.out)))); have n5_ := Aside0.mk (below_step (by repeat (first | (with_reducible first | exact HB.out | apply below_alloc | apply pw_below_drewN | apply below_drew1) | exact HB.out)) hb); clear HO_16; clear HO_18; clear HO_19; clear HO181; clear HB; have HO_16 := n0_; have HO_18 := n1_; have HO_19 := n2_; have HO181 := n3_; have HO185 := n4_; have HB := n5_; clear n0_ n1_ n2_ n3_ n4_ n5_; (try clear hb); (try clear hb2); (try clear hk); (try clear hi); (try clear ho0)))
                          go_ret
                          exact ⟨by first | rfl | (simp [errW_none, errW_some] <;> rfl) | (simp [*, errW_none, errW_some] <;> rfl), by repeat (first | (with_reducible first | exact HB.out | apply below_alloc | apply pw_below_drewN | apply below_drew1) | exact HB.out)⟩
                  · rw [if_neg c22] at H
                    exact absurd H (by simp)
                · rw [if_neg c21] at H
                  exact absurd H (by simp)
              · rw [if_neg c19] at H
                exact absurd H (by simp)
            · rw [if_neg c18] at H
              exact absurd H (by simp)
          · rw [if_neg c16] at H
            exact absurd H (by simp)
        · rw [if_neg c14] at H
          exact absurd H (by simp)
      · rw [if_neg c13] at H
        exact absurd H (by simp)
  · replace c9 := Bool.eq_false_iff.mpr c9
    subst c9
    have H1 : (some false) = some r := by rw [if_neg (show ¬ (false = true) by decide)] at H; exact H
    clear H
    have H := H1
    clear H1
    obtain rfl := Option.some.inj H
    go_enter Try.func4, Try.ntmps4
    go_wp2_with (first | ((with_reducible refine gate_callee (f := 10) rfl ?_); refine goesL_ (some 30) rfl rfl Try.func10 (by kernel_rfl) rfl #[] rfl (by (try simp only [List.map_toArray, List.map_cons, List.map_nil]); first | done | rfl | (simp only [List.length_drop, List.length_take]; rfl)) ?_; (with_reducible refine (scrimlaw14_known.calls k  false _ A8.out).mono ?_); rintro e w77 ⟨rfl, hb⟩; refine ⟨_, rfl, ?_⟩; have n0_ := Aside0.mk (Kd.V_below (by (with_reducible repeat (first | apply Kd.V_alloc | apply Kd.V_drewN | apply Kd.V_drew)); exact HO1.out) hb); have n1_ := Aside0.mk (below_step (by repeat (first | (with_reducible first | exact HB.out | apply below_alloc | apply pw_below_drewN | apply below_drew1) | exact HB.out)) hb); clear HO1; clear HB; have HO1 := n0_; have HB := n1_; clear n0_ n1_; (try clear hb); (try clear hb2); (try clear hk); (try clear hi)))
    go_ret
    exact ⟨by first | rfl | (simp [errW_none, errW_some] <;> rfl) | (simp [*, errW_none, errW_some] <;> rfl), by repeat (first | (with_reducible first | exact HB.out | apply below_alloc | apply pw_below_drewN | apply below_drew1) | exact HB.out)⟩

/-- THE ONE PURE STATEMENT of scrimlaw14_PadStrips: yours. -/
def scrimlaw14_PadStrips.Pure : Prop := ∀ (a0 : Int) (l1 : List Int) (a2 : Int) (a3 : Int) (a4 : Int) (a5 : Int) (a6 : Int), (Lit.int .i64 a0).wf = true → l1.length ≤ maxLen → l1.length * 1 ≤ 140737488351232 → (∀ x ∈ l1, (Lit.int .u8 x).wf = true) → (Lit.int .i64 a2).wf = true → (Lit.int .i64 a3).wf = true → (Lit.int .i64 a4).wf = true → (Lit.int .u8 a5).wf = true → (Lit.int .i64 a6).wf = true → ∃ k, scrimlaw14_PadStrips.f k a0 l1 a2 a3 a4 a5 a6 = some true
theorem scrimlaw14_PadStrips.walk (P : scrimlaw14_PadStrips.Pure) (a0 : Int) (a1 : Option Addr) (len1 cap1 : Nat) (z1 : List Int) (a2 : Int) (a3 : Int) (a4 : Int) (a5 : Int) (a6 : Int) (w : World) (w0 : (Lit.int .i64 a0).wf = true) (w1 : (a1 = none ∧ len1 = 0 ∧ cap1 = 0 ∧ z1 = []) ∨ ∃ x, a1 = some x ∧ len1 ≤ cap1 ∧ cap1 ≤ maxLen ∧ z1.length = cap1 ∧ (∀ i, i < z1.length → w.cell? (x.add i) = some (.int .u8 (z1.getD i 0))) ∧ ∀ n ∈ z1, (Lit.int .u8 n).wf = true) (y1 : len1 * 1 ≤ 140737488351232) (w2 : (Lit.int .i64 a2).wf = true) (w3 : (Lit.int .i64 a3).wf = true) (w4 : (Lit.int .i64 a4).wf = true) (w5 : (Lit.int .u8 a5).wf = true) (w6 : (Lit.int .i64 a6).wf = true) :
    Calls Try.prog 4 #[.int .i64 a0, .slice a1 len1 cap1, .int .i64 a2, .int .i64 a3, .int .i64 a4, .int .u8 a5, .int .i64 a6] w fun e w' => e = .returned (.bool true) ∧ Below w.heap.size w w' := by
  obtain ⟨l1, rfl, hr1, hm1, hw1, hc1⟩ := ReadsInt.ofRowC w1
  obtain ⟨k, h⟩ := P a0 l1 a2 a3 a4 a5 a6 w0 hm1 y1 hw1 w2 w3 w4 w5 w6
  refine (scrimlaw14_PadStrips.calls k a0 (fun _ => True) _ _ l1 a2 a3 a4 a5 a6 true w (Kd.V_mk hc1 (fun W' hW => Kd.C_of_reads (d := (0 : Int)) (h1 := fun _ => rfl) ⟨hr1.1, hr1.2.1, fun hn => by obtain ⟨ad, e, hc⟩ := hr1.2.2 hn; exact ⟨ad, e, fun j hj => (World.cell?_of_block (w := w) (hW _ trivial (World.block_lt_of_cell? w _ (hc j hj)))).trans (hc j hj)⟩⟩)) h).mono ?_
  rintro e w' ⟨rfl, hd⟩
  exact ⟨rfl, hd⟩

end Go.Proofs.Ythpeffpafpfkcaa.MPadStrips
