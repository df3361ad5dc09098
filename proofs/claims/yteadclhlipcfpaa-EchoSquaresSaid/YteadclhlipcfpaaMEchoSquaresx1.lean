/- A walk: each Go function that is named here answers what its plain function answers. Conditions: its arguments are read as lists and numbers. -/
import Derived.Test.YteadclhlipcfpaaMEchoSquaresx0
namespace Go.Proofs.Yteadclhlipcfpaa.MEchoSquares
open Go.RowKit Go.Proofs.YteadclhlipcfpaaW.PrintWords Go.Proofs.YteadclhlipcfpaaW.PrintLast Go.Proofs.YteadclhlipcfpaaW.PrintMore
open Go.Proofs.Yteadclhlipcfpaa.FloWords
attribute [local go_sem] run_cx_add run_cx_sub run_cx_mul run_fl_add run_fl_quo run_neg_fl run_fl_int run_eql_complex run_neq_complex
attribute [local go_sem] max2_int min2_int max_two min_two max_three min_three max_four min_four   -- for this text's walks alone
set_option linter.unusedVariables false
set_option linter.unusedSimpArgs false

/-! ### echo_Turn: function 14 -/
def turnB (r : Nat) : Nat × Nat := if r = 1 then (0, 4607182418800017408) else if r = 2 then (13830554455654793216, 0) else if r = 3 then (0, 13830554455654793216) else (4607182418800017408, 0)
def echo_Turn.f (a0 : Int) : Option (Nat × Nat) := some (turnB (a0 % 4).toNat)
def intOf : Value → Int | .int _ q => q | _ => 0
theorem turn_rest (a : Int) : Int.tmod (wrap64 (Int.tmod a 4 + 4)) 4 = a % 4 := by
  have e := Int.tmod_eq_emod (a := a) (b := 4)
  have l1 := Int.emod_nonneg a (by omega : (4 : Int) ≠ 0)
  have l2 := Int.emod_lt_of_pos a (by omega : (0 : Int) < 4)
  have hx : -4 < Int.tmod a 4 ∧ Int.tmod a 4 < 4 ∧ (Int.tmod a 4 = a % 4 ∨ Int.tmod a 4 = a % 4 - 4) := by
    by_cases hc : 0 ≤ a ∨ (4 : Int) ∣ a
    · rw [if_pos hc] at e; omega
    · have hnz : a % 4 ≠ 0 := fun z => hc (.inr (Int.dvd_of_emod_eq_zero z))
      rw [if_neg hc] at e
      have h4 : ((4 : Int).natAbs : Int) = 4 := rfl
      rw [h4] at e
      omega
  generalize Int.tmod a 4 = x at hx
  have hw : wrap64 (x + 4) = x + 4 := by unfold wrap64; omega
  rw [hw, Int.tmod_eq_emod_of_nonneg (by omega)]
  omega
theorem turn_ok1 (j : Nat) : ((floatBits .add .f64 (Op.negFloat .f64 (turnB j).2) 0).isSome = true) = True := by
  unfold turnB; split
  · exact eq_true (by decide +kernel)
  · split
    · exact eq_true (by decide +kernel)
    · split <;> exact eq_true (by decide +kernel)
theorem turn_ok2 (j : Nat) : ((floatBits .add .f64 (turnB j).1 0).isSome = true) = True := by
  unfold turnB; split
  · exact eq_true (by decide +kernel)
  · split
    · exact eq_true (by decide +kernel)
    · split <;> exact eq_true (by decide +kernel)
theorem turn_step (j : Nat) (h : j < 3) : fres .add (Op.negFloat .f64 (turnB j).2) 0 = (turnB (j + 1)).1 ∧ fres .add (turnB j).1 0 = (turnB (j + 1)).2 := by
  have : j = 0 ∨ j = 1 ∨ j = 2 := by omega
  rcases this with rfl | rfl | rfl <;> decide +kernel
set_option maxHeartbeats 8000000 in
set_option maxRecDepth 100000 in
theorem echo_Turn.calls (a0 : Int) (r : Nat × Nat) (w : World) (h : echo_Turn.f a0 = some r) :
    Calls Try.prog 14 #[.int .i64 a0] w fun e w' => e = .returned (.complex .f64 r.1 r.2) ∧ Drawn0 w w' := by
  obtain rfl := Option.some.inj h
  clear h
  go_enter Try.func14, Try.ntmps14
  go_wp2
  have hr4 : (a0 % 4).toNat < 4 := by omega
  refine wp_scope_jumps 0 (fun a' w' => Drawn0 w w' ∧ ∃ (m j : Nat) (u1 u4 u5 u6 u7 u8 u9 u10 u11 u12 u13 u14 u15 u16 u17 u18 u19 u20 : Value), a' = { tmps := #[.int .i64 (m : Int), u1, .complex .f64 0 0, .complex .f64 (turnB j).1 (turnB j).2, u4, u5, u6, u7, u8, u9, u10, u11, u12, u13, u14, u15, u16, u17, u18, u19, u20], defers := [] } ∧ m + j = (a0 % 4).toNat) (fun a' _ => (intOf (a'.tmps.getD 0 undef)).toNat) rfl ?_ ?_
  · go_wp2
    go_step3
    have g0 := turn_rest a0
    have g3 : 0 ≤ a0 % 4 := by omega
    have g1 := turn_ok1 0
    have g2 := turn_ok2 0
    have z1 : (turnB 0).1 = 4607182418800017408 := rfl
    have z2 : (turnB 0).2 = 0 := rfl
    rw [z2] at g1
    rw [z1] at g2
    go_wp2
    · go_step3
      have st := turn_step 0 (by omega)
      rw [z1, z2] at st
      obtain ⟨m, hm⟩ : ∃ m, (a0 % 4).toNat = m + 1 := ⟨(a0 % 4).toNat - 1, by omega⟩
      rw [st.1, st.2, show a0 % 4 - 1 = (m : Int) by omega]
      exact ⟨rfl, Drawn0.refl _, m, 1, _, _, _, _, _, _, _, _, _, _, _, _, _, _, _, _, _, _, rfl, by omega⟩
    · simp only [Exit.jump]
      go_ret
      have hz : (a0 % 4).toNat = 0 := by omega
      rw [hz]
      exact ⟨rfl, Drawn0.refl _⟩
  · rintro a' w' ⟨hd, m, j, u1, u4, u5, u6, u7, u8, u9, u10, u11, u12, u13, u14, u15, u16, u17, u18, u19, u20, rfl, hmj⟩
    have g1 := turn_ok1 j
    have g2 := turn_ok2 j
    go_wp2
    · go_step3
      have st := turn_step j (by omega)
      obtain ⟨m, rfl⟩ : ∃ q, m = q + 1 := ⟨m - 1, by omega⟩
      rw [st.1, st.2, show ((m + 1 : Nat) : Int) - 1 = (m : Int) by omega]
      refine ⟨rfl, ⟨hd, m, j + 1, _, _, _, _, _, _, _, _, _, _, _, _, _, _, _, _, _, _, rfl, by omega⟩, ?_⟩
      simp [intOf]
    · simp only [Exit.jump]
      go_ret
      have hz : (a0 % 4).toNat = j := by omega
      rw [hz]
      exact ⟨rfl, hd⟩

/-! ### echo_Power: function 15 -/
def echo_Power.f (a0 : Nat × Nat) : Option (Int) := if (floatToIntVal .f64 a0.1 .i64).isSome = true then (if (floatToIntVal .f64 a0.2 .i64).isSome = true then (some (wrap64 ((wrap64 ((ires .i64 a0.1) * (ires .i64 a0.1))) + (wrap64 ((ires .i64 a0.2) * (ires .i64 a0.2)))))) else (none)) else (none)
set_option maxHeartbeats 8000000 in
set_option maxRecDepth 100000 in
theorem echo_Power.calls (a0 : Nat × Nat) (r : Int) (w : World) (h : echo_Power.f a0 = some r) :
    Calls Try.prog 15 #[.complex .f64 a0.1 a0.2] w fun e w' => e = .returned (.int .i64 r) ∧ Below w.heap.size w w' := by
  have HB := Aside0.mk (Below.refl w.heap.size w)
  have H : (if (floatToIntVal .f64 a0.1 .i64).isSome = true then (if (floatToIntVal .f64 a0.2 .i64).isSome = true then (some (wrap64 ((wrap64 ((ires .i64 a0.1) * (ires .i64 a0.1))) + (wrap64 ((ires .i64 a0.2) * (ires .i64 a0.2)))))) else (none)) else (none)) = some r := h
  clear h
  by_cases c2 : (floatToIntVal .f64 a0.1 .i64).isSome = true
  · rw [if_pos c2] at H
    have c2b0 := eq_true c2
    have c2b1 : decide ((floatToIntVal .f64 a0.1 .i64).isSome = true) = true := decide_eq_true c2
    clear c2
    by_cases c3 : (floatToIntVal .f64 a0.2 .i64).isSome = true
    · rw [if_pos c3] at H
      have c3b0 := eq_true c3
      have c3b1 : decide ((floatToIntVal .f64 a0.2 .i64).isSome = true) = true := decide_eq_true c3
      clear c3
      obtain rfl := Option.some.inj H
      go_enter Try.func15, Try.ntmps15
      go_wp2
      go_ret
      exact ⟨by first | rfl | (simp [errW_none, errW_some] <;> rfl) | (simp [*, errW_none, errW_some] <;> rfl), by repeat (first | (with_reducible first | exact HB.out | apply below_alloc | apply pw_below_drewN | apply below_drew1) | exact HB.out)⟩
    · rw [if_neg c3] at H
      exact absurd H (by simp)
  · rw [if_neg c2] at H
    exact absurd H (by simp)

/-! ### echo_Echo: function 16 -/
def echo_Echo.l0 : Nat → List Int → Int → Nat × Nat → Int → Option (Nat × Nat)
  | 0, _, _, _, _ => none
  | k + 1, t, a, s, x => if x < (t.length : Int) then (echo_Turn.f (wrap64 ((wrap64 (rd t x)) - wrap64 ((Int.tmod a 4) * (x % 4))))).bind fun z => (if (cop .add s.1 s.2 z.1 z.2).isSome = true then echo_Echo.l0 k t a (cres .add s.1 s.2 z.1 z.2) (wrap64 (x + 1)) else none) else some s
def echo_Echo.f (k : Nat) (l0 : List Int) (a1 : Int) : Option (Nat × Nat) := echo_Echo.l0 k l0 a1 (0, 0) 0
theorem echo_Echo.mono_l : ∀ k, (∀ y0 y1 y2 y3, LeO (echo_Echo.l0 k y0 y1 y2 y3) (echo_Echo.l0 (k + 1) y0 y1 y2 y3))
  | 0 => fun _ _ _ _ r h => by simp [echo_Echo.l0] at h
  | k + 1 => by
    have ih0 := echo_Echo.mono_l k
    · intro y0 y1 y2 y3
      unfold echo_Echo.l0
      repeat' first
      | (with_reducible exact ih0 _ _ _ _)
      | (with_reducible exact LeO.refl _)
      | (with_reducible exact LeO.none _)
      | (with_reducible refine LeO.ite ?_ ?_)
      | (with_reducible refine LeO.bind ?_ (fun _ => ?_))
      | exact ih0 _ _ _ _
      | exact LeO.none _
      | refine LeO.ite ?_ ?_
      | refine LeO.bind ?_ (fun _ => ?_)
theorem echo_Echo.mono : ∀ a0 a1 k, LeO (echo_Echo.f k a0 a1) (echo_Echo.f (k + 1) a0 a1) := fun a0 a1 k => echo_Echo.mono_l k _ _ _ _
set_option maxHeartbeats 8000000 in
set_option maxRecDepth 100000 in
theorem echo_Echo.calls (k : Nat) (A0 : Option Addr) (c0 : Nat) (l0 : List Int) (a1 : Int) (r : Nat × Nat) (w : World) (hr0 : Kd.C (Kd.int .u8) w A0 l0.length l0) (hc0 : l0.length ≤ c0) (h : echo_Echo.f k l0 a1 = some r) :
    Calls Try.prog 16 #[.slice A0 l0.length c0, .int .i64 a1] w fun e w' => e = .returned (.complex .f64 r.1 r.2) ∧ Drawn0 w w' := by
  have HR0 := Aside0.mk hr0
  have HC0 := Aside0.mk hc0
  clear hr0 hc0
  obtain ⟨x, hx⟩ : ∃ x : Int, x = 0 := ⟨_, rfl⟩
  obtain ⟨s, hs⟩ : ∃ s : Nat × Nat, s = (0, 0) := ⟨_, rfl⟩
  obtain ⟨kq, hkq⟩ : ∃ kq : Nat, kq = k := ⟨_, rfl⟩
  have HA : echo_Echo.l0 kq l0 a1 s x = some r := by rw [hx, hs, hkq]; exact h
  have x0 : 0 ≤ x := by omega
  have hx2 := Aside0.mk (show Value.int .i64 0 = .int .i64 x by rw [hx])
  have hs2 := Aside0.mk (show Value.complex .f64 0 0 = .complex .f64 s.1 s.2 by rw [hs])
  clear h hx hs hkq
  go_enter Try.func16, Try.ntmps16
  go_wp2
  refine wp_scope_jumps 0 (fun a' w' => Drawn0 w w' ∧ ∃ (kq : Nat) (s : Nat × Nat) (x : Int) (u2 u3 u4 u7 u8 u9 u10 u11 u12 u13 u14 u15 u16 u17 u18 u19 u20 u21 u22 u23 u24 u25 u26 u27 : Value), a' = { tmps := #[.slice A0 l0.length c0, .int .i64 a1, u2, u3, u4, .complex .f64 s.1 s.2, .int .i64 x, u7, u8, u9, u10, u11, u12, u13, u14, u15, u16, u17, u18, u19, u20, u21, u22, u23, u24, u25, u26, u27], defers := [] } ∧ echo_Echo.l0 kq l0 a1 s x = some r ∧ 0 ≤ x) (fun a' _ => ((l0.length : Int) - intOf (a'.tmps.getD 6 undef)).toNat) rfl ?_ ?_
  · have hd := Drawn0.refl w
    go_wp2
    go_step3
    rw [hx2.out, hs2.out]
    clear hx2 hs2
    cases kq with
    | zero => exact absurd HA (by simp [echo_Echo.l0])
    | succ kq =>
    simp only [echo_Echo.l0] at HA
    by_cases c1 : x < (l0.length : Int)
    · rw [if_pos c1] at HA
      obtain ⟨z, hz0, HA⟩ := Option.bind_eq_some_iff.mp HA
      have hz := Aside0.mk hz0
      clear hz0
      by_cases c2 : (cop .add s.1 s.2 z.1 z.2).isSome = true
      · rw [if_pos c2] at HA
        have c2b0 := eq_true c2
        have c1b0 : decide (x < (l0.length : Int)) = true := decide_eq_true c1
        have p1 : 0 ≤ x := x0
        have hmx := (Kd.reads_of_C (enc := Value.int .u8) (d := (0 : Int)) (h1 := fun _ => rfl) HR0.out).2.1
        have hwx : wrap64 (x + 1) = x + 1 := by unfold wrap64; omega
        obtain ⟨ad1, e1, hx1_0⟩ := Kd.at_int HR0.out x p1 c1
        cases e1
        go_wp2_with (first | ((with_reducible refine gate_callee (f := 14) rfl ?_); refine goesL_ (some 23) rfl rfl Try.func14 (by kernel_rfl) rfl #[.int .i64 (wrap64 ((wrap64 (rd l0 x)) - wrap64 ((Int.tmod a1 4) * (x % 4))))] rfl (by (try simp only [List.map_toArray, List.map_cons, List.map_nil]); first | done | rfl) ?_; (with_reducible refine (echo_Turn.calls (wrap64 ((wrap64 (rd l0 x)) - wrap64 ((Int.tmod a1 4) * (x % 4)))) z _ hz.out).mono ?_); rintro e w' ⟨rfl, ⟨nd, rfl⟩⟩; refine ⟨_, rfl, ?_⟩))
        go_step3
        exact ⟨rfl, ⟨⟨nd, rfl⟩⟩, kq, cres .add s.1 s.2 z.1 z.2, x + 1, _, _, _, _, _, _, _, _, _, _, _, _, _, _, _, _, _, _, _, _, _, _, _, _, rfl, (by rw [hwx] at HA; exact HA), by omega⟩
      · rw [if_neg c2] at HA
        exact absurd HA (by simp)
    · rw [if_neg c1] at HA
      have c1b0 : decide (x < (l0.length : Int)) = false := decide_eq_false c1
      obtain rfl := Option.some.inj HA
      go_wp2
      simp only [Exit.jump]
      go_ret
      exact ⟨rfl, hd⟩

  · clear HA x0 hx2 hs2
    clear x s kq
    rintro a' w' ⟨hd, kq, s, x, u2, u3, u4, u7, u8, u9, u10, u11, u12, u13, u14, u15, u16, u17, u18, u19, u20, u21, u22, u23, u24, u25, u26, u27, rfl, HA, x0⟩
    cases kq with
    | zero => exact absurd HA (by simp [echo_Echo.l0])
    | succ kq =>
    simp only [echo_Echo.l0] at HA
    by_cases c1 : x < (l0.length : Int)
    · rw [if_pos c1] at HA
      obtain ⟨z, hz0, HA⟩ := Option.bind_eq_some_iff.mp HA
      have hz := Aside0.mk hz0
      clear hz0
      by_cases c2 : (cop .add s.1 s.2 z.1 z.2).isSome = true
      · rw [if_pos c2] at HA
        have c2b0 := eq_true c2
        have c1b0 : decide (x < (l0.length : Int)) = true := decide_eq_true c1
        have p1 : 0 ≤ x := x0
        have hmx := (Kd.reads_of_C (enc := Value.int .u8) (d := (0 : Int)) (h1 := fun _ => rfl) HR0.out).2.1
        have hwx : wrap64 (x + 1) = x + 1 := by unfold wrap64; omega
        obtain ⟨ad1, e1, hx1_0⟩ := Kd.at_int HR0.out x p1 c1
        cases e1
        obtain ⟨nd0, hnd⟩ := hd
        go_wp2_with (first | ((with_reducible refine gate_callee (f := 14) rfl ?_); refine goesL_ (some 23) rfl rfl Try.func14 (by kernel_rfl) rfl #[.int .i64 (wrap64 ((wrap64 (rd l0 x)) - wrap64 ((Int.tmod a1 4) * (x % 4))))] rfl (by (try simp only [List.map_toArray, List.map_cons, List.map_nil]); first | done | rfl) ?_; (with_reducible refine (echo_Turn.calls (wrap64 ((wrap64 (rd l0 x)) - wrap64 ((Int.tmod a1 4) * (x % 4)))) z _ hz.out).mono ?_); rintro e w' ⟨rfl, ⟨nd, rfl⟩⟩; refine ⟨_, rfl, ?_⟩))
        go_step3
        refine ⟨rfl, ⟨⟨⟨nd0 + nd, rfl⟩⟩, kq, cres .add s.1 s.2 z.1 z.2, x + 1, _, _, _, _, _, _, _, _, _, _, _, _, _, _, _, _, _, _, _, _, _, _, _, _, rfl, (by rw [hwx] at HA; exact HA), by omega⟩, ?_⟩
        simp [intOf]
        omega
      · rw [if_neg c2] at HA
        exact absurd HA (by simp)
    · rw [if_neg c1] at HA
      have c1b0 : decide (x < (l0.length : Int)) = false := decide_eq_false c1
      obtain rfl := Option.some.inj HA
      go_wp2
      simp only [Exit.jump]
      go_ret
      exact ⟨rfl, hd⟩


/-! ### scrimlaw5_known: function 12 -/
def scrimlaw5_known.f (k : Nat)  : Option (Bool) := (echo_Turn.f 1).bind fun t101 => ((echo_Echo.f k ([] : List Int) 3).bind fun t102 => (if ((FloatKind.f64.format.order t102.1 0 == some .eq) && (FloatKind.f64.format.order t102.2 0 == some .eq)) = true then (if (FloatKind.f64.format.order t101.1 0 == some .eq) = true then (if (FloatKind.f64.format.order t101.2 4607182418800017408 == some .eq) = true then ((echo_Power.f t101).bind fun t103 => (if t103 = 1 then ((echo_Echo.f k (([0] : List Int)) 1).bind fun t107 => (some ((FloatKind.f64.format.order t107.1 4607182418800017408 == some .eq) && (FloatKind.f64.format.order t107.2 0 == some .eq)))) else (some false))) else (some false)) else (some false)) else (some false)))
theorem scrimlaw5_known.mono : ∀ k, LeO (scrimlaw5_known.f k ) (scrimlaw5_known.f (k + 1) ) := by
  intro  k
  unfold scrimlaw5_known.f
  repeat' first
      | (with_reducible exact echo_Echo.mono _ _ _)
      | (with_reducible exact LeO.refl _)
      | (with_reducible exact LeO.none _)
      | (with_reducible refine LeO.ite ?_ ?_)
      | (with_reducible refine LeO.bind ?_ (fun _ => ?_))
      | exact echo_Echo.mono _ _ _
      | exact LeO.none _
      | refine LeO.ite ?_ ?_
      | refine LeO.bind ?_ (fun _ => ?_)
set_option maxHeartbeats 8000000 in
set_option maxRecDepth 100000 in
theorem scrimlaw5_known.calls (k : Nat)  (r : Bool) (w : World) (h : scrimlaw5_known.f k  = some r) :
    Calls Try.prog 12 #[] w fun e w' => e = .returned (.bool r) ∧ Below w.heap.size w w' := by
  have HB := Aside0.mk (Below.refl w.heap.size w)
  have H : ((echo_Turn.f 1).bind fun t101 => ((echo_Echo.f k ([] : List Int) 3).bind fun t102 => (if ((FloatKind.f64.format.order t102.1 0 == some .eq) && (FloatKind.f64.format.order t102.2 0 == some .eq)) = true then (if (FloatKind.f64.format.order t101.1 0 == some .eq) = true then (if (FloatKind.f64.format.order t101.2 4607182418800017408 == some .eq) = true then ((echo_Power.f t101).bind fun t103 => (if t103 = 1 then ((echo_Echo.f k (([0] : List Int)) 1).bind fun t107 => (some ((FloatKind.f64.format.order t107.1 4607182418800017408 == some .eq) && (FloatKind.f64.format.order t107.2 0 == some .eq)))) else (some false))) else (some false)) else (some false)) else (some false)))) = some r := h
  clear h
  replace H := Option.bind_eq_some_iff.mp H
  obtain ⟨t101, A10, H⟩ := H
  replace H : ((echo_Echo.f k ([] : List Int) 3).bind fun t102 => (if ((FloatKind.f64.format.order t102.1 0 == some .eq) && (FloatKind.f64.format.order t102.2 0 == some .eq)) = true then (if (FloatKind.f64.format.order t101.1 0 == some .eq) = true then (if (FloatKind.f64.format.order t101.2 4607182418800017408 == some .eq) = true then ((echo_Power.f t101).bind fun t103 => (if t103 = 1 then ((echo_Echo.f k (([0] : List Int)) 1).bind fun t107 => (some ((FloatKind.f64.format.order t107.1 4607182418800017408 == some .eq) && (FloatKind.f64.format.order t107.2 0 == some .eq)))) else (some false))) else (some false)) else (some false)) else (some false))) = some r := H
  have A1 := Aside0.mk A10
  clear A10
  replace H := Option.bind_eq_some_iff.mp H
  obtain ⟨t102, A20, H⟩ := H
  replace H : (if ((FloatKind.f64.format.order t102.1 0 == some .eq) && (FloatKind.f64.format.order t102.2 0 == some .eq)) = true then (if (FloatKind.f64.format.order t101.1 0 == some .eq) = true then (if (FloatKind.f64.format.order t101.2 4607182418800017408 == some .eq) = true then ((echo_Power.f t101).bind fun t103 => (if t103 = 1 then ((echo_Echo.f k (([0] : List Int)) 1).bind fun t107 => (some ((FloatKind.f64.format.order t107.1 4607182418800017408 == some .eq) && (FloatKind.f64.format.order t107.2 0 == some .eq)))) else (some false))) else (some false)) else (some false)) else (some false)) = some r := H
  have A2 := Aside0.mk A20
  clear A20
  by_cases c3 : ((FloatKind.f64.format.order t102.1 0 == some .eq) && (FloatKind.f64.format.order t102.2 0 == some .eq)) = true
  · rw [if_pos c3] at H
    have c3b0 : ((FloatKind.f64.format.order t102.1 0 == some .eq) && (FloatKind.f64.format.order t102.2 0 == some .eq)) = true := c3
    clear c3
    by_cases c4 : (FloatKind.f64.format.order t101.1 0 == some .eq) = true
    · rw [if_pos c4] at H
      have c4b0 : (FloatKind.f64.format.order t101.1 0 == some .eq) = true := c4
      (try (have c4b1 : decide (FloatKind.f64.format.order t101.1 0 = some .eq) = true := by simpa using c4))
      (try (have c4b2 : (FloatKind.f64.format.order t101.1 0 == some .eq) = true := by simpa using c4))
      clear c4
      by_cases c5 : (FloatKind.f64.format.order t101.2 4607182418800017408 == some .eq) = true
      · rw [if_pos c5] at H
        have c5b0 : (FloatKind.f64.format.order t101.2 4607182418800017408 == some .eq) = true := c5
        (try (have c5b1 : decide (FloatKind.f64.format.order t101.2 4607182418800017408 = some .eq) = true := by simpa using c5))
        (try (have c5b2 : (FloatKind.f64.format.order t101.2 4607182418800017408 == some .eq) = true := by simpa using c5))
        clear c5
        replace H := Option.bind_eq_some_iff.mp H
        obtain ⟨t103, A60, H⟩ := H
        replace H : (if t103 = 1 then ((echo_Echo.f k (([0] : List Int)) 1).bind fun t107 => (some ((FloatKind.f64.format.order t107.1 4607182418800017408 == some .eq) && (FloatKind.f64.format.order t107.2 0 == some .eq)))) else (some false)) = some r := H
        have A6 := Aside0.mk A60
        clear A60
        by_cases c7 : t103 = 1
        · rw [if_pos c7] at H
          have c7b0 : (t103 == 1) = true := beq_iff_eq.mpr c7
          have c7b1 : (t103 != 1) = false := bne_eq_false_iff_eq.mpr c7
          clear c7
          obtain ⟨y104, hy104⟩ : ∃ y_ : List Int, y_ = (([0] : List Int)) := ⟨_, rfl⟩
          replace H : ((echo_Echo.f k y104 1).bind fun t107 => (some ((FloatKind.f64.format.order t107.1 4607182418800017408 == some .eq) && (FloatKind.f64.format.order t107.2 0 == some .eq)))) = some r := by first | (rw [hy104]; with_reducible exact H) | (have H2_ := (Option.bind_some _ _).symm.trans H; rw [hy104]; with_reducible exact H2_) | (have H2_ := (Option.bind_some _ _).symm.trans H; with_reducible exact H2_) | with_reducible exact H | (rw [hy104]; exact H) | exact H
          have Ny104 := Aside0.mk hy104
          clear hy104
          replace H := Option.bind_eq_some_iff.mp H
          obtain ⟨t107, A80, H⟩ := H
          replace H : (some ((FloatKind.f64.format.order t107.1 4607182418800017408 == some .eq) && (FloatKind.f64.format.order t107.2 0 == some .eq))) = some r := H
          have A8 := Aside0.mk A80
          clear A80
          obtain rfl := Option.some.inj H
          go_enter Try.func12, Try.ntmps12
          go_wp2_with (first | ((with_reducible refine gate_callee (f := 14) rfl ?_); refine goesL_ (some 2) rfl rfl Try.func14 (by kernel_rfl) rfl #[.int .i64 1] rfl (by (try simp only [List.map_toArray, List.map_cons, List.map_nil]); first | done | rfl | (simp only [List.length_drop, List.length_take]; rfl)) ?_; (with_reducible refine (echo_Turn.calls 1 t101 _ A1.out).mono ?_); rintro e w' ⟨rfl, ⟨nd, rfl⟩⟩; refine ⟨_, rfl, ?_⟩) | ((with_reducible refine gate_callee (f := 16) rfl ?_); refine goesL_ (some 3) rfl rfl Try.func16 (by kernel_rfl) rfl #[.slice none 0 0, .int .i64 3] rfl (by (try simp only [List.map_toArray, List.map_cons, List.map_nil]); first | done | rfl | (simp only [List.length_drop, List.length_take]; rfl)) ?_; (refine (echo_Echo.calls k _ _ ([] : List Int) 3 t102 _ ?side1 ?side2 A2.out).mono ?_); (case side1 => exact Kd.C_nil _ _); (case side2 => exact Nat.le_refl _); rintro e w' ⟨rfl, ⟨nd, rfl⟩⟩; refine ⟨_, rfl, ?_⟩) | (go_at_call 15; (with_reducible refine (echo_Power.calls t101 t103 _ A6.out).mono ?_); rintro e w9 ⟨rfl, hb⟩; have n0_ := Aside0.mk (below_step (by repeat (first | (with_reducible first | exact HB.out | apply below_alloc | apply pw_below_drewN | apply below_drew1) | exact HB.out)) hb); clear HB; have HB := n0_; clear n0_; (try clear hb); (try clear hb2); (try clear hk); (try clear hi)) | ((with_reducible refine gate_dst (N := 21) rfl ?_); (try (refine gate_guard (by rfl) ?_; dsimp only)); refine Kd.R_lit (Kd.int .u8) _ 5 ?hg (N := 21) ?hd (xs := ([0] : List Int)) (inner := [.int .u8 0]) (ok := fun _ => True) (okp := fun _ => True) ?hr ?hp (fun _ hk => hk) trivial (Below.refl _ _) (Nat.le_refl _) (by simp) ?_; (case hd => rfl); (case hg => rfl); (case hr => first | (go_simp; done) | (go_simp; rfl)); (case hp => exact (Reps.one (show Kd.M (Kd.int .u8) _ _ _ 0 [.int .u8 0] from rfl) (Reps.none _ _))); intro v105 w10 ho11 hb hg_ hnew_; clear hg_ hnew_; (first | rw [← Ny104.out] at ho11 | (simp only [Int.reduceToNat] at ho11; rw [← Ny104.out] at ho11)); have n0_ := Aside0.mk (Kd.R_lower ho11 (below_size (by repeat (first | (with_reducible first | exact HB.out | apply below_alloc | apply pw_below_drewN | apply below_drew1) | exact HB.out)))); have n1_ := Aside0.mk (below_step (by repeat (first | (with_reducible first | exact HB.out | apply below_alloc | apply pw_below_drewN | apply below_drew1) | exact HB.out)) hb); clear HB; have HO106 := n0_; have HB := n1_; clear n0_ n1_; clear hb ho11; obtain ⟨Ao12, co12, eo12⟩ := Kd.R_slice HO106.out; subst eo12) | (go_at_call 16; (with_reducible refine (echo_Echo.calls k _ _ y104 1 t107 _ ?side1 ?side2 A8.out).mono ?_); (case side1 => repeat (first | exact (Kd.R_reads' HO106.out).2.2 | (with_reducible refine Kd.C_alloc ?_ _) | (with_reducible refine Kd.C_drewN ?_ _) | (with_reducible refine Kd.C_drew ?_))); (case side2 => exact (Kd.R_reads' HO106.out).2.1); rintro e w' ⟨rfl, ⟨nd, rfl⟩⟩))
          go_ret
          exact ⟨by first | rfl | (simp [errW_none, errW_some] <;> rfl) | (simp [*, errW_none, errW_some] <;> rfl), by repeat (first | (with_reducible first | exact HB.out | apply below_alloc | apply pw_below_drewN | apply below_drew1) | exact HB.out)⟩
        · rw [if_neg c7] at H
          have c7b0 : (t103 == 1) = false := beq_eq_false_iff_ne.mpr c7
          have c7b1 : (t103 != 1) = true := bne_iff_ne.mpr c7
          obtain rfl := Option.some.inj H
          go_enter Try.func12, Try.ntmps12
          go_wp2_with (first | ((with_reducible refine gate_callee (f := 14) rfl ?_); refine goesL_ (some 2) rfl rfl Try.func14 (by kernel_rfl) rfl #[.int .i64 1] rfl (by (try simp only [List.map_toArray, List.map_cons, List.map_nil]); first | done | rfl | (simp only [List.length_drop, List.length_take]; rfl)) ?_; (with_reducible refine (echo_Turn.calls 1 t101 _ A1.out).mono ?_); rintro e w' ⟨rfl, ⟨nd, rfl⟩⟩; refine ⟨_, rfl, ?_⟩) | ((with_reducible refine gate_callee (f := 16) rfl ?_); refine goesL_ (some 3) rfl rfl Try.func16 (by kernel_rfl) rfl #[.slice none 0 0, .int .i64 3] rfl (by (try simp only [List.map_toArray, List.map_cons, List.map_nil]); first | done | rfl | (simp only [List.length_drop, List.length_take]; rfl)) ?_; (refine (echo_Echo.calls k _ _ ([] : List Int) 3 t102 _ ?side1 ?side2 A2.out).mono ?_); (case side1 => exact Kd.C_nil _ _); (case side2 => exact Nat.le_refl _); rintro e w' ⟨rfl, ⟨nd, rfl⟩⟩; refine ⟨_, rfl, ?_⟩) | (go_at_call 15; (with_reducible refine (echo_Power.calls t101 t103 _ A6.out).mono ?_); rintro e w13 ⟨rfl, hb⟩; have n0_ := Aside0.mk (below_step (by repeat (first | (with_reducible first | exact HB.out | apply below_alloc | apply pw_below_drewN | apply below_drew1) | exact HB.out)) hb); clear HB; have HB := n0_; clear n0_; (try clear hb); (try clear hb2); (try clear hk); (try clear hi)))
          go_ret
          exact ⟨by first | rfl | (simp [errW_none, errW_some] <;> rfl) | (simp [*, errW_none, errW_some] <;> rfl), by repeat (first | (with_reducible first | exact HB.out | apply below_alloc | apply pw_below_drewN | apply below_drew1) | exact HB.out)⟩
      · rw [if_neg c5] at H
        have c5b0 : (FloatKind.f64.format.order t101.2 4607182418800017408 == some .eq) = false := by simpa using c5
        (try (have c5b1 : decide (FloatKind.f64.format.order t101.2 4607182418800017408 = some .eq) = false := by simpa using c5))
        (try (have c5b2 : (FloatKind.f64.format.order t101.2 4607182418800017408 == some .eq) = false := by simpa using c5))
        (try (have c5b3 : ¬ (FloatKind.f64.format.order t101.2 4607182418800017408 = some .eq) := by simpa using c5))
        clear c5
        obtain rfl := Option.some.inj H
        go_enter Try.func12, Try.ntmps12
        go_wp2_with (first | ((with_reducible refine gate_callee (f := 14) rfl ?_); refine goesL_ (some 2) rfl rfl Try.func14 (by kernel_rfl) rfl #[.int .i64 1] rfl (by (try simp only [List.map_toArray, List.map_cons, List.map_nil]); first | done | rfl | (simp only [List.length_drop, List.length_take]; rfl)) ?_; (with_reducible refine (echo_Turn.calls 1 t101 _ A1.out).mono ?_); rintro e w' ⟨rfl, ⟨nd, rfl⟩⟩; refine ⟨_, rfl, ?_⟩) | ((with_reducible refine gate_callee (f := 16) rfl ?_); refine goesL_ (some 3) rfl rfl Try.func16 (by kernel_rfl) rfl #[.slice none 0 0, .int .i64 3] rfl (by (try simp only [List.map_toArray, List.map_cons, List.map_nil]); first | done | rfl | (simp only [List.length_drop, List.length_take]; rfl)) ?_; (refine (echo_Echo.calls k _ _ ([] : List Int) 3 t102 _ ?side1 ?side2 A2.out).mono ?_); (case side1 => exact Kd.C_nil _ _); (case side2 => exact Nat.le_refl _); rintro e w' ⟨rfl, ⟨nd, rfl⟩⟩; refine ⟨_, rfl, ?_⟩))
        go_ret
        exact ⟨by first | rfl | (simp [errW_none, errW_some] <;> rfl) | (simp [*, errW_none, errW_some] <;> rfl), by repeat (first | (with_reducible first | exact HB.out | apply below_alloc | apply pw_below_drewN | apply below_drew1) | exact HB.out)⟩
    · rw [if_neg c4] at H
      have c4b0 : (FloatKind.f64.format.order t101.1 0 == some .eq) = false := by simpa using c4
      (try (have c4b1 : decide (FloatKind.f64.format.order t101.1 0 = some .eq) = false := by simpa using c4))
      (try (have c4b2 : (FloatKind.f64.format.order t101.1 0 == some .eq) = false := by simpa using c4))
      (try (have c4b3 : ¬ (FloatKind.f64.format.order t101.1 0 = some .eq) := by simpa using c4))
      clear c4
      obtain rfl := Option.some.inj H
      go_enter Try.func12, Try.ntmps12
      go_wp2_with (first | ((with_reducible refine gate_callee (f := 14) rfl ?_); refine goesL_ (some 2) rfl rfl Try.func14 (by kernel_rfl) rfl #[.int .i64 1] rfl (by (try simp only [List.map_toArray, List.map_cons, List.map_nil]); first | done | rfl | (simp only [List.length_drop, List.length_take]; rfl)) ?_; (with_reducible refine (echo_Turn.calls 1 t101 _ A1.out).mono ?_); rintro e w' ⟨rfl, ⟨nd, rfl⟩⟩; refine ⟨_, rfl, ?_⟩) | ((with_reducible refine gate_callee (f := 16) rfl ?_); refine goesL_ (some 3) rfl rfl Try.func16 (by kernel_rfl) rfl #[.slice none 0 0, .int .i64 3] rfl (by (try simp only [List.map_toArray, List.map_cons, List.map_nil]); first | done | rfl | (simp only [List.length_drop, List.length_take]; rfl)) ?_; (refine (echo_Echo.calls k _ _ ([] : List Int) 3 t102 _ ?side1 ?side2 A2.out).mono ?_); (case side1 => exact Kd.C_nil _ _); (case side2 => exact Nat.le_refl _); rintro e w' ⟨rfl, ⟨nd, rfl⟩⟩; refine ⟨_, rfl, ?_⟩))
      go_ret
      exact ⟨by first | rfl | (simp [errW_none, errW_some] <;> rfl) | (simp [*, errW_none, errW_some] <;> rfl), by repeat (first | (with_reducible first | exact HB.out | apply below_alloc | apply pw_below_drewN | apply below_drew1) | exact HB.out)⟩
  · rw [if_neg c3] at H
    have c3b0 : ((FloatKind.f64.format.order t102.1 0 == some .eq) && (FloatKind.f64.format.order t102.2 0 == some .eq)) = false := by simpa using c3
    clear c3
    obtain rfl := Option.some.inj H
    go_enter Try.func12, Try.ntmps12
    go_wp2_with (first | ((with_reducible refine gate_callee (f := 14) rfl ?_); refine goesL_ (some 2) rfl rfl Try.func14 (by kernel_rfl) rfl #[.int .i64 1] rfl (by (try simp only [List.map_toArray, List.map_cons, List.map_nil]); first | done | rfl | (simp only [List.length_drop, List.length_take]; rfl)) ?_; (with_reducible refine (echo_Turn.calls 1 t101 _ A1.out).mono ?_); rintro e w' ⟨rfl, ⟨nd, rfl⟩⟩; refine ⟨_, rfl, ?_⟩) | ((with_reducible refine gate_callee (f := 16) rfl ?_); refine goesL_ (some 3) rfl rfl Try.func16 (by kernel_rfl) rfl #[.slice none 0 0, .int .i64 3] rfl (by (try simp only [List.map_toArray, List.map_cons, List.map_nil]); first | done | rfl | (simp only [List.length_drop, List.length_take]; rfl)) ?_; (refine (echo_Echo.calls k _ _ ([] : List Int) 3 t102 _ ?side1 ?side2 A2.out).mono ?_); (case side1 => exact Kd.C_nil _ _); (case side2 => exact Nat.le_refl _); rintro e w' ⟨rfl, ⟨nd, rfl⟩⟩; refine ⟨_, rfl, ?_⟩))
    go_ret
    exact ⟨by first | rfl | (simp [errW_none, errW_some] <;> rfl) | (simp [*, errW_none, errW_some] <;> rfl), by repeat (first | (with_reducible first | exact HB.out | apply below_alloc | apply pw_below_drewN | apply below_drew1) | exact HB.out)⟩

/-! ### scrimlaw5_EchoSquares: function 4 -/
mutual
def scrimlaw5_EchoSquares.l0 : Nat → List Int → Int → Int → Option (Bool)
  | 0, _, _, _ => none
  | k + 1, x0, x3, x4 => if x4 < 4 then ((echo_Echo.f k x0 x4).bind fun t109 => ((echo_Power.f t109).bind fun t110 => (scrimlaw5_EchoSquares.l0 k x0 (wrap64 (x3 + t110)) (wrap64 (x4 + 1))))) else (scrimlaw5_EchoSquares.l1 k x0 x3 0 0)
def scrimlaw5_EchoSquares.l1 : Nat → List Int → Int → Int → Int → Option (Bool)
  | 0, _, _, _, _ => none
  | k + 1, x0, x3, x5, x6 => if x6 < 4 then (scrimlaw5_EchoSquares.l2 k x0 x3 x5 x6 (0, 0) x6) else (some (x3 == (wrap64 (4 * x5))))
def scrimlaw5_EchoSquares.l2 : Nat → List Int → Int → Int → Int → Nat × Nat → Int → Option (Bool)
  | 0, _, _, _, _, _, _ => none
  | k + 1, x0, x3, x5, x6, x7, x8 => if x8 < (x0.length : Int) then (if 0 ≤ x8 then ((echo_Turn.f (wrap64 (rd x0 x8))).bind fun t112 => (if (cop .add x7.1 x7.2 t112.1 t112.2).isSome = true then (scrimlaw5_EchoSquares.l2 k x0 x3 x5 x6 (cres .add x7.1 x7.2 t112.1 t112.2) (wrap64 (x8 + 4))) else (none))) else (none)) else ((echo_Power.f x7).bind fun t113 => (scrimlaw5_EchoSquares.l1 k x0 x3 (wrap64 (x5 + t113)) (wrap64 (x6 + 1))))
end
def scrimlaw5_EchoSquares.f (k : Nat) (l0 : List Int) : Option (Bool) := (scrimlaw5_known.f k).bind fun t108 => (if t108 = true then (if (l0.length : Int) > 1000 then (some true) else (scrimlaw5_EchoSquares.l0 k l0 0 0)) else (some false))
theorem scrimlaw5_EchoSquares.mono_l : ∀ k, (∀ y0 y1 y2, LeO (scrimlaw5_EchoSquares.l0 k y0 y1 y2) (scrimlaw5_EchoSquares.l0 (k + 1) y0 y1 y2)) ∧ (∀ y0 y1 y2 y3, LeO (scrimlaw5_EchoSquares.l1 k y0 y1 y2 y3) (scrimlaw5_EchoSquares.l1 (k + 1) y0 y1 y2 y3)) ∧ (∀ y0 y1 y2 y3 y4 y5, LeO (scrimlaw5_EchoSquares.l2 k y0 y1 y2 y3 y4 y5) (scrimlaw5_EchoSquares.l2 (k + 1) y0 y1 y2 y3 y4 y5))
  | 0 => ⟨fun _ _ _ r h => by simp [scrimlaw5_EchoSquares.l0] at h, fun _ _ _ _ r h => by simp [scrimlaw5_EchoSquares.l1] at h, fun _ _ _ _ _ _ r h => by simp [scrimlaw5_EchoSquares.l2] at h⟩
  | k + 1 => by
    obtain ⟨ih0, ih1, ih2⟩ := scrimlaw5_EchoSquares.mono_l k
    refine ⟨?_, ?_, ?_⟩
    · intro y0 y1 y2
      unfold scrimlaw5_EchoSquares.l0
      repeat' first
      | (with_reducible exact ih0 _ _ _)
      | (with_reducible exact ih1 _ _ _ _)
      | (with_reducible exact ih2 _ _ _ _ _ _)
      | (with_reducible exact echo_Echo.mono _ _ _)
      | (with_reducible exact scrimlaw5_known.mono _)
      | (with_reducible exact LeO.refl _)
      | (with_reducible exact LeO.none _)
      | (with_reducible refine LeO.ite ?_ ?_)
      | (with_reducible refine LeO.bind ?_ (fun _ => ?_))
      | exact ih0 _ _ _
      | exact ih1 _ _ _ _
      | exact ih2 _ _ _ _ _ _
      | exact echo_Echo.mono _ _ _
      | exact scrimlaw5_known.mono _
      | exact LeO.none _
      | refine LeO.ite ?_ ?_
      | refine LeO.bind ?_ (fun _ => ?_)
    · intro y0 y1 y2 y3
      unfold scrimlaw5_EchoSquares.l1
      repeat' first
      | (with_reducible exact ih0 _ _ _)
      | (with_reducible exact ih1 _ _ _ _)
      | (with_reducible exact ih2 _ _ _ _ _ _)
      | (with_reducible exact echo_Echo.mono _ _ _)
      | (with_reducible exact scrimlaw5_known.mono _)
      | (with_reducible exact LeO.refl _)
      | (with_reducible exact LeO.none _)
      | (with_reducible refine LeO.ite ?_ ?_)
      | (with_reducible refine LeO.bind ?_ (fun _ => ?_))
      | exact ih0 _ _ _
      | exact ih1 _ _ _ _
      | exact ih2 _ _ _ _ _ _
      | exact echo_Echo.mono _ _ _
      | exact scrimlaw5_known.mono _
      | exact LeO.none _
      | refine LeO.ite ?_ ?_
      | refine LeO.bind ?_ (fun _ => ?_)
    · intro y0 y1 y2 y3 y4 y5
      unfold scrimlaw5_EchoSquares.l2
      repeat' first
      | (with_reducible exact ih0 _ _ _)
      | (with_reducible exact ih1 _ _ _ _)
      | (with_reducible exact ih2 _ _ _ _ _ _)
      | (with_reducible exact echo_Echo.mono _ _ _)
      | (with_reducible exact scrimlaw5_known.mono _)
      | (with_reducible exact LeO.refl _)
      | (with_reducible exact LeO.none _)
      | (with_reducible refine LeO.ite ?_ ?_)
      | (with_reducible refine LeO.bind ?_ (fun _ => ?_))
      | exact ih0 _ _ _
      | exact ih1 _ _ _ _
      | exact ih2 _ _ _ _ _ _
      | exact echo_Echo.mono _ _ _
      | exact scrimlaw5_known.mono _
      | exact LeO.none _
      | refine LeO.ite ?_ ?_
      | refine LeO.bind ?_ (fun _ => ?_)
theorem scrimlaw5_EchoSquares.mono : ∀ a0 k, LeO (scrimlaw5_EchoSquares.f k a0) (scrimlaw5_EchoSquares.f (k + 1) a0) := by
  intro a0 k
  obtain ⟨ih0, ih1, ih2⟩ := scrimlaw5_EchoSquares.mono_l k
  unfold scrimlaw5_EchoSquares.f
  repeat' first
      | (with_reducible exact ih0 _ _ _)
      | (with_reducible exact ih1 _ _ _ _)
      | (with_reducible exact ih2 _ _ _ _ _ _)
      | (with_reducible exact echo_Echo.mono _ _ _)
      | (with_reducible exact scrimlaw5_known.mono _)
      | (with_reducible exact LeO.refl _)
      | (with_reducible exact LeO.none _)
      | (with_reducible refine LeO.ite ?_ ?_)
      | (with_reducible refine LeO.bind ?_ (fun _ => ?_))
      | exact ih0 _ _ _
      | exact ih1 _ _ _ _
      | exact ih2 _ _ _ _ _ _
      | exact echo_Echo.mono _ _ _
      | exact scrimlaw5_known.mono _
      | exact LeO.none _
      | refine LeO.ite ?_ ?_
      | refine LeO.bind ?_ (fun _ => ?_)
set_option maxHeartbeats 8000000 in
set_option maxRecDepth 100000 in
theorem scrimlaw5_EchoSquares.calls (k : Nat) (A0 : Option Addr) (c0 : Nat) (l0 : List Int) (r : Bool) (w : World) (hr0 : Kd.C (Kd.int .u8) w A0 l0.length l0) (hc0 : l0.length ≤ c0) (h : scrimlaw5_EchoSquares.f k l0 = some r) :
    Calls Try.prog 4 #[.slice A0 l0.length c0] w fun e w' => e = .returned (.bool r) ∧ Below w.heap.size w w' := by
  have HR0 := Aside0.mk hr0
  have HC0 := Aside0.mk hc0
  clear hr0 hc0
  have HB := Aside0.mk (Below.refl w.heap.size w)
  have H : ((scrimlaw5_known.f k).bind fun t108 => (if t108 = true then (if (l0.length : Int) > 1000 then (some true) else (scrimlaw5_EchoSquares.l0 k l0 0 0)) else (some false))) = some r := h
  clear h
  replace H := Option.bind_eq_some_iff.mp H
  obtain ⟨t108, A20, H⟩ := H
  replace H : (if t108 = true then (if (l0.length : Int) > 1000 then (some true) else (scrimlaw5_EchoSquares.l0 k l0 0 0)) else (some false)) = some r := H
  have A2 := Aside0.mk A20
  clear A20
  by_cases c3 : t108 = true
  · subst c3
    have H1 : (if (l0.length : Int) > 1000 then (some true) else (scrimlaw5_EchoSquares.l0 k l0 0 0)) = some r := by rw [if_pos rfl] at H; exact H
    clear H
    have H := H1
    clear H1
    by_cases c4 : (l0.length : Int) > 1000
    · rw [if_pos c4] at H
      have c4b0 : decide (1000 < (l0.length : Int)) = true := decide_eq_true c4
      have c4b1 : decide (1000 < l0.length) = true := decide_eq_true (by omega)
      clear c4
      obtain rfl := Option.some.inj H
      go_enter Try.func4, Try.ntmps4
      go_wp2_with (first | ((with_reducible refine gate_callee (f := 12) rfl ?_); refine goesL_ (some 9) rfl rfl Try.func12 (by kernel_rfl) rfl #[] rfl (by (try simp only [List.map_toArray, List.map_cons, List.map_nil]); first | done | rfl | (simp only [List.length_drop, List.length_take]; rfl)) ?_; (with_reducible refine (scrimlaw5_known.calls k  true _ A2.out).mono ?_); rintro e w5 ⟨rfl, hb⟩; refine ⟨_, rfl, ?_⟩; have n0_ := Aside0.mk (below_step (by repeat (first | (with_reducible first | exact HB.out | apply below_alloc | apply pw_below_drewN | apply below_drew1) | exact HB.out)) hb); clear HB; have HB := n0_; clear n0_; (try clear hb); (try clear hb2); (try clear hk); (try clear hi)))
      go_ret
      exact ⟨by first | rfl | (simp [errW_none, errW_some] <;> rfl) | (simp [*, errW_none, errW_some] <;> rfl), by repeat (first | (with_reducible first | exact HB.out | apply below_alloc | apply pw_below_drewN | apply below_drew1) | exact HB.out)⟩
    · rw [if_neg c4] at H
      have c4b0 : decide (1000 < (l0.length : Int)) = false := decide_eq_false c4
      have c4b1 : decide (1000 < l0.length) = false := decide_eq_false (by omega)
      clear c4
      have H' := Aside0.mk H
      clear H
      go_enter Try.func4, Try.ntmps4
      go_wp2_with (first | ((with_reducible refine gate_callee (f := 12) rfl ?_); refine goesL_ (some 9) rfl rfl Try.func12 (by kernel_rfl) rfl #[] rfl (by (try simp only [List.map_toArray, List.map_cons, List.map_nil]); first | done | rfl | (simp only [List.length_drop, List.length_take]; rfl)) ?_; (with_reducible refine (scrimlaw5_known.calls k  true _ A2.out).mono ?_); rintro e w6 ⟨rfl, hb⟩; refine ⟨_, rfl, ?_⟩; have n0_ := Aside0.mk (below_step (by repeat (first | (with_reducible first | exact HB.out | apply below_alloc | apply pw_below_drewN | apply below_drew1) | exact HB.out)) hb); clear HB; have HB := n0_; clear n0_; (try clear hb); (try clear hb2); (try clear hk); (try clear hi)))
      go_loopg [3, 4] k (fun kq v3 v4 w' => ∃ (x3_1 : Int) (x4_1 : Int), v3 = .int .i64 x3_1 ∧ v4 = .int .i64 x4_1 ∧ Aside0 (scrimlaw5_EchoSquares.l0 kq l0 x3_1 x4_1 = some r) ∧ Aside0 (kq ≤ k) ∧ Aside0 (Below w.heap.size w w'))
      case atStart => exact ⟨(0), (0), (by first | rfl | (simp; done) | (simp [*]; done)), (by first | rfl | (simp; done) | (simp [*]; done)), H', ⟨Nat.le_refl _⟩, ⟨by repeat (first | (with_reducible first | exact HB.out | apply below_alloc | apply pw_below_drewN | apply below_drew1) | exact HB.out)⟩⟩
      case round =>
        clear H'
        try clear c1
        try clear p2
        try clear c3
        try clear c4
        try clear c4b0
        try clear c4b1
        obtain ⟨x3_1, x4_1, rfl, rfl, HA, HK1, HB⟩ := hrel
        cases gk with
        | zero => exact absurd HA.out (by simp [scrimlaw5_EchoSquares.l0])
        | succ k1 =>
          have H := HA.out
          clear HA
          simp only [scrimlaw5_EchoSquares.l0] at H
          by_cases c7 : x4_1 < 4
          · rw [if_pos c7] at H
            have c7b0 : decide (x4_1 < 4) = true := decide_eq_true c7
            clear c7
            replace H := Option.bind_eq_some_iff.mp H
            obtain ⟨t109, A80, H⟩ := H
            replace H : ((echo_Power.f t109).bind fun t110 => (scrimlaw5_EchoSquares.l0 k1 l0 (wrap64 (x3_1 + t110)) (wrap64 (x4_1 + 1)))) = some r := H
            have A8 := Aside0.mk A80
            clear A80
            replace H := Option.bind_eq_some_iff.mp H
            obtain ⟨t110, A90, H⟩ := H
            replace H : (scrimlaw5_EchoSquares.l0 k1 l0 (wrap64 (x3_1 + t110)) (wrap64 (x4_1 + 1))) = some r := H
            have A9 := Aside0.mk A90
            clear A90
            have H' := Aside0.mk H
            clear H
            go_wp2_with (first | ((with_reducible refine gate_callee (f := 16) rfl ?_); refine goesL_ (some 21) rfl rfl Try.func16 (by kernel_rfl) rfl #[.slice A0 l0.length c0, .int .i64 x4_1] rfl (by (try simp only [List.map_toArray, List.map_cons, List.map_nil]); first | done | rfl | (simp only [List.length_drop, List.length_take]; rfl)) ?_; (with_reducible refine (echo_Echo.calls k1 _ _ l0 x4_1 t109 _ ?side1 ?side2 A8.out).mono ?_); (case side1 => repeat (first | exact (Kd.C_below HR0.out HB.out) | (with_reducible refine Kd.C_alloc ?_ _) | (with_reducible refine Kd.C_drewN ?_ _) | (with_reducible refine Kd.C_drew ?_))); (case side2 => exact HC0.out); rintro e w' ⟨rfl, ⟨nd, rfl⟩⟩; refine ⟨_, rfl, ?_⟩) | ((with_reducible refine gate_callee (f := 15) rfl ?_); refine goesL_ (some 22) rfl rfl Try.func15 (by kernel_rfl) rfl #[.complex .f64 t109.1 t109.2] rfl (by (try simp only [List.map_toArray, List.map_cons, List.map_nil]); first | done | rfl | (simp only [List.length_drop, List.length_take]; rfl)) ?_; (with_reducible refine (echo_Power.calls t109 t110 _ A9.out).mono ?_); rintro e w10 ⟨rfl, hb⟩; refine ⟨_, rfl, ?_⟩; have n0_ := Aside0.mk (below_step (by repeat (first | (with_reducible first | exact HB.out | apply below_alloc | apply pw_below_drewN | apply below_drew1) | exact HB.out)) hb); clear HB; have HB := n0_; clear n0_; (try clear hb); (try clear hb2); (try clear hk); (try clear hi)))
            go_roundg k1
            case measure => have := HK1.out; omega
            case rel => exact ⟨(wrap64 (x3_1 + t110)), (wrap64 (x4_1 + 1)), (by first | rfl | (simp; done) | (simp [*]; done)), (by first | rfl | (simp; done) | (simp [*]; done)), H', ⟨by have := HK1.out; omega⟩, ⟨by repeat (first | (with_reducible first | exact HB.out | apply below_alloc | apply pw_below_drewN | apply below_drew1) | exact HB.out)⟩⟩
          · rw [if_neg c7] at H
            have c7b0 : decide (x4_1 < 4) = false := decide_eq_false c7
            clear c7
            have H' := Aside0.mk H
            clear H
            go_wp2
            go_loopg [5, 6] k1 (fun kq v5 v6 w' => ∃ (x5_2 : Int) (x6_2 : Int), v5 = .int .i64 x5_2 ∧ v6 = .int .i64 x6_2 ∧ Aside0 (scrimlaw5_EchoSquares.l1 kq l0 x3_1 x5_2 x6_2 = some r) ∧ Aside0 (kq ≤ k1) ∧ Aside0 (Below w.heap.size w w'))
            case atStart => exact ⟨(0), (0), (by first | rfl | (simp; done) | (simp [*]; done)), (by first | rfl | (simp; done) | (simp [*]; done)), H', ⟨Nat.le_refl _⟩, ⟨by repeat (first | (with_reducible first | exact HB.out | apply below_alloc | apply pw_below_drewN | apply below_drew1) | exact HB.out)⟩⟩
            case round =>
              clear H'
              try clear c1
              try clear p2
              try clear c3
              try clear c4
              try clear c4b0
              try clear c4b1
              try clear p6
              try clear c7
              try clear c7b0
              try clear p2
              obtain ⟨x5_2, x6_2, rfl, rfl, HA, HK2, HB⟩ := hrel
              cases gk with
              | zero => exact absurd HA.out (by simp [scrimlaw5_EchoSquares.l1])
              | succ k2 =>
                have H := HA.out
                clear HA
                simp only [scrimlaw5_EchoSquares.l1] at H
                by_cases c11 : x6_2 < 4
                · rw [if_pos c11] at H
                  have c11b0 : decide (x6_2 < 4) = true := decide_eq_true c11
                  clear c11
                  have H' := Aside0.mk H
                  clear H
                  go_wp2
                  go_loopg [7, 8] k2 (fun kq v7 v8 w' => ∃ (x7_3 : Nat × Nat) (x8_3 : Int), v7 = .complex .f64 x7_3.1 x7_3.2 ∧ v8 = .int .i64 x8_3 ∧ Aside0 (scrimlaw5_EchoSquares.l2 kq l0 x3_1 x5_2 x6_2 x7_3 x8_3 = some r) ∧ Aside0 (kq ≤ k2) ∧ Aside0 (Below w.heap.size w w'))
                  case atStart => exact ⟨((0, 0)), (x6_2), (by first | rfl | (simp; done) | (simp [*]; done)), (by first | rfl | (simp; done) | (simp [*]; done)), H', ⟨Nat.le_refl _⟩, ⟨by repeat (first | (with_reducible first | exact HB.out | apply below_alloc | apply pw_below_drewN | apply below_drew1) | exact HB.out)⟩⟩
                  case round =>
                    clear H'
                    try clear c1
                    try clear p2
                    try clear c3
                    try clear c4
                    try clear c4b0
                    try clear c4b1
                    try clear p6
                    try clear c7
                    try clear c7b0
                    try clear c11
                    try clear c11b0
                    try clear p2
                    try clear p6
                    obtain ⟨x7_3, x8_3, rfl, rfl, HA, HK3, HB⟩ := hrel
                    cases gk with
                    | zero => exact absurd HA.out (by simp [scrimlaw5_EchoSquares.l2])
                    | succ k3 =>
                      have H := HA.out
                      clear HA
                      simp only [scrimlaw5_EchoSquares.l2] at H
                      by_cases c12 : x8_3 < (l0.length : Int)
                      · rw [if_pos c12] at H
                        have c12b0 : decide (x8_3 < (l0.length : Int)) = true := decide_eq_true c12
                        clear c12
                        by_cases c13 : 0 ≤ x8_3
                        · rw [if_pos c13] at H
                          have c13b0 : decide (0 ≤ x8_3) = true := decide_eq_true c13
                          clear c13
                          replace H := Option.bind_eq_some_iff.mp H
                          obtain ⟨t112, A140, H⟩ := H
                          replace H : (if (cop .add x7_3.1 x7_3.2 t112.1 t112.2).isSome = true then (scrimlaw5_EchoSquares.l2 k3 l0 x3_1 x5_2 x6_2 (cres .add x7_3.1 x7_3.2 t112.1 t112.2) (wrap64 (x8_3 + 4))) else (none)) = some r := H
                          have A14 := Aside0.mk A140
                          clear A140
                          by_cases c15 : (cop .add x7_3.1 x7_3.2 t112.1 t112.2).isSome = true
                          · rw [if_pos c15] at H
                            have c15b0 := eq_true c15
                            have c15b1 : decide ((cop .add x7_3.1 x7_3.2 t112.1 t112.2).isSome = true) = true := decide_eq_true c15
                            clear c15
                            have H' := Aside0.mk H
                            clear H
                            have p111 : 0 ≤ (x8_3 : Int) := of_decide_eq_true (by first | (with_reducible assumption) | assumption)
                            have q111 : x8_3 < (l0.length : Int) := of_decide_eq_true (by first | (with_reducible assumption) | assumption)
                            obtain ⟨ad111, e111, hx111_0⟩ := Kd.at_int HR0.out x8_3 p111 q111
                            cases e111
                            replace hx111_0 := (HB.out.cell (World.block_lt_of_cell? w _ hx111_0)).trans hx111_0
                            replace p111 := eq_true p111
                            replace q111 := eq_true q111
                            go_wp2_with (first | ((with_reducible refine gate_callee (f := 14) rfl ?_); refine goesL_ (some 41) rfl rfl Try.func14 (by kernel_rfl) rfl #[.int .i64 (wrap64 (rd l0 x8_3))] rfl (by (try simp only [List.map_toArray, List.map_cons, List.map_nil]); first | done | rfl | (simp only [List.length_drop, List.length_take]; rfl)) ?_; (with_reducible refine (echo_Turn.calls (wrap64 (rd l0 x8_3)) t112 _ A14.out).mono ?_); rintro e w' ⟨rfl, ⟨nd, rfl⟩⟩; refine ⟨_, rfl, ?_⟩))
                            go_roundg k3
                            case measure => have := HK1.out; have := HK2.out; have := HK3.out; omega
                            case rel => exact ⟨((cres .add x7_3.1 x7_3.2 t112.1 t112.2)), (wrap64 (x8_3 + 4)), (by first | rfl | (simp; done) | (simp [*]; done)), (by first | rfl | (simp; done) | (simp [*]; done)), H', ⟨by have := HK1.out; have := HK2.out; have := HK3.out; omega⟩, ⟨by repeat (first | (with_reducible first | exact HB.out | apply below_alloc | apply pw_below_drewN | apply below_drew1) | exact HB.out)⟩⟩
                          · rw [if_neg c15] at H
                            exact absurd H (by simp)
                        · rw [if_neg c13] at H
                          exact absurd H (by simp)
                      · rw [if_neg c12] at H
                        have c12b0 : decide (x8_3 < (l0.length : Int)) = false := decide_eq_false c12
                        clear c12
                        replace H := Option.bind_eq_some_iff.mp H
                        obtain ⟨t113, A160, H⟩ := H
                        replace H : (scrimlaw5_EchoSquares.l1 k3 l0 x3_1 (wrap64 (x5_2 + t113)) (wrap64 (x6_2 + 1))) = some r := H
                        have A16 := Aside0.mk A160
                        clear A160
                        have H' := Aside0.mk H
                        clear H
                        go_wp2_with (first | ((with_reducible refine gate_callee (f := 15) rfl ?_); refine goesL_ (some 45) rfl rfl Try.func15 (by kernel_rfl) rfl #[.complex .f64 x7_3.1 x7_3.2] rfl (by (try simp only [List.map_toArray, List.map_cons, List.map_nil]); first | done | rfl | (simp only [List.length_drop, List.length_take]; rfl)) ?_; (with_reducible refine (echo_Power.calls x7_3 t113 _ A16.out).mono ?_); rintro e w17 ⟨rfl, hb⟩; refine ⟨_, rfl, ?_⟩; have n0_ := Aside0.mk (below_step (by repeat (first | (with_reducible first | exact HB.out | apply below_alloc | apply pw_below_drewN | apply below_drew1) | exact HB.out)) hb); clear HB; have HB := n0_; clear n0_; (try clear hb); (try clear hb2); (try clear hk); (try clear hi)))
                        go_roundg k3
                        case measure => have := HK1.out; have := HK2.out; have := HK3.out; omega
                        case rel => exact ⟨(wrap64 (x5_2 + t113)), (wrap64 (x6_2 + 1)), (by first | rfl | (simp; done) | (simp [*]; done)), (by first | rfl | (simp; done) | (simp [*]; done)), H', ⟨by have := HK1.out; have := HK2.out; have := HK3.out; omega⟩, ⟨by repeat (first | (with_reducible first | exact HB.out | apply below_alloc | apply pw_below_drewN | apply below_drew1) | exact HB.out)⟩⟩
                · rw [if_neg c11] at H
                  have c11b0 : decide (x6_2 < 4) = false := decide_eq_false c11
                  clear c11
                  obtain rfl := Option.some.inj H
                  go_wp2
                  go_ret
                  exact ⟨by first | rfl | (simp [errW_none, errW_some] <;> rfl) | (simp [*, errW_none, errW_some] <;> rfl), by repeat (first | (with_reducible first | exact HB.out | apply below_alloc | apply pw_below_drewN | apply below_drew1) | exact HB.out)⟩
  · replace c3 := Bool.eq_false_iff.mpr c3
    subst c3
    have H1 : (some false) = some r := by rw [if_neg (show ¬ (false = true) by decide)] at H; exact H
    clear H
    have H := H1
    clear H1
    obtain rfl := Option.some.inj H
    go_enter Try.func4, Try.ntmps4
    go_wp2_with (first | ((with_reducible refine gate_callee (f := 12) rfl ?_); refine goesL_ (some 9) rfl rfl Try.func12 (by kernel_rfl) rfl #[] rfl (by (try simp only [List.map_toArray, List.map_cons, List.map_nil]); first | done | rfl | (simp only [List.length_drop, List.length_take]; rfl)) ?_; (with_reducible refine (scrimlaw5_known.calls k  false _ A2.out).mono ?_); rintro e w18 ⟨rfl, hb⟩; refine ⟨_, rfl, ?_⟩; have n0_ := Aside0.mk (below_step (by repeat (first | (with_reducible first | exact HB.out | apply below_alloc | apply pw_below_drewN | apply below_drew1) | exact HB.out)) hb); clear HB; have HB := n0_; clear n0_; (try clear hb); (try clear hb2); (try clear hk); (try clear hi)))
    go_ret
    exact ⟨by first | rfl | (simp [errW_none, errW_some] <;> rfl) | (simp [*, errW_none, errW_some] <;> rfl), by repeat (first | (with_reducible first | exact HB.out | apply below_alloc | apply pw_below_drewN | apply below_drew1) | exact HB.out)⟩

/-- THE ONE PURE STATEMENT of scrimlaw5_EchoSquares: yours. -/
def scrimlaw5_EchoSquares.Pure : Prop := ∀ (l0 : List Int), l0.length ≤ maxLen → l0.length * 1 ≤ 140737488351232 → (∀ x ∈ l0, (Lit.int .u8 x).wf = true) → ∃ k, scrimlaw5_EchoSquares.f k l0 = some true
theorem scrimlaw5_EchoSquares.walk (P : scrimlaw5_EchoSquares.Pure) (a0 : Option Addr) (len0 cap0 : Nat) (z0 : List Int) (w : World) (w0 : (a0 = none ∧ len0 = 0 ∧ cap0 = 0 ∧ z0 = []) ∨ ∃ x, a0 = some x ∧ len0 ≤ cap0 ∧ cap0 ≤ maxLen ∧ z0.length = cap0 ∧ (∀ i, i < z0.length → w.cell? (x.add i) = some (.int .u8 (z0.getD i 0))) ∧ ∀ n ∈ z0, (Lit.int .u8 n).wf = true) (y0 : len0 * 1 ≤ 140737488351232) :
    Calls Try.prog 4 #[.slice a0 len0 cap0] w fun e w' => e = .returned (.bool true) ∧ Below w.heap.size w w' := by
  obtain ⟨l0, rfl, hr0, hm0, hw0, hc0⟩ := ReadsInt.ofRowC w0
  obtain ⟨k, h⟩ := P l0 hm0 y0 hw0
  refine (scrimlaw5_EchoSquares.calls k _ _ l0 true w (Kd.C_of_reads (d := (0 : Int)) (h1 := fun _ => rfl) hr0) hc0 h).mono ?_
  rintro e w' ⟨rfl, hd⟩
  exact ⟨rfl, hd⟩

end Go.Proofs.Yteadclhlipcfpaa.MEchoSquares
