/- A walk: each Go function that is named here answers what its plain function answers. Conditions: its arguments are read as lists and numbers. -/
import Derived.Test.YteadclhlipcfpaaMEchoLinearx0
namespace Go.Proofs.Yteadclhlipcfpaa.MEchoLinear
open Go.RowKit Go.Proofs.YteadclhlipcfpaaW.PrintWords Go.Proofs.YteadclhlipcfpaaW.PrintLast Go.Proofs.YteadclhlipcfpaaW.PrintMore
open Go.Proofs.Yteadclhlipcfpaa.FloWords
attribute [local go_sem] run_cx_add run_cx_sub run_cx_mul run_fl_add run_fl_quo run_neg_fl run_fl_int run_eql_complex run_neq_complex
attribute [local go_sem] max2_int min2_int max_two min_two max_three min_three max_four min_four   -- for this text's walks alone
set_option linter.unusedVariables false
set_option linter.unusedSimpArgs false

/-! ### echo_Turn: function 14 -/
def turnB (r : Nat) : Nat × Nat := if r = 1 then (0, 4607182418800017408) else if r = 2 then (13830554455654793216, 0) else if r = 3 then (0, 13830554455654793216) else (4607182418800017408, 0)
def echo_Turn.f (a0 : Int) : Option (Nat × Nat) := some (turnB (a0 % 4).toNat)
def intOf : Value → Int | .int _ q => q | _ => 0
theorem turn_rest (a : Int) : Int.tmod (wrap64 (Int.tmod a 4 + 4)) 4 = a % 4 := by
  have e := Int.tmod_eq_emod (a := a) (b := 4)
  have l1 := Int.emod_nonneg a (by omega : (4 : Int) ≠ 0)
  have l2 := Int.emod_lt_of_pos a (by omega : (0 : Int) < 4)
  have hx : -4 < Int.tmod a 4 ∧ Int.tmod a 4 < 4 ∧ (Int.tmod a 4 = a % 4 ∨ Int.tmod a 4 = a % 4 - 4) := by
    by_cases hc : 0 ≤ a ∨ (4 : Int) ∣ a
    · rw [if_pos hc] at e; omega
    · have hnz : a % 4 ≠ 0 := fun z => hc (.inr (Int.dvd_of_emod_eq_zero z))
      rw [if_neg hc] at e
      have h4 : ((4 : Int).natAbs : Int) = 4 := rfl
      rw [h4] at e
      omega
  generalize Int.tmod a 4 = x at hx
  have hw : wrap64 (x + 4) = x + 4 := by unfold wrap64; omega
  rw [hw, Int.tmod_eq_emod_of_nonneg (by omega)]
  omega
theorem turn_ok1 (j : Nat) : ((floatBits .add .f64 (Op.negFloat .f64 (turnB j).2) 0).isSome = true) = True := by
  unfold turnB; split
  · exact eq_true (by decide +kernel)
  · split
    · exact eq_true (by decide +kernel)
    · split <;> exact eq_true (by decide +kernel)
theorem turn_ok2 (j : Nat) : ((floatBits .add .f64 (turnB j).1 0).isSome = true) = True := by
  unfold turnB; split
  · exact eq_true (by decide +kernel)
  · split
    · exact eq_true (by decide +kernel)
    · split <;> exact eq_true (by decide +kernel)
theorem turn_step (j : Nat) (h : j < 3) : fres .add (Op.negFloat .f64 (turnB j).2) 0 = (turnB (j + 1)).1 ∧ fres .add (turnB j).1 0 = (turnB (j + 1)).2 := by
  have : j = 0 ∨ j = 1 ∨ j = 2 := by omega
  rcases this with rfl | rfl | rfl <;> decide +kernel
set_option maxHeartbeats 8000000 in
set_option maxRecDepth 100000 in
theorem echo_Turn.calls (a0 : Int) (r : Nat × Nat) (w : World) (h : echo_Turn.f a0 = some r) :
    Calls Try.prog 14 #[.int .i64 a0] w fun e w' => e = .returned (.complex .f64 r.1 r.2) ∧ Drawn0 w w' := by
  obtain rfl := Option.some.inj h
  clear h
  go_enter Try.func14, Try.ntmps14
  go_wp2
  have hr4 : (a0 % 4).toNat < 4 := by omega
  refine wp_scope_jumps 0 (fun a' w' => Drawn0 w w' ∧ ∃ (m j : Nat) (u1 u4 u5 u6 u7 u8 u9 u10 u11 u12 u13 u14 u15 u16 u17 u18 u19 u20 : Value), a' = { tmps := #[.int .i64 (m : Int), u1, .complex .f64 0 0, .complex .f64 (turnB j).1 (turnB j).2, u4, u5, u6, u7, u8, u9, u10, u11, u12, u13, u14, u15, u16, u17, u18, u19, u20], defers := [] } ∧ m + j = (a0 % 4).toNat) (fun a' _ => (intOf (a'.tmps.getD 0 undef)).toNat) rfl ?_ ?_
  · go_wp2
    go_step3
    have g0 := turn_rest a0
    have g3 : 0 ≤ a0 % 4 := by omega
    have g1 := turn_ok1 0
    have g2 := turn_ok2 0
    have z1 : (turnB 0).1 = 4607182418800017408 := rfl
    have z2 : (turnB 0).2 = 0 := rfl
    rw [z2] at g1
    rw [z1] at g2
    go_wp2
    · go_step3
      have st := turn_step 0 (by omega)
      rw [z1, z2] at st
      obtain ⟨m, hm⟩ : ∃ m, (a0 % 4).toNat = m + 1 := ⟨(a0 % 4).toNat - 1, by omega⟩
      rw [st.1, st.2, show a0 % 4 - 1 = (m : Int) by omega]
      exact ⟨rfl, Drawn0.refl _, m, 1, _, _, _, _, _, _, _, _, _, _, _, _, _, _, _, _, _, _, rfl, by omega⟩
    · simp only [Exit.jump]
      go_ret
      have hz : (a0 % 4).toNat = 0 := by omega
      rw [hz]
      exact ⟨rfl, Drawn0.refl _⟩
  · rintro a' w' ⟨hd, m, j, u1, u4, u5, u6, u7, u8, u9, u10, u11, u12, u13, u14, u15, u16, u17, u18, u19, u20, rfl, hmj⟩
    have g1 := turn_ok1 j
    have g2 := turn_ok2 j
    go_wp2
    · go_step3
      have st := turn_step j (by omega)
      obtain ⟨m, rfl⟩ : ∃ q, m = q + 1 := ⟨m - 1, by omega⟩
      rw [st.1, st.2, show ((m + 1 : Nat) : Int) - 1 = (m : Int) by omega]
      refine ⟨rfl, ⟨hd, m, j + 1, _, _, _, _, _, _, _, _, _, _, _, _, _, _, _, _, _, _, rfl, by omega⟩, ?_⟩
      simp [intOf]
    · simp only [Exit.jump]
      go_ret
      have hz : (a0 % 4).toNat = j := by omega
      rw [hz]
      exact ⟨rfl, hd⟩

/-! ### echo_Power: function 15 -/
def echo_Power.f (a0 : Nat × Nat) : Option (Int) := if (floatToIntVal .f64 a0.1 .i64).isSome = true then (if (floatToIntVal .f64 a0.2 .i64).isSome = true then (some (wrap64 ((wrap64 ((ires .i64 a0.1) * (ires .i64 a0.1))) + (wrap64 ((ires .i64 a0.2) * (ires .i64 a0.2)))))) else (none)) else (none)
set_option maxHeartbeats 8000000 in
set_option maxRecDepth 100000 in
theorem echo_Power.calls (a0 : Nat × Nat) (r : Int) (w : World) (h : echo_Power.f a0 = some r) :
    Calls Try.prog 15 #[.complex .f64 a0.1 a0.2] w fun e w' => e = .returned (.int .i64 r) ∧ Below w.heap.size w w' := by
  have HB := Aside0.mk (Below.refl w.heap.size w)
  have H : (if (floatToIntVal .f64 a0.1 .i64).isSome = true then (if (floatToIntVal .f64 a0.2 .i64).isSome = true then (some (wrap64 ((wrap64 ((ires .i64 a0.1) * (ires .i64 a0.1))) + (wrap64 ((ires .i64 a0.2) * (ires .i64 a0.2)))))) else (none)) else (none)) = some r := h
  clear h
  by_cases c2 : (floatToIntVal .f64 a0.1 .i64).isSome = true
  · rw [if_pos c2] at H
    have c2b0 := eq_true c2
    have c2b1 : decide ((floatToIntVal .f64 a0.1 .i64).isSome = true) = true := decide_eq_true c2
    clear c2
    by_cases c3 : (floatToIntVal .f64 a0.2 .i64).isSome = true
    · rw [if_pos c3] at H
      have c3b0 := eq_true c3
      have c3b1 : decide ((floatToIntVal .f64 a0.2 .i64).isSome = true) = true := decide_eq_true c3
      clear c3
      obtain rfl := Option.some.inj H
      go_enter Try.func15, Try.ntmps15
      go_wp2
      go_ret
      exact ⟨by first | rfl | (simp [errW_none, errW_some] <;> rfl) | (simp [*, errW_none, errW_some] <;> rfl), by repeat (first | (with_reducible first | exact HB.out | apply below_alloc | apply pw_below_drewN | apply below_drew1) | exact HB.out)⟩
    · rw [if_neg c3] at H
      exact absurd H (by simp)
  · rw [if_neg c2] at H
    exact absurd H (by simp)

/-! ### echo_Echo: function 16 -/
def echo_Echo.l0 : Nat → List Int → Int → Nat × Nat → Int → Option (Nat × Nat)
  | 0, _, _, _, _ => none
  | k + 1, t, a, s, x => if x < (t.length : Int) then (echo_Turn.f (wrap64 ((wrap64 (rd t x)) - wrap64 ((Int.tmod a 4) * (x % 4))))).bind fun z => (if (cop .add s.1 s.2 z.1 z.2).isSome = true then echo_Echo.l0 k t a (cres .add s.1 s.2 z.1 z.2) (wrap64 (x + 1)) else none) else some s
def echo_Echo.f (k : Nat) (l0 : List Int) (a1 : Int) : Option (Nat × Nat) := echo_Echo.l0 k l0 a1 (0, 0) 0
theorem echo_Echo.mono_l : ∀ k, (∀ y0 y1 y2 y3, LeO (echo_Echo.l0 k y0 y1 y2 y3) (echo_Echo.l0 (k + 1) y0 y1 y2 y3))
  | 0 => fun _ _ _ _ r h => by simp [echo_Echo.l0] at h
  | k + 1 => by
    have ih0 := echo_Echo.mono_l k
    · intro y0 y1 y2 y3
      unfold echo_Echo.l0
      repeat' first
      | (with_reducible exact ih0 _ _ _ _)
      | (with_reducible exact LeO.refl _)
      | (with_reducible exact LeO.none _)
      | (with_reducible refine LeO.ite ?_ ?_)
      | (with_reducible refine LeO.bind ?_ (fun _ => ?_))
      | exact ih0 _ _ _ _
      | exact LeO.none _
      | refine LeO.ite ?_ ?_
      | refine LeO.bind ?_ (fun _ => ?_)
theorem echo_Echo.mono : ∀ a0 a1 k, LeO (echo_Echo.f k a0 a1) (echo_Echo.f (k + 1) a0 a1) := fun a0 a1 k => echo_Echo.mono_l k _ _ _ _
set_option maxHeartbeats 8000000 in
set_option maxRecDepth 100000 in
theorem echo_Echo.calls (k : Nat) (A0 : Option Addr) (c0 : Nat) (l0 : List Int) (a1 : Int) (r : Nat × Nat) (w : World) (hr0 : Kd.C (Kd.int .u8) w A0 l0.length l0) (hc0 : l0.length ≤ c0) (h : echo_Echo.f k l0 a1 = some r) :
    Calls Try.prog 16 #[.slice A0 l0.length c0, .int .i64 a1] w fun e w' => e = .returned (.complex .f64 r.1 r.2) ∧ Drawn0 w w' := by
  have HR0 := Aside0.mk hr0
  have HC0 := Aside0.mk hc0
  clear hr0 hc0
  obtain ⟨x, hx⟩ : ∃ x : Int, x = 0 := ⟨_, rfl⟩
  obtain ⟨s, hs⟩ : ∃ s : Nat × Nat, s = (0, 0) := ⟨_, rfl⟩
  obtain ⟨kq, hkq⟩ : ∃ kq : Nat, kq = k := ⟨_, rfl⟩
  have HA : echo_Echo.l0 kq l0 a1 s x = some r := by rw [hx, hs, hkq]; exact h
  have x0 : 0 ≤ x := by omega
  have hx2 := Aside0.mk (show Value.int .i64 0 = .int .i64 x by rw [hx])
  have hs2 := Aside0.mk (show Value.complex .f64 0 0 = .complex .f64 s.1 s.2 by rw [hs])
  clear h hx hs hkq
  go_enter Try.func16, Try.ntmps16
  go_wp2
  refine wp_scope_jumps 0 (fun a' w' => Drawn0 w w' ∧ ∃ (kq : Nat) (s : Nat × Nat) (x : Int) (u2 u3 u4 u7 u8 u9 u10 u11 u12 u13 u14 u15 u16 u17 u18 u19 u20 u21 u22 u23 u24 u25 u26 u27 : Value), a' = { tmps := #[.slice A0 l0.length c0, .int .i64 a1, u2, u3, u4, .complex .f64 s.1 s.2, .int .i64 x, u7, u8, u9, u10, u11, u12, u13, u14, u15, u16, u17, u18, u19, u20, u21, u22, u23, u24, u25, u26, u27], defers := [] } ∧ echo_Echo.l0 kq l0 a1 s x = some r ∧ 0 ≤ x) (fun a' _ => ((l0.length : Int) - intOf (a'.tmps.getD 6 undef)).toNat) rfl ?_ ?_
  · have hd := Drawn0.refl w
    go_wp2
    go_step3
    rw [hx2.out, hs2.out]
    clear hx2 hs2
    cases kq with
    | zero => exact absurd HA (by simp [echo_Echo.l0])
    | succ kq =>
    simp only [echo_Echo.l0] at HA
    by_cases c1 : x < (l0.length : Int)
    · rw [if_pos c1] at HA
      obtain ⟨z, hz0, HA⟩ := Option.bind_eq_some_iff.mp HA
      have hz := Aside0.mk hz0
      clear hz0
      by_cases c2 : (cop .add s.1 s.2 z.1 z.2).isSome = true
      · rw [if_pos c2] at HA
        have c2b0 := eq_true c2
        have c1b0 : decide (x < (l0.length : Int)) = true := decide_eq_true c1
        have p1 : 0 ≤ x := x0
        have hmx := (Kd.reads_of_C (enc := Value.int .u8) (d := (0 : Int)) (h1 := fun _ => rfl) HR0.out).2.1
        have hwx : wrap64 (x + 1) = x + 1 := by unfold wrap64; omega
        obtain ⟨ad1, e1, hx1_0⟩ := Kd.at_int HR0.out x p1 c1
        cases e1
        go_wp2_with (first | ((with_reducible refine gate_callee (f := 14) rfl ?_); refine goesL_ (some 23) rfl rfl Try.func14 (by kernel_rfl) rfl #[.int .i64 (wrap64 ((wrap64 (rd l0 x)) - wrap64 ((Int.tmod a1 4) * (x % 4))))] rfl (by (try simp only [List.map_toArray, List.map_cons, List.map_nil]); first | done | rfl) ?_; (with_reducible refine (echo_Turn.calls (wrap64 ((wrap64 (rd l0 x)) - wrap64 ((Int.tmod a1 4) * (x % 4)))) z _ hz.out).mono ?_); rintro e w' ⟨rfl, ⟨nd, rfl⟩⟩; refine ⟨_, rfl, ?_⟩))
        go_step3
        exact ⟨rfl, ⟨⟨nd, rfl⟩⟩, kq, cres .add s.1 s.2 z.1 z.2, x + 1, _, _, _, _, _, _, _, _, _, _, _, _, _, _, _, _, _, _, _, _, _, _, _, _, rfl, (by rw [hwx] at HA; exact HA), by omega⟩
      · rw [if_neg c2] at HA
        exact absurd HA (by simp)
    · rw [if_neg c1] at HA
      have c1b0 : decide (x < (l0.length : Int)) = false := decide_eq_false c1
      obtain rfl := Option.some.inj HA
      go_wp2
      simp only [Exit.jump]
      go_ret
      exact ⟨rfl, hd⟩

  · clear HA x0 hx2 hs2
    clear x s kq
    rintro a' w' ⟨hd, kq, s, x, u2, u3, u4, u7, u8, u9, u10, u11, u12, u13, u14, u15, u16, u17, u18, u19, u20, u21, u22, u23, u24, u25, u26, u27, rfl, HA, x0⟩
    cases kq with
    | zero => exact absurd HA (by simp [echo_Echo.l0])
    | succ kq =>
    simp only [echo_Echo.l0] at HA
    by_cases c1 : x < (l0.length : Int)
    · rw [if_pos c1] at HA
      obtain ⟨z, hz0, HA⟩ := Option.bind_eq_some_iff.mp HA
      have hz := Aside0.mk hz0
      clear hz0
      by_cases c2 : (cop .add s.1 s.2 z.1 z.2).isSome = true
      · rw [if_pos c2] at HA
        have c2b0 := eq_true c2
        have c1b0 : decide (x < (l0.length : Int)) = true := decide_eq_true c1
        have p1 : 0 ≤ x := x0
        have hmx := (Kd.reads_of_C (enc := Value.int .u8) (d := (0 : Int)) (h1 := fun _ => rfl) HR0.out).2.1
        have hwx : wrap64 (x + 1) = x + 1 := by unfold wrap64; omega
        obtain ⟨ad1, e1, hx1_0⟩ := Kd.at_int HR0.out x p1 c1
        cases e1
        obtain ⟨nd0, hnd⟩ := hd
        go_wp2_with (first | ((with_reducible refine gate_callee (f := 14) rfl ?_); refine goesL_ (some 23) rfl rfl Try.func14 (by kernel_rfl) rfl #[.int .i64 (wrap64 ((wrap64 (rd l0 x)) - wrap64 ((Int.tmod a1 4) * (x % 4))))] rfl (by (try simp only [List.map_toArray, List.map_cons, List.map_nil]); first | done | rfl) ?_; (with_reducible refine (echo_Turn.calls (wrap64 ((wrap64 (rd l0 x)) - wrap64 ((Int.tmod a1 4) * (x % 4)))) z _ hz.out).mono ?_); rintro e w' ⟨rfl, ⟨nd, rfl⟩⟩; refine ⟨_, rfl, ?_⟩))
        go_step3
        refine ⟨rfl, ⟨⟨⟨nd0 + nd, rfl⟩⟩, kq, cres .add s.1 s.2 z.1 z.2, x + 1, _, _, _, _, _, _, _, _, _, _, _, _, _, _, _, _, _, _, _, _, _, _, _, _, rfl, (by rw [hwx] at HA; exact HA), by omega⟩, ?_⟩
        simp [intOf]
        omega
      · rw [if_neg c2] at HA
        exact absurd HA (by simp)
    · rw [if_neg c1] at HA
      have c1b0 : decide (x < (l0.length : Int)) = false := decide_eq_false c1
      obtain rfl := Option.some.inj HA
      go_wp2
      simp only [Exit.jump]
      go_ret
      exact ⟨rfl, hd⟩


/-! ### scrimlaw5_known: function 12 -/
def scrimlaw5_known.f (k : Nat)  : Option (Bool) := (echo_Turn.f 1).bind fun t101 => ((echo_Echo.f k ([] : List Int) 3).bind fun t102 => (if ((FloatKind.f64.format.order t102.1 0 == some .eq) && (FloatKind.f64.format.order t102.2 0 == some .eq)) = true then (if (FloatKind.f64.format.order t101.1 0 == some .eq) = true then (if (FloatKind.f64.format.order t101.2 4607182418800017408 == some .eq) = true then ((echo_Power.f t101).bind fun t103 => (if t103 = 1 then ((echo_Echo.f k (([0] : List Int)) 1).bind fun t107 => (some ((FloatKind.f64.format.order t107.1 4607182418800017408 == some .eq) && (FloatKind.f64.format.order t107.2 0 == some .eq)))) else (some false))) else (some false)) else (some false)) else (some false)))
theorem scrimlaw5_known.mono : ∀ k, LeO (scrimlaw5_known.f k ) (scrimlaw5_known.f (k + 1) ) := by
  intro  k
  unfold scrimlaw5_known.f
  repeat' first
      | (with_reducible exact echo_Echo.mono _ _ _)
      | (with_reducible exact LeO.refl _)
      | (with_reducible exact LeO.none _)
      | (with_reducible refine LeO.ite ?_ ?_)
      | (with_reducible refine LeO.bind ?_ (fun _ => ?_))
      | exact echo_Echo.mono _ _ _
      | exact LeO.none _
      | refine LeO.ite ?_ ?_
      | refine LeO.bind ?_ (fun _ => ?_)
set_option maxHeartbeats 8000000 in
set_option maxRecDepth 100000 in
theorem scrimlaw5_known.calls (k : Nat)  (r : Bool) (w : World) (h : scrimlaw5_known.f k  = some r) :
    Calls Try.prog 12 #[] w fun e w' => e = .returned (.bool r) ∧ Below w.heap.size w w' := by
  have HB := Aside0.mk (Below.refl w.heap.size w)
  have H : ((echo_Turn.f 1).bind fun t101 => ((echo_Echo.f k ([] : List Int) 3).bind fun t102 => (if ((FloatKind.f64.format.order t102.1 0 == some .eq) && (FloatKind.f64.format.order t102.2 0 == some .eq)) = true then (if (FloatKind.f64.format.order t101.1 0 == some .eq) = true then (if (FloatKind.f64.format.order t101.2 4607182418800017408 == some .eq) = true then ((echo_Power.f t101).bind fun t103 => (if t103 = 1 then ((echo_Echo.f k (([0] : List Int)) 1).bind fun t107 => (some ((FloatKind.f64.format.order t107.1 4607182418800017408 == some .eq) && (FloatKind.f64.format.order t107.2 0 == some .eq)))) else (some false))) else (some false)) else (some false)) else (some false)))) = some r := h
  clear h
  replace H := Option.bind_eq_some_iff.mp H
  obtain ⟨t101, A10, H⟩ := H
  replace H : ((echo_Echo.f k ([] : List Int) 3).bind fun t102 => (if ((FloatKind.f64.format.order t102.1 0 == some .eq) && (FloatKind.f64.format.order t102.2 0 == some .eq)) = true then (if (FloatKind.f64.format.order t101.1 0 == some .eq) = true then (if (FloatKind.f64.format.order t101.2 4607182418800017408 == some .eq) = true then ((echo_Power.f t101).bind fun t103 => (if t103 = 1 then ((echo_Echo.f k (([0] : List Int)) 1).bind fun t107 => (some ((FloatKind.f64.format.order t107.1 4607182418800017408 == some .eq) && (FloatKind.f64.format.order t107.2 0 == some .eq)))) else (some false))) else (some false)) else (some false)) else (some false))) = some r := H
  have A1 := Aside0.mk A10
  clear A10
  replace H := Option.bind_eq_some_iff.mp H
  obtain ⟨t102, A20, H⟩ := H
  replace H : (if ((FloatKind.f64.format.order t102.1 0 == some .eq) && (FloatKind.f64.format.order t102.2 0 == some .eq)) = true then (if (FloatKind.f64.format.order t101.1 0 == some .eq) = true then (if (FloatKind.f64.format.order t101.2 4607182418800017408 == some .eq) = true then ((echo_Power.f t101).bind fun t103 => (if t103 = 1 then ((echo_Echo.f k (([0] : List Int)) 1).bind fun t107 => (some ((FloatKind.f64.format.order t107.1 4607182418800017408 == some .eq) && (FloatKind.f64.format.order t107.2 0 == some .eq)))) else (some false))) else (some false)) else (some false)) else (some false)) = some r := H
  have A2 := Aside0.mk A20
  clear A20
  by_cases c3 : ((FloatKind.f64.format.order t102.1 0 == some .eq) && (FloatKind.f64.format.order t102.2 0 == some .eq)) = true
  · rw [if_pos c3] at H
    have c3b0 : ((FloatKind.f64.format.order t102.1 0 == some .eq) && (FloatKind.f64.format.order t102.2 0 == some .eq)) = true := c3
    clear c3
    by_cases c4 : (FloatKind.f64.format.order t101.1 0 == some .eq) = true
    · rw [if_pos c4] at H
      have c4b0 : (FloatKind.f64.format.order t101.1 0 == some .eq) = true := c4
      (try (have c4b1 : decide (FloatKind.f64.format.order t101.1 0 = some .eq) = true := by simpa using c4))
      (try (have c4b2 : (FloatKind.f64.format.order t101.1 0 == some .eq) = true := by simpa using c4))
      clear c4
      by_cases c5 : (FloatKind.f64.format.order t101.2 4607182418800017408 == some .eq) = true
      · rw [if_pos c5] at H
        have c5b0 : (FloatKind.f64.format.order t101.2 4607182418800017408 == some .eq) = true := c5
        (try (have c5b1 : decide (FloatKind.f64.format.order t101.2 4607182418800017408 = some .eq) = true := by simpa using c5))
        (try (have c5b2 : (FloatKind.f64.format.order t101.2 4607182418800017408 == some .eq) = true := by simpa using c5))
        clear c5
        replace H := Option.bind_eq_some_iff.mp H
        obtain ⟨t103, A60, H⟩ := H
        replace H : (if t103 = 1 then ((echo_Echo.f k (([0] : List Int)) 1).bind fun t107 => (some ((FloatKind.f64.format.order t107.1 4607182418800017408 == some .eq) && (FloatKind.f64.format.order t107.2 0 == some .eq)))) else (some false)) = some r := H
        have A6 := Aside0.mk A60
        clear A60
        by_cases c7 : t103 = 1
        · rw [if_pos c7] at H
          have c7b0 : (t103 == 1) = true := beq_iff_eq.mpr c7
          have c7b1 : (t103 != 1) = false := bne_eq_false_iff_eq.mpr c7
          clear c7
          obtain ⟨y104, hy104⟩ : ∃ y_ : List Int, y_ = (([0] : List Int)) := ⟨_, rfl⟩
          replace H : ((echo_Echo.f k y104 1).bind fun t107 => (some ((FloatKind.f64.format.order t107.1 4607182418800017408 == some .eq) && (FloatKind.f64.format.order t107.2 0 == some .eq)))) = some r := by first | (rw [hy104]; with_reducible exact H) | (have H2_ := (Option.bind_some _ _).symm.trans H; rw [hy104]; with_reducible exact H2_) | (have H2_ := (Option.bind_some _ _).symm.trans H; with_reducible exact H2_) | with_reducible exact H | (rw [hy104]; exact H) | exact H
          have Ny104 := Aside0.mk hy104
          clear hy104
          replace H := Option.bind_eq_some_iff.mp H
          obtain ⟨t107, A80, H⟩ := H
          replace H : (some ((FloatKind.f64.format.order t107.1 4607182418800017408 == some .eq) && (FloatKind.f64.format.order t107.2 0 == some .eq))) = some r := H
          have A8 := Aside0.mk A80
          clear A80
          obtain rfl := Option.some.inj H
          go_enter Try.func12, Try.ntmps12
          go_wp2_with (first | ((with_reducible refine gate_callee (f := 14) rfl ?_); refine goesL_ (some 2) rfl rfl Try.func14 (by kernel_rfl) rfl #[.int .i64 1] rfl (by (try simp only [List.map_toArray, List.map_cons, List.map_nil]); first | done | rfl | (simp only [List.length_drop, List.length_take]; rfl)) ?_; (with_reducible refine (echo_Turn.calls 1 t101 _ A1.out).mono ?_); rintro e w' ⟨rfl, ⟨nd, rfl⟩⟩; refine ⟨_, rfl, ?_⟩) | ((with_reducible refine gate_callee (f := 16) rfl ?_); refine goesL_ (some 3) rfl rfl Try.func16 (by kernel_rfl) rfl #[.slice none 0 0, .int .i64 3] rfl (by (try simp only [List.map_toArray, List.map_cons, List.map_nil]); first | done | rfl | (simp only [List.length_drop, List.length_take]; rfl)) ?_; (refine (echo_Echo.calls k _ _ ([] : List Int) 3 t102 _ ?side1 ?side2 A2.out).mono ?_); (case side1 => exact Kd.C_nil _ _); (case side2 => exact Nat.le_refl _); rintro e w' ⟨rfl, ⟨nd, rfl⟩⟩; refine ⟨_, rfl, ?_⟩) | (go_at_call 15; (with_reducible refine (echo_Power.calls t101 t103 _ A6.out).mono ?_); rintro e w9 ⟨rfl, hb⟩; have n0_ := Aside0.mk (below_step (by repeat (first | (with_reducible first | exact HB.out | apply below_alloc | apply pw_below_drewN | apply below_drew1) | exact HB.out)) hb); clear HB; have HB := n0_; clear n0_; (try clear hb); (try clear hb2); (try clear hk); (try clear hi)) | ((with_reducible refine gate_dst (N := 21) rfl ?_); (try (refine gate_guard (by rfl) ?_; dsimp only)); refine Kd.R_lit (Kd.int .u8) _ 5 ?hg (N := 21) ?hd (xs := ([0] : List Int)) (inner := [.int .u8 0]) (ok := fun _ => True) (okp := fun _ => True) ?hr ?hp (fun _ hk => hk) trivial (Below.refl _ _) (Nat.le_refl _) (by simp) ?_; (case hd => rfl); (case hg => rfl); (case hr => first | (go_simp; done) | (go_simp; rfl)); (case hp => exact (Reps.one (show Kd.M (Kd.int .u8) _ _ _ 0 [.int .u8 0] from rfl) (Reps.none _ _))); intro v105 w10 ho11 hb hg_ hnew_; clear hg_ hnew_; (first | rw [← Ny104.out] at ho11 | (simp only [Int.reduceToNat] at ho11; rw [← Ny104.out] at ho11)); have n0_ := Aside0.mk (Kd.R_lower ho11 (below_size (by repeat (first | (with_reducible first | exact HB.out | apply below_alloc | apply pw_below_drewN | apply below_drew1) | exact HB.out)))); have n1_ := Aside0.mk (below_step (by repeat (first | (with_reducible first | exact HB.out | apply below_alloc | apply pw_below_drewN | apply below_drew1) | exact HB.out)) hb); clear HB; have HO106 := n0_; have HB := n1_; clear n0_ n1_; clear hb ho11; obtain ⟨Ao12, co12, eo12⟩ := Kd.R_slice HO106.out; subst eo12) | (go_at_call 16; (with_reducible refine (echo_Echo.calls k _ _ y104 1 t107 _ ?side1 ?side2 A8.out).mono ?_); (case side1 => repeat (first | exact (Kd.R_reads' HO106.out).2.2 | (with_reducible refine Kd.C_alloc ?_ _) | (with_reducible refine Kd.C_drewN ?_ _) | (with_reducible refine Kd.C_drew ?_))); (case side2 => exact (Kd.R_reads' HO106.out).2.1); rintro e w' ⟨rfl, ⟨nd, rfl⟩⟩))
          go_ret
          exact ⟨by first | rfl | (simp [errW_none, errW_some] <;> rfl) | (simp [*, errW_none, errW_some] <;> rfl), by repeat (first | (with_reducible first | exact HB.out | apply below_alloc | apply pw_below_drewN | apply below_drew1) | exact HB.out)⟩
        · rw [if_neg c7] at H
          have c7b0 : (t103 == 1) = false := beq_eq_false_iff_ne.mpr c7
          have c7b1 : (t103 != 1) = true := bne_iff_ne.mpr c7
          obtain rfl := Option.some.inj H
          go_enter Try.func12, Try.ntmps12
          go_wp2_with (first | ((with_reducible refine gate_callee (f := 14) rfl ?_); refine goesL_ (some 2) rfl rfl Try.func14 (by kernel_rfl) rfl #[.int .i64 1] rfl (by (try simp only [List.map_toArray, List.map_cons, List.map_nil]); first | done | rfl | (simp only [List.length_drop, List.length_take]; rfl)) ?_; (with_reducible refine (echo_Turn.calls 1 t101 _ A1.out).mono ?_); rintro e w' ⟨rfl, ⟨nd, rfl⟩⟩; refine ⟨_, rfl, ?_⟩) | ((with_reducible refine gate_callee (f := 16) rfl ?_); refine goesL_ (some 3) rfl rfl Try.func16 (by kernel_rfl) rfl #[.slice none 0 0, .int .i64 3] rfl (by (try simp only [List.map_toArray, List.map_cons, List.map_nil]); first | done | rfl | (simp only [List.length_drop, List.length_take]; rfl)) ?_; (refine (echo_Echo.calls k _ _ ([] : List Int) 3 t102 _ ?side1 ?side2 A2.out).mono ?_); (case side1 => exact Kd.C_nil _ _); (case side2 => exact Nat.le_refl _); rintro e w' ⟨rfl, ⟨nd, rfl⟩⟩; refine ⟨_, rfl, ?_⟩) | (go_at_call 15; (with_reducible refine (echo_Power.calls t101 t103 _ A6.out).mono ?_); rintro e w13 ⟨rfl, hb⟩; have n0_ := Aside0.mk (below_step (by repeat (first | (with_reducible first | exact HB.out | apply below_alloc | apply pw_below_drewN | apply below_drew1) | exact HB.out)) hb); clear HB; have HB := n0_; clear n0_; (try clear hb); (try clear hb2); (try clear hk); (try clear hi)))
          go_ret
          exact ⟨by first | rfl | (simp [errW_none, errW_some] <;> rfl) | (simp [*, errW_none, errW_some] <;> rfl), by repeat (first | (with_reducible first | exact HB.out | apply below_alloc | apply pw_below_drewN | apply below_drew1) | exact HB.out)⟩
      · rw [if_neg c5] at H
        have c5b0 : (FloatKind.f64.format.order t101.2 4607182418800017408 == some .eq) = false := by simpa using c5
        (try (have c5b1 : decide (FloatKind.f64.format.order t101.2 4607182418800017408 = some .eq) = false := by simpa using c5))
        (try (have c5b2 : (FloatKind.f64.format.order t101.2 4607182418800017408 == some .eq) = false := by simpa using c5))
        (try (have c5b3 : ¬ (FloatKind.f64.format.order t101.2 4607182418800017408 = some .eq) := by simpa using c5))
        clear c5
        obtain rfl := Option.some.inj H
        go_enter Try.func12, Try.ntmps12
        go_wp2_with (first | ((with_reducible refine gate_callee (f := 14) rfl ?_); refine goesL_ (some 2) rfl rfl Try.func14 (by kernel_rfl) rfl #[.int .i64 1] rfl (by (try simp only [List.map_toArray, List.map_cons, List.map_nil]); first | done | rfl | (simp only [List.length_drop, List.length_take]; rfl)) ?_; (with_reducible refine (echo_Turn.calls 1 t101 _ A1.out).mono ?_); rintro e w' ⟨rfl, ⟨nd, rfl⟩⟩; refine ⟨_, rfl, ?_⟩) | ((with_reducible refine gate_callee (f := 16) rfl ?_); refine goesL_ (some 3) rfl rfl Try.func16 (by kernel_rfl) rfl #[.slice none 0 0, .int .i64 3] rfl (by (try simp only [List.map_toArray, List.map_cons, List.map_nil]); first | done | rfl | (simp only [List.length_drop, List.length_take]; rfl)) ?_; (refine (echo_Echo.calls k _ _ ([] : List Int) 3 t102 _ ?side1 ?side2 A2.out).mono ?_); (case side1 => exact Kd.C_nil _ _); (case side2 => exact Nat.le_refl _); rintro e w' ⟨rfl, ⟨nd, rfl⟩⟩; refine ⟨_, rfl, ?_⟩))
        go_ret
        exact ⟨by first | rfl | (simp [errW_none, errW_some] <;> rfl) | (simp [*, errW_none, errW_some] <;> rfl), by repeat (first | (with_reducible first | exact HB.out | apply below_alloc | apply pw_below_drewN | apply below_drew1) | exact HB.out)⟩
    · rw [if_neg c4] at H
      have c4b0 : (FloatKind.f64.format.order t101.1 0 == some .eq) = false := by simpa using c4
      (try (have c4b1 : decide (FloatKind.f64.format.order t101.1 0 = some .eq) = false := by simpa using c4))
      (try (have c4b2 : (FloatKind.f64.format.order t101.1 0 == some .eq) = false := by simpa using c4))
      (try (have c4b3 : ¬ (FloatKind.f64.format.order t101.1 0 = some .eq) := by simpa using c4))
      clear c4
      obtain rfl := Option.some.inj H
      go_enter Try.func12, Try.ntmps12
      go_wp2_with (first | ((with_reducible refine gate_callee (f := 14) rfl ?_); refine goesL_ (some 2) rfl rfl Try.func14 (by kernel_rfl) rfl #[.int .i64 1] rfl (by (try simp only [List.map_toArray, List.map_cons, List.map_nil]); first | done | rfl | (simp only [List.length_drop, List.length_take]; rfl)) ?_; (with_reducible refine (echo_Turn.calls 1 t101 _ A1.out).mono ?_); rintro e w' ⟨rfl, ⟨nd, rfl⟩⟩; refine ⟨_, rfl, ?_⟩) | ((with_reducible refine gate_callee (f := 16) rfl ?_); refine goesL_ (some 3) rfl rfl Try.func16 (by kernel_rfl) rfl #[.slice none 0 0, .int .i64 3] rfl (by (try simp only [List.map_toArray, List.map_cons, List.map_nil]); first | done | rfl | (simp only [List.length_drop, List.length_take]; rfl)) ?_; (refine (echo_Echo.calls k _ _ ([] : List Int) 3 t102 _ ?side1 ?side2 A2.out).mono ?_); (case side1 => exact Kd.C_nil _ _); (case side2 => exact Nat.le_refl _); rintro e w' ⟨rfl, ⟨nd, rfl⟩⟩; refine ⟨_, rfl, ?_⟩))
      go_ret
      exact ⟨by first | rfl | (simp [errW_none, errW_some] <;> rfl) | (simp [*, errW_none, errW_some] <;> rfl), by repeat (first | (with_reducible first | exact HB.out | apply below_alloc | apply pw_below_drewN | apply below_drew1) | exact HB.out)⟩
  · rw [if_neg c3] at H
    have c3b0 : ((FloatKind.f64.format.order t102.1 0 == some .eq) && (FloatKind.f64.format.order t102.2 0 == some .eq)) = false := by simpa using c3
    clear c3
    obtain rfl := Option.some.inj H
    go_enter Try.func12, Try.ntmps12
    go_wp2_with (first | ((with_reducible refine gate_callee (f := 14) rfl ?_); refine goesL_ (some 2) rfl rfl Try.func14 (by kernel_rfl) rfl #[.int .i64 1] rfl (by (try simp only [List.map_toArray, List.map_cons, List.map_nil]); first | done | rfl | (simp only [List.length_drop, List.length_take]; rfl)) ?_; (with_reducible refine (echo_Turn.calls 1 t101 _ A1.out).mono ?_); rintro e w' ⟨rfl, ⟨nd, rfl⟩⟩; refine ⟨_, rfl, ?_⟩) | ((with_reducible refine gate_callee (f := 16) rfl ?_); refine goesL_ (some 3) rfl rfl Try.func16 (by kernel_rfl) rfl #[.slice none 0 0, .int .i64 3] rfl (by (try simp only [List.map_toArray, List.map_cons, List.map_nil]); first | done | rfl | (simp only [List.length_drop, List.length_take]; rfl)) ?_; (refine (echo_Echo.calls k _ _ ([] : List Int) 3 t102 _ ?side1 ?side2 A2.out).mono ?_); (case side1 => exact Kd.C_nil _ _); (case side2 => exact Nat.le_refl _); rintro e w' ⟨rfl, ⟨nd, rfl⟩⟩; refine ⟨_, rfl, ?_⟩))
    go_ret
    exact ⟨by first | rfl | (simp [errW_none, errW_some] <;> rfl) | (simp [*, errW_none, errW_some] <;> rfl), by repeat (first | (with_reducible first | exact HB.out | apply below_alloc | apply pw_below_drewN | apply below_drew1) | exact HB.out)⟩

/-! ### bits_OnesCount8: function 29 -/
def bits_OnesCount8.f (a0 : Int) : Option (Int) := if 0 ≤ a0 then (if a0 < 256 then (some (wrap64 (bt (⟨#[0, 1, 1, 2, 1, 2, 2, 3, 1, 2, 2, 3, 2, 3, 3, 4, 1, 2, 2, 3, 2, 3, 3, 4, 2, 3, 3, 4, 3, 4, 4, 5, 1, 2, 2, 3, 2, 3, 3, 4, 2, 3, 3, 4, 3, 4, 4, 5, 2, 3, 3, 4, 3, 4, 4, 5, 3, 4, 4, 5, 4, 5, 5, 6, 1, 2, 2, 3, 2, 3, 3, 4, 2, 3, 3, 4, 3, 4, 4, 5, 2, 3, 3, 4, 3, 4, 4, 5, 3, 4, 4, 5, 4, 5, 5, 6, 2, 3, 3, 4, 3, 4, 4, 5, 3, 4, 4, 5, 4, 5, 5, 6, 3, 4, 4, 5, 4, 5, 5, 6, 4, 5, 5, 6, 5, 6, 6, 7, 1, 2, 2, 3, 2, 3, 3, 4, 2, 3, 3, 4, 3, 4, 4, 5, 2, 3, 3, 4, 3, 4, 4, 5, 3, 4, 4, 5, 4, 5, 5, 6, 2, 3, 3, 4, 3, 4, 4, 5, 3, 4, 4, 5, 4, 5, 5, 6, 3, 4, 4, 5, 4, 5, 5, 6, 4, 5, 5, 6, 5, 6, 6, 7, 2, 3, 3, 4, 3, 4, 4, 5, 3, 4, 4, 5, 4, 5, 5, 6, 3, 4, 4, 5, 4, 5, 5, 6, 4, 5, 5, 6, 5, 6, 6, 7, 3, 4, 4, 5, 4, 5, 5, 6, 4, 5, 5, 6, 5, 6, 6, 7, 4, 5, 5, 6, 5, 6, 6, 7, 5, 6, 6, 7, 6, 7, 7, 8]⟩ : ByteArray) a0))) else (none)) else (none)
set_option maxHeartbeats 8000000 in
set_option maxRecDepth 100000 in
theorem bits_OnesCount8.calls (a0 : Int) (r : Int) (w : World) (h : bits_OnesCount8.f a0 = some r) :
    Calls Try.prog 29 #[.int .u8 a0] w fun e w' => e = .returned (.int .i64 r) ∧ Drawn0 w w' := by
  have H : (if 0 ≤ a0 then (if a0 < 256 then (some (wrap64 (bt (⟨#[0, 1, 1, 2, 1, 2, 2, 3, 1, 2, 2, 3, 2, 3, 3, 4, 1, 2, 2, 3, 2, 3, 3, 4, 2, 3, 3, 4, 3, 4, 4, 5, 1, 2, 2, 3, 2, 3, 3, 4, 2, 3, 3, 4, 3, 4, 4, 5, 2, 3, 3, 4, 3, 4, 4, 5, 3, 4, 4, 5, 4, 5, 5, 6, 1, 2, 2, 3, 2, 3, 3, 4, 2, 3, 3, 4, 3, 4, 4, 5, 2, 3, 3, 4, 3, 4, 4, 5, 3, 4, 4, 5, 4, 5, 5, 6, 2, 3, 3, 4, 3, 4, 4, 5, 3, 4, 4, 5, 4, 5, 5, 6, 3, 4, 4, 5, 4, 5, 5, 6, 4, 5, 5, 6, 5, 6, 6, 7, 1, 2, 2, 3, 2, 3, 3, 4, 2, 3, 3, 4, 3, 4, 4, 5, 2, 3, 3, 4, 3, 4, 4, 5, 3, 4, 4, 5, 4, 5, 5, 6, 2, 3, 3, 4, 3, 4, 4, 5, 3, 4, 4, 5, 4, 5, 5, 6, 3, 4, 4, 5, 4, 5, 5, 6, 4, 5, 5, 6, 5, 6, 6, 7, 2, 3, 3, 4, 3, 4, 4, 5, 3, 4, 4, 5, 4, 5, 5, 6, 3, 4, 4, 5, 4, 5, 5, 6, 4, 5, 5, 6, 5, 6, 6, 7, 3, 4, 4, 5, 4, 5, 5, 6, 4, 5, 5, 6, 5, 6, 6, 7, 4, 5, 5, 6, 5, 6, 6, 7, 5, 6, 6, 7, 6, 7, 7, 8]⟩ : ByteArray) a0))) else (none)) else (none)) = some r := h
  clear h
  by_cases c2 : 0 ≤ a0
  · rw [if_pos c2] at H
    have c2b0 : decide (0 ≤ a0) = true := decide_eq_true c2
    clear c2
    by_cases c3 : a0 < 256
    · rw [if_pos c3] at H
      have c3b0 : decide (a0 < 256) = true := decide_eq_true c3
      clear c3
      obtain rfl := Option.some.inj H
      have p4 : 0 ≤ (a0 : Int) := of_decide_eq_true (by first | (with_reducible assumption) | assumption)
      have q4 : a0 < (256 : Int) := of_decide_eq_true (by first | (with_reducible assumption) | assumption)
      have hx4 := bt_at (⟨#[0, 1, 1, 2, 1, 2, 2, 3, 1, 2, 2, 3, 2, 3, 3, 4, 1, 2, 2, 3, 2, 3, 3, 4, 2, 3, 3, 4, 3, 4, 4, 5, 1, 2, 2, 3, 2, 3, 3, 4, 2, 3, 3, 4, 3, 4, 4, 5, 2, 3, 3, 4, 3, 4, 4, 5, 3, 4, 4, 5, 4, 5, 5, 6, 1, 2, 2, 3, 2, 3, 3, 4, 2, 3, 3, 4, 3, 4, 4, 5, 2, 3, 3, 4, 3, 4, 4, 5, 3, 4, 4, 5, 4, 5, 5, 6, 2, 3, 3, 4, 3, 4, 4, 5, 3, 4, 4, 5, 4, 5, 5, 6, 3, 4, 4, 5, 4, 5, 5, 6, 4, 5, 5, 6, 5, 6, 6, 7, 1, 2, 2, 3, 2, 3, 3, 4, 2, 3, 3, 4, 3, 4, 4, 5, 2, 3, 3, 4, 3, 4, 4, 5, 3, 4, 4, 5, 4, 5, 5, 6, 2, 3, 3, 4, 3, 4, 4, 5, 3, 4, 4, 5, 4, 5, 5, 6, 3, 4, 4, 5, 4, 5, 5, 6, 4, 5, 5, 6, 5, 6, 6, 7, 2, 3, 3, 4, 3, 4, 4, 5, 3, 4, 4, 5, 4, 5, 5, 6, 3, 4, 4, 5, 4, 5, 5, 6, 4, 5, 5, 6, 5, 6, 6, 7, 3, 4, 4, 5, 4, 5, 5, 6, 4, 5, 5, 6, 5, 6, 6, 7, 4, 5, 5, 6, 5, 6, 6, 7, 5, 6, 6, 7, 6, 7, 7, 8]⟩ : ByteArray) a0
      replace p4 := eq_true p4
      replace q4 := eq_true q4
      go_enter Try.func29, Try.ntmps29
      go_wp2
      go_ret
      exact ⟨by first | rfl | (simp; done) | (simp [*]; done), by repeat (first | exact Drawn0.refl _ | apply Drawn0.step)⟩
    · rw [if_neg c3] at H
      exact absurd H (by simp)
  · rw [if_neg c2] at H
    exact absurd H (by simp)

/-! ### echo_even: function 26 -/
def echo_even.f (a0 : Int) : Option (Bool) := (bits_OnesCount8.f a0).bind fun t108 => (some ((Int.tmod t108 2) == 0))
set_option maxHeartbeats 8000000 in
set_option maxRecDepth 100000 in
theorem echo_even.calls (a0 : Int) (r : Bool) (w : World) (h : echo_even.f a0 = some r) :
    Calls Try.prog 26 #[.int .u8 a0] w fun e w' => e = .returned (.bool r) ∧ Drawn0 w w' := by
  have H : ((bits_OnesCount8.f a0).bind fun t108 => (some ((Int.tmod t108 2) == 0))) = some r := h
  clear h
  replace H := Option.bind_eq_some_iff.mp H
  obtain ⟨t108, A20, H⟩ := H
  replace H : (some ((Int.tmod t108 2) == 0)) = some r := H
  have A2 := Aside0.mk A20
  clear A20
  obtain rfl := Option.some.inj H
  go_enter Try.func26, Try.ntmps26
  go_wp2_with (first | ((with_reducible refine gate_callee (f := 29) rfl ?_); refine goesL_ (some 4) rfl rfl Try.func29 (by kernel_rfl) rfl #[.int .u8 a0] rfl (by (try simp only [List.map_toArray, List.map_cons, List.map_nil]); first | done | rfl | (simp only [List.length_drop, List.length_take]; rfl)) ?_; (with_reducible refine (bits_OnesCount8.calls a0 t108 _ A2.out).mono ?_); rintro e w' ⟨rfl, ⟨nd, rfl⟩⟩; refine ⟨_, rfl, ?_⟩))
  go_ret
  exact ⟨by first | rfl | (simp; done) | (simp [*]; done), by repeat (first | exact Drawn0.refl _ | apply Drawn0.step)⟩

/-! ### echo_Bias: function 21 -/
def echo_Bias.l0 : Nat → Int → Int → Int → List Int → Int → Int → Option (Int)
  | 0, _, _, _, _, _, _ => none
  | k + 1, x1, x2, x7, x10, x11, x12 => if x12 < x11 then (if 0 ≤ x12 then (if x12 < (x10.length : Int) then ((echo_even.f (Go.bits .and .u8 ((x12) % 256) x1)).bind fun t110 => ((echo_even.f (Go.bits .and .u8 (rd x10 x12) x2)).bind fun t111 => (if (t110 == t111) = true then (echo_Bias.l0 k x1 x2 (wrap64 (x7 + 1)) x10 x11 (wrap64 (x12 + 1))) else (echo_Bias.l0 k x1 x2 (wrap64 (x7 - 1)) x10 x11 (wrap64 (x12 + 1)))))) else (none)) else (none)) else (some x7)
def echo_Bias.f (k : Nat) (l0 : List Int) (a1 : Int) (a2 : Int) : Option (Int) := echo_Bias.l0 k a1 a2 0 l0 (l0.length : Int) 0
theorem echo_Bias.mono_l : ∀ k, (∀ y0 y1 y2 y3 y4 y5, LeO (echo_Bias.l0 k y0 y1 y2 y3 y4 y5) (echo_Bias.l0 (k + 1) y0 y1 y2 y3 y4 y5))
  | 0 => fun _ _ _ _ _ _ r h => by simp [echo_Bias.l0] at h
  | k + 1 => by
    have ih0 := echo_Bias.mono_l k
    · intro y0 y1 y2 y3 y4 y5
      unfold echo_Bias.l0
      repeat' first
      | (with_reducible exact ih0 _ _ _ _ _ _)
      | (with_reducible exact LeO.refl _)
      | (with_reducible exact LeO.none _)
      | (with_reducible refine LeO.ite ?_ ?_)
      | (with_reducible refine LeO.bind ?_ (fun _ => ?_))
      | exact ih0 _ _ _ _ _ _
      | exact LeO.none _
      | refine LeO.ite ?_ ?_
      | refine LeO.bind ?_ (fun _ => ?_)
theorem echo_Bias.mono : ∀ a0 a1 a2 k, LeO (echo_Bias.f k a0 a1 a2) (echo_Bias.f (k + 1) a0 a1 a2) := by
  intro a0 a1 a2 k
  have ih0 := echo_Bias.mono_l k
  unfold echo_Bias.f
  repeat' first
      | (with_reducible exact ih0 _ _ _ _ _ _)
      | (with_reducible exact LeO.refl _)
      | (with_reducible exact LeO.none _)
      | (with_reducible refine LeO.ite ?_ ?_)
      | (with_reducible refine LeO.bind ?_ (fun _ => ?_))
      | exact ih0 _ _ _ _ _ _
      | exact LeO.none _
      | refine LeO.ite ?_ ?_
      | refine LeO.bind ?_ (fun _ => ?_)
set_option maxHeartbeats 8000000 in
set_option maxRecDepth 100000 in
theorem echo_Bias.calls (k : Nat) (A0 : Option Addr) (c0 : Nat) (l0 : List Int) (a1 : Int) (a2 : Int) (r : Int) (w : World) (hr0 : Kd.C (Kd.int .u8) w A0 l0.length l0) (hc0 : l0.length ≤ c0) (h : echo_Bias.f k l0 a1 a2 = some r) :
    Calls Try.prog 21 #[.slice A0 l0.length c0, .int .u8 a1, .int .u8 a2] w fun e w' => e = .returned (.int .i64 r) ∧ Drawn0 w w' := by
  have HR0 := Aside0.mk hr0
  have HC0 := Aside0.mk hc0
  clear hr0 hc0
  have H : (echo_Bias.l0 k a1 a2 0 l0 (l0.length : Int) 0) = some r := h
  clear h
  have H' := Aside0.mk H
  clear H
  go_enter Try.func21, Try.ntmps21
  go_wp2
  go_loopg [7, 12] k (fun kq v7 v12 w' => ∃ (x7_1 : Int) (x12_1 : Int), v7 = .int .i64 x7_1 ∧ v12 = .int .i64 x12_1 ∧ Aside0 (echo_Bias.l0 kq a1 a2 x7_1 l0 (l0.length : Int) x12_1 = some r) ∧ Aside0 (kq ≤ k) ∧ Drawn0 w w')
  case atStart => exact ⟨(0), (0), (by first | rfl | (simp; done) | (simp [*]; done)), (by first | rfl | (simp; done) | (simp [*]; done)), H', ⟨Nat.le_refl _⟩, by repeat (first | exact Drawn0.refl _ | apply Drawn0.step)⟩
  case round =>
    clear H'
    try clear c2
    try clear p2
    obtain ⟨x7_1, x12_1, rfl, rfl, HA, HK1, ⟨m1, rfl⟩⟩ := hrel
    cases gk with
    | zero => exact absurd HA.out (by simp [echo_Bias.l0])
    | succ k1 =>
      have H := HA.out
      clear HA
      simp only [echo_Bias.l0] at H
      by_cases c4 : x12_1 < (l0.length : Int)
      · rw [if_pos c4] at H
        have c4b0 : decide (x12_1 < (l0.length : Int)) = true := decide_eq_true c4
        clear c4
        by_cases c5 : 0 ≤ x12_1
        · rw [if_pos c5] at H
          have c5b0 : decide (0 ≤ x12_1) = true := decide_eq_true c5
          clear c5
          by_cases c6 : x12_1 < (l0.length : Int)
          · rw [if_pos c6] at H
            have c6b0 : decide (x12_1 < (l0.length : Int)) = true := decide_eq_true c6
            clear c6
            replace H := Option.bind_eq_some_iff.mp H
            obtain ⟨t110, A70, H⟩ := H
            replace H : ((echo_even.f (Go.bits .and .u8 (rd l0 x12_1) a2)).bind fun t111 => (if (t110 == t111) = true then (echo_Bias.l0 k1 a1 a2 (wrap64 (x7_1 + 1)) l0 (l0.length : Int) (wrap64 (x12_1 + 1))) else (echo_Bias.l0 k1 a1 a2 (wrap64 (x7_1 - 1)) l0 (l0.length : Int) (wrap64 (x12_1 + 1))))) = some r := H
            have A7 := Aside0.mk A70
            clear A70
            replace H := Option.bind_eq_some_iff.mp H
            obtain ⟨t111, A80, H⟩ := H
            replace H : (if (t110 == t111) = true then (echo_Bias.l0 k1 a1 a2 (wrap64 (x7_1 + 1)) l0 (l0.length : Int) (wrap64 (x12_1 + 1))) else (echo_Bias.l0 k1 a1 a2 (wrap64 (x7_1 - 1)) l0 (l0.length : Int) (wrap64 (x12_1 + 1)))) = some r := H
            have A8 := Aside0.mk A80
            clear A80
            by_cases c9 : (t110 == t111) = true
            · rw [if_pos c9] at H
              have c9b0 : (t110 == t111) = true := c9
              (try (have c9b1 : decide (t110 = t111) = true := by simpa using c9))
              (try (have c9b2 : (t110 == t111) = true := by simpa using c9))
              clear c9
              have H' := Aside0.mk H
              clear H
              have p109 : 0 ≤ (x12_1 : Int) := of_decide_eq_true (by first | (with_reducible assumption) | assumption)
              have q109 : x12_1 < (l0.length : Int) := of_decide_eq_true (by first | (with_reducible assumption) | assumption)
              obtain ⟨ad109, e109, hx109_0⟩ := Kd.at_int HR0.out x12_1 p109 q109
              cases e109
              replace p109 := eq_true p109
              replace q109 := eq_true q109
              go_wp2_with (first | ((with_reducible refine gate_callee (f := 26) rfl ?_); refine goesL_ (some 21) rfl rfl Try.func26 (by kernel_rfl) rfl #[.int .u8 (Go.bits .and .u8 ((x12_1) % 256) a1)] rfl (by (try simp only [List.map_toArray, List.map_cons, List.map_nil]); first | done | rfl | (simp only [List.length_drop, List.length_take]; rfl)) ?_; (with_reducible refine (echo_even.calls (Go.bits .and .u8 ((x12_1) % 256) a1) t110 _ A7.out).mono ?_); rintro e w' ⟨rfl, ⟨nd, rfl⟩⟩; refine ⟨_, rfl, ?_⟩) | ((with_reducible refine gate_callee (f := 26) rfl ?_); refine goesL_ (some 25) rfl rfl Try.func26 (by kernel_rfl) rfl #[.int .u8 (Go.bits .and .u8 (rd l0 x12_1) a2)] rfl (by (try simp only [List.map_toArray, List.map_cons, List.map_nil]); first | done | rfl | (simp only [List.length_drop, List.length_take]; rfl)) ?_; (with_reducible refine (echo_even.calls (Go.bits .and .u8 (rd l0 x12_1) a2) t111 _ A8.out).mono ?_); rintro e w' ⟨rfl, ⟨nd, rfl⟩⟩; refine ⟨_, rfl, ?_⟩))
              go_roundg k1
              case measure => have := HK1.out; omega
              case rel => exact ⟨(wrap64 (x7_1 + 1)), (wrap64 (x12_1 + 1)), (by first | rfl | (simp; done) | (simp [*]; done)), (by first | rfl | (simp; done) | (simp [*]; done)), H', ⟨by have := HK1.out; omega⟩, by repeat (first | exact Drawn0.refl _ | apply Drawn0.step)⟩
            · rw [if_neg c9] at H
              have c9b0 : (t110 == t111) = false := by simpa using c9
              (try (have c9b1 : decide (t110 = t111) = false := by simpa using c9))
              (try (have c9b2 : (t110 == t111) = false := by simpa using c9))
              (try (have c9b3 : ¬ (t110 = t111) := by simpa using c9))
              clear c9
              have H' := Aside0.mk H
              clear H
              have p109 : 0 ≤ (x12_1 : Int) := of_decide_eq_true (by first | (with_reducible assumption) | assumption)
              have q109 : x12_1 < (l0.length : Int) := of_decide_eq_true (by first | (with_reducible assumption) | assumption)
              obtain ⟨ad109, e109, hx109_0⟩ := Kd.at_int HR0.out x12_1 p109 q109
              cases e109
              replace p109 := eq_true p109
              replace q109 := eq_true q109
              go_wp2_with (first | ((with_reducible refine gate_callee (f := 26) rfl ?_); refine goesL_ (some 21) rfl rfl Try.func26 (by kernel_rfl) rfl #[.int .u8 (Go.bits .and .u8 ((x12_1) % 256) a1)] rfl (by (try simp only [List.map_toArray, List.map_cons, List.map_nil]); first | done | rfl | (simp only [List.length_drop, List.length_take]; rfl)) ?_; (with_reducible refine (echo_even.calls (Go.bits .and .u8 ((x12_1) % 256) a1) t110 _ A7.out).mono ?_); rintro e w' ⟨rfl, ⟨nd, rfl⟩⟩; refine ⟨_, rfl, ?_⟩) | ((with_reducible refine gate_callee (f := 26) rfl ?_); refine goesL_ (some 25) rfl rfl Try.func26 (by kernel_rfl) rfl #[.int .u8 (Go.bits .and .u8 (rd l0 x12_1) a2)] rfl (by (try simp only [List.map_toArray, List.map_cons, List.map_nil]); first | done | rfl | (simp only [List.length_drop, List.length_take]; rfl)) ?_; (with_reducible refine (echo_even.calls (Go.bits .and .u8 (rd l0 x12_1) a2) t111 _ A8.out).mono ?_); rintro e w' ⟨rfl, ⟨nd, rfl⟩⟩; refine ⟨_, rfl, ?_⟩))
              go_roundg k1
              case measure => have := HK1.out; omega
              case rel => exact ⟨(wrap64 (x7_1 - 1)), (wrap64 (x12_1 + 1)), (by first | rfl | (simp; done) | (simp [*]; done)), (by first | rfl | (simp; done) | (simp [*]; done)), H', ⟨by have := HK1.out; omega⟩, by repeat (first | exact Drawn0.refl _ | apply Drawn0.step)⟩
          · rw [if_neg c6] at H
            exact absurd H (by simp)
        · rw [if_neg c5] at H
          exact absurd H (by simp)
      · rw [if_neg c4] at H
        have c4b0 : decide (x12_1 < (l0.length : Int)) = false := decide_eq_false c4
        clear c4
        obtain rfl := Option.some.inj H
        go_wp2
        go_ret
        exact ⟨by first | rfl | (simp; done) | (simp [*]; done), by repeat (first | exact Drawn0.refl _ | apply Drawn0.step)⟩

/-! ### scrimref5_odd: function 27 -/
def scrimref5_odd.l0 : Nat → Int → Bool → Int → Option (Bool)
  | 0, _, _, _ => none
  | k + 1, x0, x3, x4 => if x4 < 8 then (if 0 ≤ x4 then (if (Go.bits .and .u8 (shr .u8 x0 x4) 1) = 1 then (scrimref5_odd.l0 k x0 (!x3) (IntKind.u64.wrap (x4 + 1))) else (scrimref5_odd.l0 k x0 x3 (IntKind.u64.wrap (x4 + 1)))) else (none)) else (some x3)
def scrimref5_odd.f (k : Nat) (a0 : Int) : Option (Bool) := scrimref5_odd.l0 k a0 false 0
theorem scrimref5_odd.mono_l : ∀ k, (∀ y0 y1 y2, LeO (scrimref5_odd.l0 k y0 y1 y2) (scrimref5_odd.l0 (k + 1) y0 y1 y2))
  | 0 => fun _ _ _ r h => by simp [scrimref5_odd.l0] at h
  | k + 1 => by
    have ih0 := scrimref5_odd.mono_l k
    · intro y0 y1 y2
      unfold scrimref5_odd.l0
      repeat' first
      | (with_reducible exact ih0 _ _ _)
      | (with_reducible exact LeO.refl _)
      | (with_reducible exact LeO.none _)
      | (with_reducible refine LeO.ite ?_ ?_)
      | (with_reducible refine LeO.bind ?_ (fun _ => ?_))
      | exact ih0 _ _ _
      | exact LeO.none _
      | refine LeO.ite ?_ ?_
      | refine LeO.bind ?_ (fun _ => ?_)
theorem scrimref5_odd.mono : ∀ a0 k, LeO (scrimref5_odd.f k a0) (scrimref5_odd.f (k + 1) a0) := by
  intro a0 k
  have ih0 := scrimref5_odd.mono_l k
  unfold scrimref5_odd.f
  repeat' first
      | (with_reducible exact ih0 _ _ _)
      | (with_reducible exact LeO.refl _)
      | (with_reducible exact LeO.none _)
      | (with_reducible refine LeO.ite ?_ ?_)
      | (with_reducible refine LeO.bind ?_ (fun _ => ?_))
      | exact ih0 _ _ _
      | exact LeO.none _
      | refine LeO.ite ?_ ?_
      | refine LeO.bind ?_ (fun _ => ?_)
set_option maxHeartbeats 8000000 in
set_option maxRecDepth 100000 in
theorem scrimref5_odd.calls (k : Nat) (a0 : Int) (r : Bool) (w : World) (h : scrimref5_odd.f k a0 = some r) :
    Calls Try.prog 27 #[.int .u8 a0] w fun e w' => e = .returned (.bool r) ∧ Drawn0 w w' := by
  have H : (scrimref5_odd.l0 k a0 false 0) = some r := h
  clear h
  have H' := Aside0.mk H
  clear H
  go_enter Try.func27, Try.ntmps27
  go_wp2
  go_loopg [3, 4] k (fun kq v3 v4 w' => ∃ (x3_1 : Bool) (x4_1 : Int), v3 = .bool x3_1 ∧ v4 = .int .u64 x4_1 ∧ Aside0 (scrimref5_odd.l0 kq a0 x3_1 x4_1 = some r) ∧ Aside0 (kq ≤ k) ∧ Drawn0 w w')
  case atStart => exact ⟨(false), (0), (by first | rfl | (simp; done) | (simp [*]; done)), (by first | rfl | (simp; done) | (simp [*]; done)), H', ⟨Nat.le_refl _⟩, by repeat (first | exact Drawn0.refl _ | apply Drawn0.step)⟩
  case round =>
    clear H'
    obtain ⟨x3_1, x4_1, rfl, rfl, HA, HK1, ⟨m1, rfl⟩⟩ := hrel
    cases gk with
    | zero => exact absurd HA.out (by simp [scrimref5_odd.l0])
    | succ k1 =>
      have H := HA.out
      clear HA
      simp only [scrimref5_odd.l0] at H
      by_cases c2 : x4_1 < 8
      · rw [if_pos c2] at H
        have c2b0 : decide (x4_1 < 8) = true := decide_eq_true c2
        clear c2
        by_cases c3 : 0 ≤ x4_1
        · rw [if_pos c3] at H
          have c3b0 := eq_true c3
          have c3b1 : decide (0 ≤ x4_1) = true := decide_eq_true c3
          clear c3
          obtain ⟨ji4, hji4⟩ : ∃ j_ : Int, (shr .u8 a0 x4_1) = j_ := ⟨_, rfl⟩
          replace H : (if (Go.bits .and .u8 (ji4) 1) = 1 then (scrimref5_odd.l0 k1 a0 (!x3_1) (IntKind.u64.wrap (x4_1 + 1))) else (scrimref5_odd.l0 k1 a0 x3_1 (IntKind.u64.wrap (x4_1 + 1)))) = some r := by first | (rw [hji4] at H; exact H) | (simp only [hji4] at H ⊢; exact H)
          have hji4_ : (a0 / 2 ^ min x4_1.toNat 8) = ji4 := hji4
          have hji4z : x4_1 ≤ 8 → (a0 / 2 ^ x4_1.toNat) = ji4 := shr_small hji4
          by_cases c5 : (Go.bits .and .u8 (ji4) 1) = 1
          · rw [if_pos c5] at H
            have c5b0 : ((Go.bits .and .u8 (ji4) 1) == 1) = true := beq_iff_eq.mpr c5
            have c5b1 : ((Go.bits .and .u8 (ji4) 1) != 1) = false := bne_eq_false_iff_eq.mpr c5
            clear c5
            have H' := Aside0.mk H
            clear H
            go_wp2
            go_roundg k1
            case measure => have := HK1.out; omega
            case rel => exact ⟨(!x3_1), (IntKind.u64.wrap (x4_1 + 1)), (by first | rfl | (simp; done) | (simp [*]; done)), (by first | rfl | (simp; done) | (simp [*]; done)), H', ⟨by have := HK1.out; omega⟩, by repeat (first | exact Drawn0.refl _ | apply Drawn0.step)⟩
          · rw [if_neg c5] at H
            have c5b0 : ((Go.bits .and .u8 (ji4) 1) == 1) = false := beq_eq_false_iff_ne.mpr c5
            have c5b1 : ((Go.bits .and .u8 (ji4) 1) != 1) = true := bne_iff_ne.mpr c5
            have H' := Aside0.mk H
            clear H
            go_wp2
            go_roundg k1
            case measure => have := HK1.out; omega
            case rel => exact ⟨(x3_1), (IntKind.u64.wrap (x4_1 + 1)), (by first | rfl | (simp; done) | (simp [*]; done)), (by first | rfl | (simp; done) | (simp [*]; done)), H', ⟨by have := HK1.out; omega⟩, by repeat (first | exact Drawn0.refl _ | apply Drawn0.step)⟩
        · rw [if_neg c3] at H
          exact absurd H (by simp)
      · rw [if_neg c2] at H
        have c2b0 : decide (x4_1 < 8) = false := decide_eq_false c2
        clear c2
        obtain rfl := Option.some.inj H
        go_wp2
        go_ret
        exact ⟨by first | rfl | (simp; done) | (simp [*]; done), by repeat (first | exact Drawn0.refl _ | apply Drawn0.step)⟩

/-! ### scrimref5_Bias: function 22 -/
def scrimref5_Bias.l0 : Nat → List Int → Int → Int → Int → Int → Option (Int)
  | 0, _, _, _, _, _ => none
  | k + 1, x0, x1, x2, x7, x8 => if x8 < (x0.length : Int) then ((scrimref5_odd.f k (Go.bits .and .u8 ((x8) % 256) x1)).bind fun t112 => (if 0 ≤ x8 then ((scrimref5_odd.f k (Go.bits .and .u8 (rd x0 x8) x2)).bind fun t114 => (if (t112 == t114) = true then (scrimref5_Bias.l0 k x0 x1 x2 (wrap64 (x7 + 1)) (wrap64 (x8 + 1))) else (scrimref5_Bias.l0 k x0 x1 x2 (wrap64 (x7 - 1)) (wrap64 (x8 + 1))))) else (none))) else (some x7)
def scrimref5_Bias.f (k : Nat) (l0 : List Int) (a1 : Int) (a2 : Int) : Option (Int) := scrimref5_Bias.l0 k l0 a1 a2 0 0
theorem scrimref5_Bias.mono_l : ∀ k, (∀ y0 y1 y2 y3 y4, LeO (scrimref5_Bias.l0 k y0 y1 y2 y3 y4) (scrimref5_Bias.l0 (k + 1) y0 y1 y2 y3 y4))
  | 0 => fun _ _ _ _ _ r h => by simp [scrimref5_Bias.l0] at h
  | k + 1 => by
    have ih0 := scrimref5_Bias.mono_l k
    · intro y0 y1 y2 y3 y4
      unfold scrimref5_Bias.l0
      repeat' first
      | (with_reducible exact ih0 _ _ _ _ _)
      | (with_reducible exact scrimref5_odd.mono _ _)
      | (with_reducible exact LeO.refl _)
      | (with_reducible exact LeO.none _)
      | (with_reducible refine LeO.ite ?_ ?_)
      | (with_reducible refine LeO.bind ?_ (fun _ => ?_))
      | exact ih0 _ _ _ _ _
      | exact scrimref5_odd.mono _ _
      | exact LeO.none _
      | refine LeO.ite ?_ ?_
      | refine LeO.bind ?_ (fun _ => ?_)
theorem scrimref5_Bias.mono : ∀ a0 a1 a2 k, LeO (scrimref5_Bias.f k a0 a1 a2) (scrimref5_Bias.f (k + 1) a0 a1 a2) := by
  intro a0 a1 a2 k
  have ih0 := scrimref5_Bias.mono_l k
  unfold scrimref5_Bias.f
  repeat' first
      | (with_reducible exact ih0 _ _ _ _ _)
      | (with_reducible exact scrimref5_odd.mono _ _)
      | (with_reducible exact LeO.refl _)
      | (with_reducible exact LeO.none _)
      | (with_reducible refine LeO.ite ?_ ?_)
      | (with_reducible refine LeO.bind ?_ (fun _ => ?_))
      | exact ih0 _ _ _ _ _
      | exact scrimref5_odd.mono _ _
      | exact LeO.none _
      | refine LeO.ite ?_ ?_
      | refine LeO.bind ?_ (fun _ => ?_)
set_option maxHeartbeats 8000000 in
set_option maxRecDepth 100000 in
theorem scrimref5_Bias.calls (k : Nat) (A0 : Option Addr) (c0 : Nat) (l0 : List Int) (a1 : Int) (a2 : Int) (r : Int) (w : World) (hr0 : Kd.C (Kd.int .u8) w A0 l0.length l0) (hc0 : l0.length ≤ c0) (h : scrimref5_Bias.f k l0 a1 a2 = some r) :
    Calls Try.prog 22 #[.slice A0 l0.length c0, .int .u8 a1, .int .u8 a2] w fun e w' => e = .returned (.int .i64 r) ∧ Drawn0 w w' := by
  have HR0 := Aside0.mk hr0
  have HC0 := Aside0.mk hc0
  clear hr0 hc0
  have H : (scrimref5_Bias.l0 k l0 a1 a2 0 0) = some r := h
  clear h
  have H' := Aside0.mk H
  clear H
  go_enter Try.func22, Try.ntmps22
  go_wp2
  repeat (go_quiet (fail); try go_wp2)
  go_loopg [7, 8] k (fun kq v7 v8 w' => ∃ (x7_1 : Int) (x8_1 : Int), v7 = .int .i64 x7_1 ∧ v8 = .int .i64 x8_1 ∧ Aside0 (scrimref5_Bias.l0 kq l0 a1 a2 x7_1 x8_1 = some r) ∧ Aside0 (kq ≤ k) ∧ Drawn0 w w')
  case atStart => exact ⟨(0), (0), (by first | rfl | (simp; done) | (simp [*]; done)), (by first | rfl | (simp; done) | (simp [*]; done)), H', ⟨Nat.le_refl _⟩, by repeat (first | exact Drawn0.refl _ | apply Drawn0.step)⟩
  case round =>
    clear H'
    try clear c2
    try clear p2
    obtain ⟨x7_1, x8_1, rfl, rfl, HA, HK1, ⟨m1, rfl⟩⟩ := hrel
    cases gk with
    | zero => exact absurd HA.out (by simp [scrimref5_Bias.l0])
    | succ k1 =>
      have H := HA.out
      clear HA
      simp only [scrimref5_Bias.l0] at H
      by_cases c4 : x8_1 < (l0.length : Int)
      · rw [if_pos c4] at H
        have c4b0 : decide (x8_1 < (l0.length : Int)) = true := decide_eq_true c4
        clear c4
        replace H := Option.bind_eq_some_iff.mp H
        obtain ⟨t112, A50, H⟩ := H
        replace H : (if 0 ≤ x8_1 then ((scrimref5_odd.f k1 (Go.bits .and .u8 (rd l0 x8_1) a2)).bind fun t114 => (if (t112 == t114) = true then (scrimref5_Bias.l0 k1 l0 a1 a2 (wrap64 (x7_1 + 1)) (wrap64 (x8_1 + 1))) else (scrimref5_Bias.l0 k1 l0 a1 a2 (wrap64 (x7_1 - 1)) (wrap64 (x8_1 + 1))))) else (none)) = some r := H
        have A5 := Aside0.mk A50
        clear A50
        by_cases c6 : 0 ≤ x8_1
        · rw [if_pos c6] at H
          have c6b0 : decide (0 ≤ x8_1) = true := decide_eq_true c6
          clear c6
          replace H := Option.bind_eq_some_iff.mp H
          obtain ⟨t114, A70, H⟩ := H
          replace H : (if (t112 == t114) = true then (scrimref5_Bias.l0 k1 l0 a1 a2 (wrap64 (x7_1 + 1)) (wrap64 (x8_1 + 1))) else (scrimref5_Bias.l0 k1 l0 a1 a2 (wrap64 (x7_1 - 1)) (wrap64 (x8_1 + 1)))) = some r := H
          have A7 := Aside0.mk A70
          clear A70
          by_cases c8 : (t112 == t114) = true
          · rw [if_pos c8] at H
            have c8b0 : (t112 == t114) = true := c8
            (try (have c8b1 : decide (t112 = t114) = true := by simpa using c8))
            (try (have c8b2 : (t112 == t114) = true := by simpa using c8))
            clear c8
            have H' := Aside0.mk H
            clear H
            have hwq_ := IntKind.wrap_u8' x8_1
            go_wp2_with (first | (go_at_call 27; (with_reducible refine (scrimref5_odd.calls k1 (Go.bits .and .u8 ((x8_1) % 256) a1) t112 _ A5.out).mono ?_); rintro e w' ⟨rfl, ⟨nd, rfl⟩⟩; (try first | exact ⟨rfl, _, World.drewN_drewN _ _ _⟩ | exact ⟨rfl, _, Eq.trans (World.drewN_drewN _ _ _) (congrArg (World.drewN _) (Nat.add_assoc _ _ _))⟩); have p113 : 0 ≤ (x8_1 : Int) := of_decide_eq_true (by first | (with_reducible assumption) | assumption); have q113 : x8_1 < (l0.length : Int) := of_decide_eq_true (by first | (with_reducible assumption) | assumption); obtain ⟨ad113, e113, hx113_0⟩ := Kd.at_int HR0.out x8_1 p113 q113; cases e113; replace p113 := eq_true p113; replace q113 := eq_true q113) | (go_at_call 27; (with_reducible refine (scrimref5_odd.calls k1 (Go.bits .and .u8 (rd l0 x8_1) a2) t114 _ A7.out).mono ?_); rintro e w' ⟨rfl, ⟨nd, rfl⟩⟩; (try first | exact ⟨rfl, _, World.drewN_drewN _ _ _⟩ | exact ⟨rfl, _, Eq.trans (World.drewN_drewN _ _ _) (congrArg (World.drewN _) (Nat.add_assoc _ _ _))⟩)))
            repeat (go_quiet (first | (go_at_call 27; (with_reducible refine (scrimref5_odd.calls k1 (Go.bits .and .u8 ((x8_1) % 256) a1) t112 _ A5.out).mono ?_); rintro e w' ⟨rfl, ⟨nd, rfl⟩⟩; (try first | exact ⟨rfl, _, World.drewN_drewN _ _ _⟩ | exact ⟨rfl, _, Eq.trans (World.drewN_drewN _ _ _) (congrArg (World.drewN _) (Nat.add_assoc _ _ _))⟩); have p113 : 0 ≤ (x8_1 : Int) := of_decide_eq_true (by first | (with_reducible assumption) | assumption); have q113 : x8_1 < (l0.length : Int) := of_decide_eq_true (by first | (with_reducible assumption) | assumption); obtain ⟨ad113, e113, hx113_0⟩ := Kd.at_int HR0.out x8_1 p113 q113; cases e113; replace p113 := eq_true p113; replace q113 := eq_true q113) | (go_at_call 27; (with_reducible refine (scrimref5_odd.calls k1 (Go.bits .and .u8 (rd l0 x8_1) a2) t114 _ A7.out).mono ?_); rintro e w' ⟨rfl, ⟨nd, rfl⟩⟩; (try first | exact ⟨rfl, _, World.drewN_drewN _ _ _⟩ | exact ⟨rfl, _, Eq.trans (World.drewN_drewN _ _ _) (congrArg (World.drewN _) (Nat.add_assoc _ _ _))⟩))); try go_wp2_with (first | (go_at_call 27; (with_reducible refine (scrimref5_odd.calls k1 (Go.bits .and .u8 ((x8_1) % 256) a1) t112 _ A5.out).mono ?_); rintro e w' ⟨rfl, ⟨nd, rfl⟩⟩; (try first | exact ⟨rfl, _, World.drewN_drewN _ _ _⟩ | exact ⟨rfl, _, Eq.trans (World.drewN_drewN _ _ _) (congrArg (World.drewN _) (Nat.add_assoc _ _ _))⟩); have p113 : 0 ≤ (x8_1 : Int) := of_decide_eq_true (by first | (with_reducible assumption) | assumption); have q113 : x8_1 < (l0.length : Int) := of_decide_eq_true (by first | (with_reducible assumption) | assumption); obtain ⟨ad113, e113, hx113_0⟩ := Kd.at_int HR0.out x8_1 p113 q113; cases e113; replace p113 := eq_true p113; replace q113 := eq_true q113) | (go_at_call 27; (with_reducible refine (scrimref5_odd.calls k1 (Go.bits .and .u8 (rd l0 x8_1) a2) t114 _ A7.out).mono ?_); rintro e w' ⟨rfl, ⟨nd, rfl⟩⟩; (try first | exact ⟨rfl, _, World.drewN_drewN _ _ _⟩ | exact ⟨rfl, _, Eq.trans (World.drewN_drewN _ _ _) (congrArg (World.drewN _) (Nat.add_assoc _ _ _))⟩))))
            go_roundg k1
            case measure => have := HK1.out; omega
            case rel => exact ⟨(wrap64 (x7_1 + 1)), (wrap64 (x8_1 + 1)), (by first | rfl | (simp; done) | (simp [*]; done)), (by first | rfl | (simp; done) | (simp [*]; done)), H', ⟨by have := HK1.out; omega⟩, by repeat (first | exact Drawn0.refl _ | apply Drawn0.step)⟩
          · rw [if_neg c8] at H
            have c8b0 : (t112 == t114) = false := by simpa using c8
            (try (have c8b1 : decide (t112 = t114) = false := by simpa using c8))
            (try (have c8b2 : (t112 == t114) = false := by simpa using c8))
            (try (have c8b3 : ¬ (t112 = t114) := by simpa using c8))
            clear c8
            have H' := Aside0.mk H
            clear H
            have hwq_ := IntKind.wrap_u8' x8_1
            go_wp2_with (first | (go_at_call 27; (with_reducible refine (scrimref5_odd.calls k1 (Go.bits .and .u8 ((x8_1) % 256) a1) t112 _ A5.out).mono ?_); rintro e w' ⟨rfl, ⟨nd, rfl⟩⟩; (try first | exact ⟨rfl, _, World.drewN_drewN _ _ _⟩ | exact ⟨rfl, _, Eq.trans (World.drewN_drewN _ _ _) (congrArg (World.drewN _) (Nat.add_assoc _ _ _))⟩); have p113 : 0 ≤ (x8_1 : Int) := of_decide_eq_true (by first | (with_reducible assumption) | assumption); have q113 : x8_1 < (l0.length : Int) := of_decide_eq_true (by first | (with_reducible assumption) | assumption); obtain ⟨ad113, e113, hx113_0⟩ := Kd.at_int HR0.out x8_1 p113 q113; cases e113; replace p113 := eq_true p113; replace q113 := eq_true q113) | (go_at_call 27; (with_reducible refine (scrimref5_odd.calls k1 (Go.bits .and .u8 (rd l0 x8_1) a2) t114 _ A7.out).mono ?_); rintro e w' ⟨rfl, ⟨nd, rfl⟩⟩; (try first | exact ⟨rfl, _, World.drewN_drewN _ _ _⟩ | exact ⟨rfl, _, Eq.trans (World.drewN_drewN _ _ _) (congrArg (World.drewN _) (Nat.add_assoc _ _ _))⟩)))
            repeat (go_quiet (first | (go_at_call 27; (with_reducible refine (scrimref5_odd.calls k1 (Go.bits .and .u8 ((x8_1) % 256) a1) t112 _ A5.out).mono ?_); rintro e w' ⟨rfl, ⟨nd, rfl⟩⟩; (try first | exact ⟨rfl, _, World.drewN_drewN _ _ _⟩ | exact ⟨rfl, _, Eq.trans (World.drewN_drewN _ _ _) (congrArg (World.drewN _) (Nat.add_assoc _ _ _))⟩); have p113 : 0 ≤ (x8_1 : Int) := of_decide_eq_true (by first | (with_reducible assumption) | assumption); have q113 : x8_1 < (l0.length : Int) := of_decide_eq_true (by first | (with_reducible assumption) | assumption); obtain ⟨ad113, e113, hx113_0⟩ := Kd.at_int HR0.out x8_1 p113 q113; cases e113; replace p113 := eq_true p113; replace q113 := eq_true q113) | (go_at_call 27; (with_reducible refine (scrimref5_odd.calls k1 (Go.bits .and .u8 (rd l0 x8_1) a2) t114 _ A7.out).mono ?_); rintro e w' ⟨rfl, ⟨nd, rfl⟩⟩; (try first | exact ⟨rfl, _, World.drewN_drewN _ _ _⟩ | exact ⟨rfl, _, Eq.trans (World.drewN_drewN _ _ _) (congrArg (World.drewN _) (Nat.add_assoc _ _ _))⟩))); try go_wp2_with (first | (go_at_call 27; (with_reducible refine (scrimref5_odd.calls k1 (Go.bits .and .u8 ((x8_1) % 256) a1) t112 _ A5.out).mono ?_); rintro e w' ⟨rfl, ⟨nd, rfl⟩⟩; (try first | exact ⟨rfl, _, World.drewN_drewN _ _ _⟩ | exact ⟨rfl, _, Eq.trans (World.drewN_drewN _ _ _) (congrArg (World.drewN _) (Nat.add_assoc _ _ _))⟩); have p113 : 0 ≤ (x8_1 : Int) := of_decide_eq_true (by first | (with_reducible assumption) | assumption); have q113 : x8_1 < (l0.length : Int) := of_decide_eq_true (by first | (with_reducible assumption) | assumption); obtain ⟨ad113, e113, hx113_0⟩ := Kd.at_int HR0.out x8_1 p113 q113; cases e113; replace p113 := eq_true p113; replace q113 := eq_true q113) | (go_at_call 27; (with_reducible refine (scrimref5_odd.calls k1 (Go.bits .and .u8 (rd l0 x8_1) a2) t114 _ A7.out).mono ?_); rintro e w' ⟨rfl, ⟨nd, rfl⟩⟩; (try first | exact ⟨rfl, _, World.drewN_drewN _ _ _⟩ | exact ⟨rfl, _, Eq.trans (World.drewN_drewN _ _ _) (congrArg (World.drewN _) (Nat.add_assoc _ _ _))⟩))))
            go_roundg k1
            case measure => have := HK1.out; omega
            case rel => exact ⟨(wrap64 (x7_1 - 1)), (wrap64 (x8_1 + 1)), (by first | rfl | (simp; done) | (simp [*]; done)), (by first | rfl | (simp; done) | (simp [*]; done)), H', ⟨by have := HK1.out; omega⟩, by repeat (first | exact Drawn0.refl _ | apply Drawn0.step)⟩
        · rw [if_neg c6] at H
          exact absurd H (by simp)
      · rw [if_neg c4] at H
        have c4b0 : decide (x8_1 < (l0.length : Int)) = false := decide_eq_false c4
        clear c4
        obtain rfl := Option.some.inj H
        go_wp2
        repeat (go_quiet (fail); try go_wp2)
        go_ret
        exact ⟨by first | rfl | (simp; done) | (simp [*]; done), by repeat (first | exact Drawn0.refl _ | apply Drawn0.step)⟩

end Go.Proofs.Yteadclhlipcfpaa.MEchoLinear
