/- A walk: each Go function that is named here answers what its plain function answers. Conditions: its arguments are read as lists and numbers. -/
import Derived.Test.YteadclhlipcfpaaMEchoPartsx0
namespace Go.Proofs.Yteadclhlipcfpaa.MEchoParts
open Go.RowKit Go.Proofs.YteadclhlipcfpaaW.PrintWords Go.Proofs.YteadclhlipcfpaaW.PrintLast Go.Proofs.YteadclhlipcfpaaW.PrintMore
open Go.Proofs.Yteadclhlipcfpaa.FloWords
attribute [local go_sem] run_cx_add run_cx_sub run_cx_mul run_fl_add run_fl_quo run_neg_fl run_fl_int run_eql_complex run_neq_complex
attribute [local go_sem] max2_int min2_int max_two min_two max_three min_three max_four min_four   -- for this text's walks alone
set_option linter.unusedVariables false
set_option linter.unusedSimpArgs false

/-! ### echo_Turn: function 14 -/
def turnB (r : Nat) : Nat × Nat := if r = 1 then (0, 4607182418800017408) else if r = 2 then (13830554455654793216, 0) else if r = 3 then (0, 13830554455654793216) else (4607182418800017408, 0)
def echo_Turn.f (a0 : Int) : Option (Nat × Nat) := some (turnB (a0 % 4).toNat)
def intOf : Value → Int | .int _ q => q | _ => 0
theorem turn_rest (a : Int) : Int.tmod (wrap64 (Int.tmod a 4 + 4)) 4 = a % 4 := by
  have e := Int.tmod_eq_emod (a := a) (b := 4)
  have l1 := Int.emod_nonneg a (by omega : (4 : Int) ≠ 0)
  have l2 := Int.emod_lt_of_pos a (by omega : (0 : Int) < 4)
  have hx : -4 < Int.tmod a 4 ∧ Int.tmod a 4 < 4 ∧ (Int.tmod a 4 = a % 4 ∨ Int.tmod a 4 = a % 4 - 4) := by
    by_cases hc : 0 ≤ a ∨ (4 : Int) ∣ a
    · rw [if_pos hc] at e; omega
    · have hnz : a % 4 ≠ 0 := fun z => hc (.inr (Int.dvd_of_emod_eq_zero z))
      rw [if_neg hc] at e
      have h4 : ((4 : Int).natAbs : Int) = 4 := rfl
      rw [h4] at e
      omega
  generalize Int.tmod a 4 = x at hx
  have hw : wrap64 (x + 4) = x + 4 := by unfold wrap64; omega
  rw [hw, Int.tmod_eq_emod_of_nonneg (by omega)]
  omega
theorem turn_ok1 (j : Nat) : ((floatBits .add .f64 (Op.negFloat .f64 (turnB j).2) 0).isSome = true) = True := by
  unfold turnB; split
  · exact eq_true (by decide +kernel)
  · split
    · exact eq_true (by decide +kernel)
    · split <;> exact eq_true (by decide +kernel)
theorem turn_ok2 (j : Nat) : ((floatBits .add .f64 (turnB j).1 0).isSome = true) = True := by
  unfold turnB; split
  · exact eq_true (by decide +kernel)
  · split
    · exact eq_true (by decide +kernel)
    · split <;> exact eq_true (by decide +kernel)
theorem turn_step (j : Nat) (h : j < 3) : fres .add (Op.negFloat .f64 (turnB j).2) 0 = (turnB (j + 1)).1 ∧ fres .add (turnB j).1 0 = (turnB (j + 1)).2 := by
  have : j = 0 ∨ j = 1 ∨ j = 2 := by omega
  rcases this with rfl | rfl | rfl <;> decide +kernel
set_option maxHeartbeats 8000000 in
set_option maxRecDepth 100000 in
theorem echo_Turn.calls (a0 : Int) (r : Nat × Nat) (w : World) (h : echo_Turn.f a0 = some r) :
    Calls Try.prog 14 #[.int .i64 a0] w fun e w' => e = .returned (.complex .f64 r.1 r.2) ∧ Drawn0 w w' := by
  obtain rfl := Option.some.inj h
  clear h
  go_enter Try.func14, Try.ntmps14
  go_wp2
  have hr4 : (a0 % 4).toNat < 4 := by omega
  refine wp_scope_jumps 0 (fun a' w' => Drawn0 w w' ∧ ∃ (m j : Nat) (u1 u4 u5 u6 u7 u8 u9 u10 u11 u12 u13 u14 u15 u16 u17 u18 u19 u20 : Value), a' = { tmps := #[.int .i64 (m : Int), u1, .complex .f64 0 0, .complex .f64 (turnB j).1 (turnB j).2, u4, u5, u6, u7, u8, u9, u10, u11, u12, u13, u14, u15, u16, u17, u18, u19, u20], defers := [] } ∧ m + j = (a0 % 4).toNat) (fun a' _ => (intOf (a'.tmps.getD 0 undef)).toNat) rfl ?_ ?_
  · go_wp2
    go_step3
    have g0 := turn_rest a0
    have g3 : 0 ≤ a0 % 4 := by omega
    have g1 := turn_ok1 0
    have g2 := turn_ok2 0
    have z1 : (turnB 0).1 = 4607182418800017408 := rfl
    have z2 : (turnB 0).2 = 0 := rfl
    rw [z2] at g1
    rw [z1] at g2
    go_wp2
    · go_step3
      have st := turn_step 0 (by omega)
      rw [z1, z2] at st
      obtain ⟨m, hm⟩ : ∃ m, (a0 % 4).toNat = m + 1 := ⟨(a0 % 4).toNat - 1, by omega⟩
      rw [st.1, st.2, show a0 % 4 - 1 = (m : Int) by omega]
      exact ⟨rfl, Drawn0.refl _, m, 1, _, _, _, _, _, _, _, _, _, _, _, _, _, _, _, _, _, _, rfl, by omega⟩
    · simp only [Exit.jump]
      go_ret
      have hz : (a0 % 4).toNat = 0 := by omega
      rw [hz]
      exact ⟨rfl, Drawn0.refl _⟩
  · rintro a' w' ⟨hd, m, j, u1, u4, u5, u6, u7, u8, u9, u10, u11, u12, u13, u14, u15, u16, u17, u18, u19, u20, rfl, hmj⟩
    have g1 := turn_ok1 j
    have g2 := turn_ok2 j
    go_wp2
    · go_step3
      have st := turn_step j (by omega)
      obtain ⟨m, rfl⟩ : ∃ q, m = q + 1 := ⟨m - 1, by omega⟩
      rw [st.1, st.2, show ((m + 1 : Nat) : Int) - 1 = (m : Int) by omega]
      refine ⟨rfl, ⟨hd, m, j + 1, _, _, _, _, _, _, _, _, _, _, _, _, _, _, _, _, _, _, rfl, by omega⟩, ?_⟩
      simp [intOf]
    · simp only [Exit.jump]
      go_ret
      have hz : (a0 % 4).toNat = j := by omega
      rw [hz]
      exact ⟨rfl, hd⟩

/-! ### echo_Power: function 15 -/
def echo_Power.f (a0 : Nat × Nat) : Option (Int) := if (floatToIntVal .f64 a0.1 .i64).isSome = true then (if (floatToIntVal .f64 a0.2 .i64).isSome = true then (some (wrap64 ((wrap64 ((ires .i64 a0.1) * (ires .i64 a0.1))) + (wrap64 ((ires .i64 a0.2) * (ires .i64 a0.2)))))) else (none)) else (none)
set_option maxHeartbeats 8000000 in
set_option maxRecDepth 100000 in
theorem echo_Power.calls (a0 : Nat × Nat) (r : Int) (w : World) (h : echo_Power.f a0 = some r) :
    Calls Try.prog 15 #[.complex .f64 a0.1 a0.2] w fun e w' => e = .returned (.int .i64 r) ∧ Below w.heap.size w w' := by
  have HB := Aside0.mk (Below.refl w.heap.size w)
  have H : (if (floatToIntVal .f64 a0.1 .i64).isSome = true then (if (floatToIntVal .f64 a0.2 .i64).isSome = true then (some (wrap64 ((wrap64 ((ires .i64 a0.1) * (ires .i64 a0.1))) + (wrap64 ((ires .i64 a0.2) * (ires .i64 a0.2)))))) else (none)) else (none)) = some r := h
  clear h
  by_cases c2 : (floatToIntVal .f64 a0.1 .i64).isSome = true
  · rw [if_pos c2] at H
    have c2b0 := eq_true c2
    have c2b1 : decide ((floatToIntVal .f64 a0.1 .i64).isSome = true) = true := decide_eq_true c2
    clear c2
    by_cases c3 : (floatToIntVal .f64 a0.2 .i64).isSome = true
    · rw [if_pos c3] at H
      have c3b0 := eq_true c3
      have c3b1 : decide ((floatToIntVal .f64 a0.2 .i64).isSome = true) = true := decide_eq_true c3
      clear c3
      obtain rfl := Option.some.inj H
      go_enter Try.func15, Try.ntmps15
      go_wp2
      go_ret
      exact ⟨by first | rfl | (simp [errW_none, errW_some] <;> rfl) | (simp [*, errW_none, errW_some] <;> rfl), by repeat (first | (with_reducible first | exact HB.out | apply below_alloc | apply pw_below_drewN | apply below_drew1) | exact HB.out)⟩
    · rw [if_neg c3] at H
      exact absurd H (by simp)
  · rw [if_neg c2] at H
    exact absurd H (by simp)

/-! ### echo_Echo: function 16 -/
def echo_Echo.l0 : Nat → List Int → Int → Nat × Nat → Int → Option (Nat × Nat)
  | 0, _, _, _, _ => none
  | k + 1, t, a, s, x => if x < (t.length : Int) then (echo_Turn.f (wrap64 ((wrap64 (rd t x)) - wrap64 ((Int.tmod a 4) * (x % 4))))).bind fun z => (if (cop .add s.1 s.2 z.1 z.2).isSome = true then echo_Echo.l0 k t a (cres .add s.1 s.2 z.1 z.2) (wrap64 (x + 1)) else none) else some s
def echo_Echo.f (k : Nat) (l0 : List Int) (a1 : Int) : Option (Nat × Nat) := echo_Echo.l0 k l0 a1 (0, 0) 0
theorem echo_Echo.mono_l : ∀ k, (∀ y0 y1 y2 y3, LeO (echo_Echo.l0 k y0 y1 y2 y3) (echo_Echo.l0 (k + 1) y0 y1 y2 y3))
  | 0 => fun _ _ _ _ r h => by simp [echo_Echo.l0] at h
  | k + 1 => by
    have ih0 := echo_Echo.mono_l k
    · intro y0 y1 y2 y3
      unfold echo_Echo.l0
      repeat' first
      | (with_reducible exact ih0 _ _ _ _)
      | (with_reducible exact LeO.refl _)
      | (with_reducible exact LeO.none _)
      | (with_reducible refine LeO.ite ?_ ?_)
      | (with_reducible refine LeO.bind ?_ (fun _ => ?_))
      | exact ih0 _ _ _ _
      | exact LeO.none _
      | refine LeO.ite ?_ ?_
      | refine LeO.bind ?_ (fun _ => ?_)
theorem echo_Echo.mono : ∀ a0 a1 k, LeO (echo_Echo.f k a0 a1) (echo_Echo.f (k + 1) a0 a1) := fun a0 a1 k => echo_Echo.mono_l k _ _ _ _
set_option maxHeartbeats 8000000 in
set_option maxRecDepth 100000 in
theorem echo_Echo.calls (k : Nat) (A0 : Option Addr) (c0 : Nat) (l0 : List Int) (a1 : Int) (r : Nat × Nat) (w : World) (hr0 : Kd.C (Kd.int .u8) w A0 l0.length l0) (hc0 : l0.length ≤ c0) (h : echo_Echo.f k l0 a1 = some r) :
    Calls Try.prog 16 #[.slice A0 l0.length c0, .int .i64 a1] w fun e w' => e = .returned (.complex .f64 r.1 r.2) ∧ Drawn0 w w' := by
  have HR0 := Aside0.mk hr0
  have HC0 := Aside0.mk hc0
  clear hr0 hc0
  obtain ⟨x, hx⟩ : ∃ x : Int, x = 0 := ⟨_, rfl⟩
  obtain ⟨s, hs⟩ : ∃ s : Nat × Nat, s = (0, 0) := ⟨_, rfl⟩
  obtain ⟨kq, hkq⟩ : ∃ kq : Nat, kq = k := ⟨_, rfl⟩
  have HA : echo_Echo.l0 kq l0 a1 s x = some r := by rw [hx, hs, hkq]; exact h
  have x0 : 0 ≤ x := by omega
  have hx2 := Aside0.mk (show Value.int .i64 0 = .int .i64 x by rw [hx])
  have hs2 := Aside0.mk (show Value.complex .f64 0 0 = .complex .f64 s.1 s.2 by rw [hs])
  clear h hx hs hkq
  go_enter Try.func16, Try.ntmps16
  go_wp2
  refine wp_scope_jumps 0 (fun a' w' => Drawn0 w w' ∧ ∃ (kq : Nat) (s : Nat × Nat) (x : Int) (u2 u3 u4 u7 u8 u9 u10 u11 u12 u13 u14 u15 u16 u17 u18 u19 u20 u21 u22 u23 u24 u25 u26 u27 : Value), a' = { tmps := #[.slice A0 l0.length c0, .int .i64 a1, u2, u3, u4, .complex .f64 s.1 s.2, .int .i64 x, u7, u8, u9, u10, u11, u12, u13, u14, u15, u16, u17, u18, u19, u20, u21, u22, u23, u24, u25, u26, u27], defers := [] } ∧ echo_Echo.l0 kq l0 a1 s x = some r ∧ 0 ≤ x) (fun a' _ => ((l0.length : Int) - intOf (a'.tmps.getD 6 undef)).toNat) rfl ?_ ?_
  · have hd := Drawn0.refl w
    go_wp2
    go_step3
    rw [hx2.out, hs2.out]
    clear hx2 hs2
    cases kq with
    | zero => exact absurd HA (by simp [echo_Echo.l0])
    | succ kq =>
    simp only [echo_Echo.l0] at HA
    by_cases c1 : x < (l0.length : Int)
    · rw [if_pos c1] at HA
      obtain ⟨z, hz0, HA⟩ := Option.bind_eq_some_iff.mp HA
      have hz := Aside0.mk hz0
      clear hz0
      by_cases c2 : (cop .add s.1 s.2 z.1 z.2).isSome = true
      · rw [if_pos c2] at HA
        have c2b0 := eq_true c2
        have c1b0 : decide (x < (l0.length : Int)) = true := decide_eq_true c1
        have p1 : 0 ≤ x := x0
        have hmx := (Kd.reads_of_C (enc := Value.int .u8) (d := (0 : Int)) (h1 := fun _ => rfl) HR0.out).2.1
        have hwx : wrap64 (x + 1) = x + 1 := by unfold wrap64; omega
        obtain ⟨ad1, e1, hx1_0⟩ := Kd.at_int HR0.out x p1 c1
        cases e1
        go_wp2_with (first | ((with_reducible refine gate_callee (f := 14) rfl ?_); refine goesL_ (some 23) rfl rfl Try.func14 (by kernel_rfl) rfl #[.int .i64 (wrap64 ((wrap64 (rd l0 x)) - wrap64 ((Int.tmod a1 4) * (x % 4))))] rfl (by (try simp only [List.map_toArray, List.map_cons, List.map_nil]); first | done | rfl) ?_; (with_reducible refine (echo_Turn.calls (wrap64 ((wrap64 (rd l0 x)) - wrap64 ((Int.tmod a1 4) * (x % 4)))) z _ hz.out).mono ?_); rintro e w' ⟨rfl, ⟨nd, rfl⟩⟩; refine ⟨_, rfl, ?_⟩))
        go_step3
        exact ⟨rfl, ⟨⟨nd, rfl⟩⟩, kq, cres .add s.1 s.2 z.1 z.2, x + 1, _, _, _, _, _, _, _, _, _, _, _, _, _, _, _, _, _, _, _, _, _, _, _, _, rfl, (by rw [hwx] at HA; exact HA), by omega⟩
      · rw [if_neg c2] at HA
        exact absurd HA (by simp)
    · rw [if_neg c1] at HA
      have c1b0 : decide (x < (l0.length : Int)) = false := decide_eq_false c1
      obtain rfl := Option.some.inj HA
      go_wp2
      simp only [Exit.jump]
      go_ret
      exact ⟨rfl, hd⟩

  · clear HA x0 hx2 hs2
    clear x s kq
    rintro a' w' ⟨hd, kq, s, x, u2, u3, u4, u7, u8, u9, u10, u11, u12, u13, u14, u15, u16, u17, u18, u19, u20, u21, u22, u23, u24, u25, u26, u27, rfl, HA, x0⟩
    cases kq with
    | zero => exact absurd HA (by simp [echo_Echo.l0])
    | succ kq =>
    simp only [echo_Echo.l0] at HA
    by_cases c1 : x < (l0.length : Int)
    · rw [if_pos c1] at HA
      obtain ⟨z, hz0, HA⟩ := Option.bind_eq_some_iff.mp HA
      have hz := Aside0.mk hz0
      clear hz0
      by_cases c2 : (cop .add s.1 s.2 z.1 z.2).isSome = true
      · rw [if_pos c2] at HA
        have c2b0 := eq_true c2
        have c1b0 : decide (x < (l0.length : Int)) = true := decide_eq_true c1
        have p1 : 0 ≤ x := x0
        have hmx := (Kd.reads_of_C (enc := Value.int .u8) (d := (0 : Int)) (h1 := fun _ => rfl) HR0.out).2.1
        have hwx : wrap64 (x + 1) = x + 1 := by unfold wrap64; omega
        obtain ⟨ad1, e1, hx1_0⟩ := Kd.at_int HR0.out x p1 c1
        cases e1
        obtain ⟨nd0, hnd⟩ := hd
        go_wp2_with (first | ((with_reducible refine gate_callee (f := 14) rfl ?_); refine goesL_ (some 23) rfl rfl Try.func14 (by kernel_rfl) rfl #[.int .i64 (wrap64 ((wrap64 (rd l0 x)) - wrap64 ((Int.tmod a1 4) * (x % 4))))] rfl (by (try simp only [List.map_toArray, List.map_cons, List.map_nil]); first | done | rfl) ?_; (with_reducible refine (echo_Turn.calls (wrap64 ((wrap64 (rd l0 x)) - wrap64 ((Int.tmod a1 4) * (x % 4)))) z _ hz.out).mono ?_); rintro e w' ⟨rfl, ⟨nd, rfl⟩⟩; refine ⟨_, rfl, ?_⟩))
        go_step3
        refine ⟨rfl, ⟨⟨⟨nd0 + nd, rfl⟩⟩, kq, cres .add s.1 s.2 z.1 z.2, x + 1, _, _, _, _, _, _, _, _, _, _, _, _, _, _, _, _, _, _, _, _, _, _, _, _, rfl, (by rw [hwx] at HA; exact HA), by omega⟩, ?_⟩
        simp [intOf]
        omega
      · rw [if_neg c2] at HA
        exact absurd HA (by simp)
    · rw [if_neg c1] at HA
      have c1b0 : decide (x < (l0.length : Int)) = false := decide_eq_false c1
      obtain rfl := Option.some.inj HA
      go_wp2
      simp only [Exit.jump]
      go_ret
      exact ⟨rfl, hd⟩


/-! ### scrimlaw5_known: function 12 -/
def scrimlaw5_known.f (k : Nat)  : Option (Bool) := (echo_Turn.f 1).bind fun t101 => ((echo_Echo.f k ([] : List Int) 3).bind fun t102 => (if ((FloatKind.f64.format.order t102.1 0 == some .eq) && (FloatKind.f64.format.order t102.2 0 == some .eq)) = true then (if (FloatKind.f64.format.order t101.1 0 == some .eq) = true then (if (FloatKind.f64.format.order t101.2 4607182418800017408 == some .eq) = true then ((echo_Power.f t101).bind fun t103 => (if t103 = 1 then ((echo_Echo.f k (([0] : List Int)) 1).bind fun t107 => (some ((FloatKind.f64.format.order t107.1 4607182418800017408 == some .eq) && (FloatKind.f64.format.order t107.2 0 == some .eq)))) else (some false))) else (some false)) else (some false)) else (some false)))
theorem scrimlaw5_known.mono : ∀ k, LeO (scrimlaw5_known.f k ) (scrimlaw5_known.f (k + 1) ) := by
  intro  k
  unfold scrimlaw5_known.f
  repeat' first
      | (with_reducible exact echo_Echo.mono _ _ _)
      | (with_reducible exact LeO.refl _)
      | (with_reducible exact LeO.none _)
      | (with_reducible refine LeO.ite ?_ ?_)
      | (with_reducible refine LeO.bind ?_ (fun _ => ?_))
      | exact echo_Echo.mono _ _ _
      | exact LeO.none _
      | refine LeO.ite ?_ ?_
      | refine LeO.bind ?_ (fun _ => ?_)
set_option maxHeartbeats 8000000 in
set_option maxRecDepth 100000 in
theorem scrimlaw5_known.calls (k : Nat)  (r : Bool) (w : World) (h : scrimlaw5_known.f k  = some r) :
    Calls Try.prog 12 #[] w fun e w' => e = .returned (.bool r) ∧ Below w.heap.size w w' := by
  have HB := Aside0.mk (Below.refl w.heap.size w)
  have H : ((echo_Turn.f 1).bind fun t101 => ((echo_Echo.f k ([] : List Int) 3).bind fun t102 => (if ((FloatKind.f64.format.order t102.1 0 == some .eq) && (FloatKind.f64.format.order t102.2 0 == some .eq)) = true then (if (FloatKind.f64.format.order t101.1 0 == some .eq) = true then (if (FloatKind.f64.format.order t101.2 4607182418800017408 == some .eq) = true then ((echo_Power.f t101).bind fun t103 => (if t103 = 1 then ((echo_Echo.f k (([0] : List Int)) 1).bind fun t107 => (some ((FloatKind.f64.format.order t107.1 4607182418800017408 == some .eq) && (FloatKind.f64.format.order t107.2 0 == some .eq)))) else (some false))) else (some false)) else (some false)) else (some false)))) = some r := h
  clear h
  replace H := Option.bind_eq_some_iff.mp H
  obtain ⟨t101, A10, H⟩ := H
  replace H : ((echo_Echo.f k ([] : List Int) 3).bind fun t102 => (if ((FloatKind.f64.format.order t102.1 0 == some .eq) && (FloatKind.f64.format.order t102.2 0 == some .eq)) = true then (if (FloatKind.f64.format.order t101.1 0 == some .eq) = true then (if (FloatKind.f64.format.order t101.2 4607182418800017408 == some .eq) = true then ((echo_Power.f t101).bind fun t103 => (if t103 = 1 then ((echo_Echo.f k (([0] : List Int)) 1).bind fun t107 => (some ((FloatKind.f64.format.order t107.1 4607182418800017408 == some .eq) && (FloatKind.f64.format.order t107.2 0 == some .eq)))) else (some false))) else (some false)) else (some false)) else (some false))) = some r := H
  have A1 := Aside0.mk A10
  clear A10
  replace H := Option.bind_eq_some_iff.mp H
  obtain ⟨t102, A20, H⟩ := H
  replace H : (if ((FloatKind.f64.format.order t102.1 0 == some .eq) && (FloatKind.f64.format.order t102.2 0 == some .eq)) = true then (if (FloatKind.f64.format.order t101.1 0 == some .eq) = true then (if (FloatKind.f64.format.order t101.2 4607182418800017408 == some .eq) = true then ((echo_Power.f t101).bind fun t103 => (if t103 = 1 then ((echo_Echo.f k (([0] : List Int)) 1).bind fun t107 => (some ((FloatKind.f64.format.order t107.1 4607182418800017408 == some .eq) && (FloatKind.f64.format.order t107.2 0 == some .eq)))) else (some false))) else (some false)) else (some false)) else (some false)) = some r := H
  have A2 := Aside0.mk A20
  clear A20
  by_cases c3 : ((FloatKind.f64.format.order t102.1 0 == some .eq) && (FloatKind.f64.format.order t102.2 0 == some .eq)) = true
  · rw [if_pos c3] at H
    have c3b0 : ((FloatKind.f64.format.order t102.1 0 == some .eq) && (FloatKind.f64.format.order t102.2 0 == some .eq)) = true := c3
    clear c3
    by_cases c4 : (FloatKind.f64.format.order t101.1 0 == some .eq) = true
    · rw [if_pos c4] at H
      have c4b0 : (FloatKind.f64.format.order t101.1 0 == some .eq) = true := c4
      (try (have c4b1 : decide (FloatKind.f64.format.order t101.1 0 = some .eq) = true := by simpa using c4))
      (try (have c4b2 : (FloatKind.f64.format.order t101.1 0 == some .eq) = true := by simpa using c4))
      clear c4
      by_cases c5 : (FloatKind.f64.format.order t101.2 4607182418800017408 == some .eq) = true
      · rw [if_pos c5] at H
        have c5b0 : (FloatKind.f64.format.order t101.2 4607182418800017408 == some .eq) = true := c5
        (try (have c5b1 : decide (FloatKind.f64.format.order t101.2 4607182418800017408 = some .eq) = true := by simpa using c5))
        (try (have c5b2 : (FloatKind.f64.format.order t101.2 4607182418800017408 == some .eq) = true := by simpa using c5))
        clear c5
        replace H := Option.bind_eq_some_iff.mp H
        obtain ⟨t103, A60, H⟩ := H
        replace H : (if t103 = 1 then ((echo_Echo.f k (([0] : List Int)) 1).bind fun t107 => (some ((FloatKind.f64.format.order t107.1 4607182418800017408 == some .eq) && (FloatKind.f64.format.order t107.2 0 == some .eq)))) else (some false)) = some r := H
        have A6 := Aside0.mk A60
        clear A60
        by_cases c7 : t103 = 1
        · rw [if_pos c7] at H
          have c7b0 : (t103 == 1) = true := beq_iff_eq.mpr c7
          have c7b1 : (t103 != 1) = false := bne_eq_false_iff_eq.mpr c7
          clear c7
          obtain ⟨y104, hy104⟩ : ∃ y_ : List Int, y_ = (([0] : List Int)) := ⟨_, rfl⟩
          replace H : ((echo_Echo.f k y104 1).bind fun t107 => (some ((FloatKind.f64.format.order t107.1 4607182418800017408 == some .eq) && (FloatKind.f64.format.order t107.2 0 == some .eq)))) = some r := by first | (rw [hy104]; with_reducible exact H) | (have H2_ := (Option.bind_some _ _).symm.trans H; rw [hy104]; with_reducible exact H2_) | (have H2_ := (Option.bind_some _ _).symm.trans H; with_reducible exact H2_) | with_reducible exact H | (rw [hy104]; exact H) | exact H
          have Ny104 := Aside0.mk hy104
          clear hy104
          replace H := Option.bind_eq_some_iff.mp H
          obtain ⟨t107, A80, H⟩ := H
          replace H : (some ((FloatKind.f64.format.order t107.1 4607182418800017408 == some .eq) && (FloatKind.f64.format.order t107.2 0 == some .eq))) = some r := H
          have A8 := Aside0.mk A80
          clear A80
          obtain rfl := Option.some.inj H
          go_enter Try.func12, Try.ntmps12
          go_wp2_with (first | ((with_reducible refine gate_callee (f := 14) rfl ?_); refine goesL_ (some 2) rfl rfl Try.func14 (by kernel_rfl) rfl #[.int .i64 1] rfl (by (try simp only [List.map_toArray, List.map_cons, List.map_nil]); first | done | rfl | (simp only [List.length_drop, List.length_take]; rfl)) ?_; (with_reducible refine (echo_Turn.calls 1 t101 _ A1.out).mono ?_); rintro e w' ⟨rfl, ⟨nd, rfl⟩⟩; refine ⟨_, rfl, ?_⟩) | ((with_reducible refine gate_callee (f := 16) rfl ?_); refine goesL_ (some 3) rfl rfl Try.func16 (by kernel_rfl) rfl #[.slice none 0 0, .int .i64 3] rfl (by (try simp only [List.map_toArray, List.map_cons, List.map_nil]); first | done | rfl | (simp only [List.length_drop, List.length_take]; rfl)) ?_; (refine (echo_Echo.calls k _ _ ([] : List Int) 3 t102 _ ?side1 ?side2 A2.out).mono ?_); (case side1 => exact Kd.C_nil _ _); (case side2 => exact Nat.le_refl _); rintro e w' ⟨rfl, ⟨nd, rfl⟩⟩; refine ⟨_, rfl, ?_⟩) | (go_at_call 15; (with_reducible refine (echo_Power.calls t101 t103 _ A6.out).mono ?_); rintro e w9 ⟨rfl, hb⟩; have n0_ := Aside0.mk (below_step (by repeat (first | (with_reducible first | exact HB.out | apply below_alloc | apply pw_below_drewN | apply below_drew1) | exact HB.out)) hb); clear HB; have HB := n0_; clear n0_; (try clear hb); (try clear hb2); (try clear hk); (try clear hi)) | ((with_reducible refine gate_dst (N := 21) rfl ?_); (try (refine gate_guard (by rfl) ?_; dsimp only)); refine Kd.R_lit (Kd.int .u8) _ 5 ?hg (N := 21) ?hd (xs := ([0] : List Int)) (inner := [.int .u8 0]) (ok := fun _ => True) (okp := fun _ => True) ?hr ?hp (fun _ hk => hk) trivial (Below.refl _ _) (Nat.le_refl _) (by simp) ?_; (case hd => rfl); (case hg => rfl); (case hr => first | (go_simp; done) | (go_simp; rfl)); (case hp => exact (Reps.one (show Kd.M (Kd.int .u8) _ _ _ 0 [.int .u8 0] from rfl) (Reps.none _ _))); intro v105 w10 ho11 hb hg_ hnew_; clear hg_ hnew_; (first | rw [← Ny104.out] at ho11 | (simp only [Int.reduceToNat] at ho11; rw [← Ny104.out] at ho11)); have n0_ := Aside0.mk (Kd.R_lower ho11 (below_size (by repeat (first | (with_reducible first | exact HB.out | apply below_alloc | apply pw_below_drewN | apply below_drew1) | exact HB.out)))); have n1_ := Aside0.mk (below_step (by repeat (first | (with_reducible first | exact HB.out | apply below_alloc | apply pw_below_drewN | apply below_drew1) | exact HB.out)) hb); clear HB; have HO106 := n0_; have HB := n1_; clear n0_ n1_; clear hb ho11; obtain ⟨Ao12, co12, eo12⟩ := Kd.R_slice HO106.out; subst eo12) | (go_at_call 16; (with_reducible refine (echo_Echo.calls k _ _ y104 1 t107 _ ?side1 ?side2 A8.out).mono ?_); (case side1 => repeat (first | exact (Kd.R_reads' HO106.out).2.2 | (with_reducible refine Kd.C_alloc ?_ _) | (with_reducible refine Kd.C_drewN ?_ _) | (with_reducible refine Kd.C_drew ?_))); (case side2 => exact (Kd.R_reads' HO106.out).2.1); rintro e w' ⟨rfl, ⟨nd, rfl⟩⟩))
          go_ret
          exact ⟨by first | rfl | (simp [errW_none, errW_some] <;> rfl) | (simp [*, errW_none, errW_some] <;> rfl), by repeat (first | (with_reducible first | exact HB.out | apply below_alloc | apply pw_below_drewN | apply below_drew1) | exact HB.out)⟩
        · rw [if_neg c7] at H
          have c7b0 : (t103 == 1) = false := beq_eq_false_iff_ne.mpr c7
          have c7b1 : (t103 != 1) = true := bne_iff_ne.mpr c7
          obtain rfl := Option.some.inj H
          go_enter Try.func12, Try.ntmps12
          go_wp2_with (first | ((with_reducible refine gate_callee (f := 14) rfl ?_); refine goesL_ (some 2) rfl rfl Try.func14 (by kernel_rfl) rfl #[.int .i64 1] rfl (by (try simp only [List.map_toArray, List.map_cons, List.map_nil]); first | done | rfl | (simp only [List.length_drop, List.length_take]; rfl)) ?_; (with_reducible refine (echo_Turn.calls 1 t101 _ A1.out).mono ?_); rintro e w' ⟨rfl, ⟨nd, rfl⟩⟩; refine ⟨_, rfl, ?_⟩) | ((with_reducible refine gate_callee (f := 16) rfl ?_); refine goesL_ (some 3) rfl rfl Try.func16 (by kernel_rfl) rfl #[.slice none 0 0, .int .i64 3] rfl (by (try simp only [List.map_toArray, List.map_cons, List.map_nil]); first | done | rfl | (simp only [List.length_drop, List.length_take]; rfl)) ?_; (refine (echo_Echo.calls k _ _ ([] : List Int) 3 t102 _ ?side1 ?side2 A2.out).mono ?_); (case side1 => exact Kd.C_nil _ _); (case side2 => exact Nat.le_refl _); rintro e w' ⟨rfl, ⟨nd, rfl⟩⟩; refine ⟨_, rfl, ?_⟩) | (go_at_call 15; (with_reducible refine (echo_Power.calls t101 t103 _ A6.out).mono ?_); rintro e w13 ⟨rfl, hb⟩; have n0_ := Aside0.mk (below_step (by repeat (first | (with_reducible first | exact HB.out | apply below_alloc | apply pw_below_drewN | apply below_drew1) | exact HB.out)) hb); clear HB; have HB := n0_; clear n0_; (try clear hb); (try clear hb2); (try clear hk); (try clear hi)))
          go_ret
          exact ⟨by first | rfl | (simp [errW_none, errW_some] <;> rfl) | (simp [*, errW_none, errW_some] <;> rfl), by repeat (first | (with_reducible first | exact HB.out | apply below_alloc | apply pw_below_drewN | apply below_drew1) | exact HB.out)⟩
      · rw [if_neg c5] at H
        have c5b0 : (FloatKind.f64.format.order t101.2 4607182418800017408 == some .eq) = false := by simpa using c5
        (try (have c5b1 : decide (FloatKind.f64.format.order t101.2 4607182418800017408 = some .eq) = false := by simpa using c5))
        (try (have c5b2 : (FloatKind.f64.format.order t101.2 4607182418800017408 == some .eq) = false := by simpa using c5))
        (try (have c5b3 : ¬ (FloatKind.f64.format.order t101.2 4607182418800017408 = some .eq) := by simpa using c5))
        clear c5
        obtain rfl := Option.some.inj H
        go_enter Try.func12, Try.ntmps12
        go_wp2_with (first | ((with_reducible refine gate_callee (f := 14) rfl ?_); refine goesL_ (some 2) rfl rfl Try.func14 (by kernel_rfl) rfl #[.int .i64 1] rfl (by (try simp only [List.map_toArray, List.map_cons, List.map_nil]); first | done | rfl | (simp only [List.length_drop, List.length_take]; rfl)) ?_; (with_reducible refine (echo_Turn.calls 1 t101 _ A1.out).mono ?_); rintro e w' ⟨rfl, ⟨nd, rfl⟩⟩; refine ⟨_, rfl, ?_⟩) | ((with_reducible refine gate_callee (f := 16) rfl ?_); refine goesL_ (some 3) rfl rfl Try.func16 (by kernel_rfl) rfl #[.slice none 0 0, .int .i64 3] rfl (by (try simp only [List.map_toArray, List.map_cons, List.map_nil]); first | done | rfl | (simp only [List.length_drop, List.length_take]; rfl)) ?_; (refine (echo_Echo.calls k _ _ ([] : List Int) 3 t102 _ ?side1 ?side2 A2.out).mono ?_); (case side1 => exact Kd.C_nil _ _); (case side2 => exact Nat.le_refl _); rintro e w' ⟨rfl, ⟨nd, rfl⟩⟩; refine ⟨_, rfl, ?_⟩))
        go_ret
        exact ⟨by first | rfl | (simp [errW_none, errW_some] <;> rfl) | (simp [*, errW_none, errW_some] <;> rfl), by repeat (first | (with_reducible first | exact HB.out | apply below_alloc | apply pw_below_drewN | apply below_drew1) | exact HB.out)⟩
    · rw [if_neg c4] at H
      have c4b0 : (FloatKind.f64.format.order t101.1 0 == some .eq) = false := by simpa using c4
      (try (have c4b1 : decide (FloatKind.f64.format.order t101.1 0 = some .eq) = false := by simpa using c4))
      (try (have c4b2 : (FloatKind.f64.format.order t101.1 0 == some .eq) = false := by simpa using c4))
      (try (have c4b3 : ¬ (FloatKind.f64.format.order t101.1 0 = some .eq) := by simpa using c4))
      clear c4
      obtain rfl := Option.some.inj H
      go_enter Try.func12, Try.ntmps12
      go_wp2_with (first | ((with_reducible refine gate_callee (f := 14) rfl ?_); refine goesL_ (some 2) rfl rfl Try.func14 (by kernel_rfl) rfl #[.int .i64 1] rfl (by (try simp only [List.map_toArray, List.map_cons, List.map_nil]); first | done | rfl | (simp only [List.length_drop, List.length_take]; rfl)) ?_; (with_reducible refine (echo_Turn.calls 1 t101 _ A1.out).mono ?_); rintro e w' ⟨rfl, ⟨nd, rfl⟩⟩; refine ⟨_, rfl, ?_⟩) | ((with_reducible refine gate_callee (f := 16) rfl ?_); refine goesL_ (some 3) rfl rfl Try.func16 (by kernel_rfl) rfl #[.slice none 0 0, .int .i64 3] rfl (by (try simp only [List.map_toArray, List.map_cons, List.map_nil]); first | done | rfl | (simp only [List.length_drop, List.length_take]; rfl)) ?_; (refine (echo_Echo.calls k _ _ ([] : List Int) 3 t102 _ ?side1 ?side2 A2.out).mono ?_); (case side1 => exact Kd.C_nil _ _); (case side2 => exact Nat.le_refl _); rintro e w' ⟨rfl, ⟨nd, rfl⟩⟩; refine ⟨_, rfl, ?_⟩))
      go_ret
      exact ⟨by first | rfl | (simp [errW_none, errW_some] <;> rfl) | (simp [*, errW_none, errW_some] <;> rfl), by repeat (first | (with_reducible first | exact HB.out | apply below_alloc | apply pw_below_drewN | apply below_drew1) | exact HB.out)⟩
  · rw [if_neg c3] at H
    have c3b0 : ((FloatKind.f64.format.order t102.1 0 == some .eq) && (FloatKind.f64.format.order t102.2 0 == some .eq)) = false := by simpa using c3
    clear c3
    obtain rfl := Option.some.inj H
    go_enter Try.func12, Try.ntmps12
    go_wp2_with (first | ((with_reducible refine gate_callee (f := 14) rfl ?_); refine goesL_ (some 2) rfl rfl Try.func14 (by kernel_rfl) rfl #[.int .i64 1] rfl (by (try simp only [List.map_toArray, List.map_cons, List.map_nil]); first | done | rfl | (simp only [List.length_drop, List.length_take]; rfl)) ?_; (with_reducible refine (echo_Turn.calls 1 t101 _ A1.out).mono ?_); rintro e w' ⟨rfl, ⟨nd, rfl⟩⟩; refine ⟨_, rfl, ?_⟩) | ((with_reducible refine gate_callee (f := 16) rfl ?_); refine goesL_ (some 3) rfl rfl Try.func16 (by kernel_rfl) rfl #[.slice none 0 0, .int .i64 3] rfl (by (try simp only [List.map_toArray, List.map_cons, List.map_nil]); first | done | rfl | (simp only [List.length_drop, List.length_take]; rfl)) ?_; (refine (echo_Echo.calls k _ _ ([] : List Int) 3 t102 _ ?side1 ?side2 A2.out).mono ?_); (case side1 => exact Kd.C_nil _ _); (case side2 => exact Nat.le_refl _); rintro e w' ⟨rfl, ⟨nd, rfl⟩⟩; refine ⟨_, rfl, ?_⟩))
    go_ret
    exact ⟨by first | rfl | (simp [errW_none, errW_some] <;> rfl) | (simp [*, errW_none, errW_some] <;> rfl), by repeat (first | (with_reducible first | exact HB.out | apply below_alloc | apply pw_below_drewN | apply below_drew1) | exact HB.out)⟩

/-! ### scrimlaw5_within: function 13 -/
def scrimlaw5_within.f (a0 : Int) (a1 : Int) : Option (Int) := if a1 = 0 then (none) else (if (Int.tmod a0 a1) < 0 then (some (wrap64 ((Int.tmod a0 a1) + a1))) else (some (Int.tmod a0 a1)))
set_option maxHeartbeats 8000000 in
set_option maxRecDepth 100000 in
theorem scrimlaw5_within.calls (a0 : Int) (a1 : Int) (r : Int) (w : World) (h : scrimlaw5_within.f a0 a1 = some r) :
    Calls Try.prog 13 #[.int .i64 a0, .int .i64 a1] w fun e w' => e = .returned (.int .i64 r) ∧ Drawn0 w w' := by
  have H : (if a1 = 0 then (none) else (if (Int.tmod a0 a1) < 0 then (some (wrap64 ((Int.tmod a0 a1) + a1))) else (some (Int.tmod a0 a1)))) = some r := h
  clear h
  by_cases c3 : a1 = 0
  · rw [if_pos c3] at H
    exact absurd H (by simp)
  · rw [if_neg c3] at H
    have c3b0 : (a1 == 0) = false := beq_eq_false_iff_ne.mpr c3
    have c3b1 : (a1 != 0) = true := bne_iff_ne.mpr c3
    by_cases c4 : (Int.tmod a0 a1) < 0
    · rw [if_pos c4] at H
      have c4b0 : decide ((Int.tmod a0 a1) < 0) = true := decide_eq_true c4
      clear c4
      obtain rfl := Option.some.inj H
      go_enter Try.func13, Try.ntmps13
      go_wp2
      go_ret
      exact ⟨by first | rfl | (simp; done) | (simp [*]; done), by repeat (first | exact Drawn0.refl _ | apply Drawn0.step)⟩
    · rw [if_neg c4] at H
      have c4b0 : decide ((Int.tmod a0 a1) < 0) = false := decide_eq_false c4
      clear c4
      obtain rfl := Option.some.inj H
      go_enter Try.func13, Try.ntmps13
      go_wp2
      go_ret
      exact ⟨by first | rfl | (simp; done) | (simp [*]; done), by repeat (first | exact Drawn0.refl _ | apply Drawn0.step)⟩

/-! ### scrimlaw5_EchoParts: function 5 -/
def scrimlaw5_EchoParts.j0 : Nat → List Int → List Int → Int → Bool → Option (Bool)
  | 0, _, _, _, _ => none
  | k + 1, x0, x1, x2, x18 => if x18 = true then (some true) else ((some (([] : List Int) : List Int)).bind fun y109 => (if 0 ≤ (wrap64 ((wrap64 ((x0.length : Int) / 4)) * 4)) then (if (wrap64 ((wrap64 ((x0.length : Int) / 4)) * 4)) ≤ (x0.length : Int) then (if y109.length + (x0.take ((wrap64 ((wrap64 ((x0.length : Int) / 4)) * 4)) : Int).toNat).length < 140737488355328 then ((some (y109 ++ (x0.take ((wrap64 ((wrap64 ((x0.length : Int) / 4)) * 4)) : Int).toNat) : List Int)).bind fun y113 => (if y113.length + x1.length < 140737488355328 then ((some (y113 ++ x1 : List Int)).bind fun y116 => ((echo_Echo.f k y116 x2).bind fun t119 => ((echo_Echo.f k (x0.take ((wrap64 ((wrap64 ((x0.length : Int) / 4)) * 4)) : Int).toNat) x2).bind fun t121 => ((echo_Echo.f k x1 x2).bind fun t122 => (if (cop .add t121.1 t121.2 t122.1 t122.2).isSome = true then (if ((FloatKind.f64.format.order t119.1 ((cres .add t121.1 t121.2 t122.1 t122.2).1) == some .eq) && (FloatKind.f64.format.order t119.2 ((cres .add t121.1 t121.2 t122.1 t122.2).2) == some .eq)) = true then ((scrimlaw5_within.f x2 1000).bind fun t123 => ((echo_Echo.f k y116 t123).bind fun t124 => ((scrimlaw5_within.f x2 1000).bind fun t125 => ((echo_Echo.f k y116 (wrap64 (t125 + 4))).bind fun t126 => (some ((FloatKind.f64.format.order t124.1 t126.1 == some .eq) && (FloatKind.f64.format.order t124.2 t126.2 == some .eq))))))) else (none)) else (none)))))) else (none))) else (none)) else (none)) else (none)))
def scrimlaw5_EchoParts.f (k : Nat) (l0 : List Int) (l1 : List Int) (a2 : Int) : Option (Bool) := (scrimlaw5_known.f k).bind fun t108 => (if t108 = true then (if (l0.length : Int) > 400 then (scrimlaw5_EchoParts.j0 k l0 l1 a2 true) else (scrimlaw5_EchoParts.j0 k l0 l1 a2 (decide ((l1.length : Int) > 400)))) else (some false))
theorem scrimlaw5_EchoParts.mono_l : ∀ k, (∀ y0 y1 y2 y3, LeO (scrimlaw5_EchoParts.j0 k y0 y1 y2 y3) (scrimlaw5_EchoParts.j0 (k + 1) y0 y1 y2 y3))
  | 0 => fun _ _ _ _ r h => by simp [scrimlaw5_EchoParts.j0] at h
  | k + 1 => by
    have ih0 := scrimlaw5_EchoParts.mono_l k
    · intro y0 y1 y2 y3
      unfold scrimlaw5_EchoParts.j0
      repeat' first
      | (with_reducible exact ih0 _ _ _ _)
      | (with_reducible exact echo_Echo.mono _ _ _)
      | (with_reducible exact scrimlaw5_known.mono _)
      | (with_reducible exact LeO.refl _)
      | (with_reducible exact LeO.none _)
      | (with_reducible refine LeO.ite ?_ ?_)
      | (with_reducible refine LeO.bind ?_ (fun _ => ?_))
      | exact ih0 _ _ _ _
      | exact echo_Echo.mono _ _ _
      | exact scrimlaw5_known.mono _
      | exact LeO.none _
      | refine LeO.ite ?_ ?_
      | refine LeO.bind ?_ (fun _ => ?_)
theorem scrimlaw5_EchoParts.mono : ∀ a0 a1 a2 k, LeO (scrimlaw5_EchoParts.f k a0 a1 a2) (scrimlaw5_EchoParts.f (k + 1) a0 a1 a2) := by
  intro a0 a1 a2 k
  have ih0 := scrimlaw5_EchoParts.mono_l k
  unfold scrimlaw5_EchoParts.f
  repeat' first
      | (with_reducible exact ih0 _ _ _ _)
      | (with_reducible exact echo_Echo.mono _ _ _)
      | (with_reducible exact scrimlaw5_known.mono _)
      | (with_reducible exact LeO.refl _)
      | (with_reducible exact LeO.none _)
      | (with_reducible refine LeO.ite ?_ ?_)
      | (with_reducible refine LeO.bind ?_ (fun _ => ?_))
      | exact ih0 _ _ _ _
      | exact echo_Echo.mono _ _ _
      | exact scrimlaw5_known.mono _
      | exact LeO.none _
      | refine LeO.ite ?_ ?_
      | refine LeO.bind ?_ (fun _ => ?_)
set_option maxHeartbeats 8000000 in
set_option maxRecDepth 100000 in
theorem scrimlaw5_EchoParts.calls (k : Nat) (A0 : Option Addr) (c0 : Nat) (l0 : List Int) (A1 : Option Addr) (c1 : Nat) (l1 : List Int) (a2 : Int) (r : Bool) (w : World) (hr0 : Kd.C (Kd.int .u8) w A0 l0.length l0) (hc0 : l0.length ≤ c0) (hr1 : Kd.C (Kd.int .u8) w A1 l1.length l1) (hc1 : l1.length ≤ c1) (h : scrimlaw5_EchoParts.f k l0 l1 a2 = some r) :
    Calls Try.prog 5 #[.slice A0 l0.length c0, .slice A1 l1.length c1, .int .i64 a2] w fun e w' => e = .returned (.bool r) ∧ Below w.heap.size w w' := by
  have HR0 := Aside0.mk hr0
  have HC0 := Aside0.mk hc0
  clear hr0 hc0
  have HR1 := Aside0.mk hr1
  have HC1 := Aside0.mk hc1
  clear hr1 hc1
  have HB := Aside0.mk (Below.refl w.heap.size w)
  have H : ((scrimlaw5_known.f k).bind fun t108 => (if t108 = true then (if (l0.length : Int) > 400 then (scrimlaw5_EchoParts.j0 k l0 l1 a2 true) else (scrimlaw5_EchoParts.j0 k l0 l1 a2 (decide ((l1.length : Int) > 400)))) else (some false))) = some r := h
  clear h
  replace H := Option.bind_eq_some_iff.mp H
  obtain ⟨t108, A40, H⟩ := H
  replace H : (if t108 = true then (if (l0.length : Int) > 400 then (scrimlaw5_EchoParts.j0 k l0 l1 a2 true) else (scrimlaw5_EchoParts.j0 k l0 l1 a2 (decide ((l1.length : Int) > 400)))) else (some false)) = some r := H
  have A4 := Aside0.mk A40
  clear A40
  by_cases c5 : t108 = true
  · subst c5
    have H1 : (if (l0.length : Int) > 400 then (scrimlaw5_EchoParts.j0 k l0 l1 a2 true) else (scrimlaw5_EchoParts.j0 k l0 l1 a2 (decide ((l1.length : Int) > 400)))) = some r := by rw [if_pos rfl] at H; exact H
    clear H
    have H := H1
    clear H1
    have HC6 := Aside0.mk H
    clear H
    go_enter Try.func5, Try.ntmps5
    go_upto_region 3 with (first | (go_at_call 12; (with_reducible refine (scrimlaw5_known.calls k  true _ A4.out).mono ?_); rintro e w7 ⟨rfl, hb⟩; have n0_ := Aside0.mk (below_step (by repeat (first | (with_reducible first | exact HB.out | apply below_alloc | apply pw_below_drewN | apply below_drew1) | exact HB.out)) hb); clear HB; have HB := n0_; clear n0_; (try clear hb); (try clear hb2); (try clear hk); (try clear hi)))
    repeat (go_quiet (first | (go_at_call 12; (with_reducible refine (scrimlaw5_known.calls k  true _ A4.out).mono ?_); rintro e w7 ⟨rfl, hb⟩; have n0_ := Aside0.mk (below_step (by repeat (first | (with_reducible first | exact HB.out | apply below_alloc | apply pw_below_drewN | apply below_drew1) | exact HB.out)) hb); clear HB; have HB := n0_; clear n0_; (try clear hb); (try clear hb2); (try clear hk); (try clear hi))); go_upto_region 3 with (first | (go_at_call 12; (with_reducible refine (scrimlaw5_known.calls k  true _ A4.out).mono ?_); rintro e w7 ⟨rfl, hb⟩; have n0_ := Aside0.mk (below_step (by repeat (first | (with_reducible first | exact HB.out | apply below_alloc | apply pw_below_drewN | apply below_drew1) | exact HB.out)) hb); clear HB; have HB := n0_; clear n0_; (try clear hb); (try clear hb2); (try clear hk); (try clear hi))))
    (try simp only [Act.put, List.setIfInBounds_toArray, List.set_cons_zero, List.set_cons_succ])
    go_cut [18] (fun v18 wc => ∃ (kq : Nat) (x18_5 : Bool), v18 = .bool x18_5 ∧ Aside0 (scrimlaw5_EchoParts.j0 kq l0 l1 a2 x18_5 = some r) ∧ Aside0 (kq ≤ k) ∧ Aside0 (Below w.heap.size w wc))
    case first =>
      have H := HC6.out
      clear HC6
      by_cases c8 : (l0.length : Int) > 400
      · rw [if_pos c8] at H
        have c8b0 : decide (400 < (l0.length : Int)) = true := decide_eq_true c8
        have c8b1 : decide (400 < l0.length) = true := decide_eq_true (by omega)
        clear c8
        (first | rw [c8b0] | (simp only [i64_w, i32_w]; rw [c8b0]) | skip)
        have H' := Aside0.mk H
        clear H
        go_wp2
        repeat (go_quiet (fail); try go_wp2)
        go_meet
        case rel => exact ⟨_, (true), (by first | rfl | (simp; done) | (simp [*]; done)), H', ⟨by first | omega | exact Nat.le_refl _⟩, ⟨by repeat (first | (with_reducible first | exact HB.out | apply below_alloc | apply pw_below_drewN | apply below_drew1) | exact HB.out)⟩⟩
      · rw [if_neg c8] at H
        have c8b0 : decide (400 < (l0.length : Int)) = false := decide_eq_false c8
        have c8b1 : decide (400 < l0.length) = false := decide_eq_false (by omega)
        clear c8
        (first | rw [c8b0] | (simp only [i64_w, i32_w]; rw [c8b0]) | skip)
        have H' := Aside0.mk H
        clear H
        go_wp2
        repeat (go_quiet (fail); try go_wp2)
        go_meet
        case rel => exact ⟨_, (decide ((l1.length : Int) > 400)), (by first | rfl | (simp; done) | (simp [*]; done)), H', ⟨by first | omega | exact Nat.le_refl _⟩, ⟨by repeat (first | (with_reducible first | exact HB.out | apply below_alloc | apply pw_below_drewN | apply below_drew1) | exact HB.out)⟩⟩
    case rest =>
      clear HC6
      try clear c1
      try clear p2
      try clear c5
      try clear c8
      try clear c8b0
      try clear c8b1
      obtain ⟨kq, x18_5, rfl, HA, HJ5, HB⟩ := hcut
      cases kq with
      | zero => exact absurd HA.out (by simp [scrimlaw5_EchoParts.j0])
      | succ kj5 =>
        have H := HA.out
        clear HA
        simp only [scrimlaw5_EchoParts.j0] at H
        by_cases c9 : x18_5 = true
        · subst c9
          have H1 : (some true) = some r := by rw [if_pos rfl] at H; exact H
          clear H
          have H := H1
          clear H1
          obtain rfl := Option.some.inj H
          go_wp2
          repeat (go_quiet (fail); try go_wp2)
          go_ret
          exact ⟨by first | rfl | (simp [errW_none, errW_some] <;> rfl) | (simp [*, errW_none, errW_some] <;> rfl), by repeat (first | (with_reducible first | exact HB.out | apply below_alloc | apply pw_below_drewN | apply below_drew1) | exact HB.out)⟩
        · replace c9 := Bool.eq_false_iff.mpr c9
          subst c9
          have H1 : ((some (([] : List Int) : List Int)).bind fun y109 => (if 0 ≤ (wrap64 ((wrap64 ((l0.length : Int) / 4)) * 4)) then (if (wrap64 ((wrap64 ((l0.length : Int) / 4)) * 4)) ≤ (l0.length : Int) then (if y109.length + (l0.take ((wrap64 ((wrap64 ((l0.length : Int) / 4)) * 4)) : Int).toNat).length < 140737488355328 then ((some (y109 ++ (l0.take ((wrap64 ((wrap64 ((l0.length : Int) / 4)) * 4)) : Int).toNat) : List Int)).bind fun y113 => (if y113.length + l1.length < 140737488355328 then ((some (y113 ++ l1 : List Int)).bind fun y116 => ((echo_Echo.f kj5 y116 a2).bind fun t119 => ((echo_Echo.f kj5 (l0.take ((wrap64 ((wrap64 ((l0.length : Int) / 4)) * 4)) : Int).toNat) a2).bind fun t121 => ((echo_Echo.f kj5 l1 a2).bind fun t122 => (if (cop .add t121.1 t121.2 t122.1 t122.2).isSome = true then (if ((FloatKind.f64.format.order t119.1 ((cres .add t121.1 t121.2 t122.1 t122.2).1) == some .eq) && (FloatKind.f64.format.order t119.2 ((cres .add t121.1 t121.2 t122.1 t122.2).2) == some .eq)) = true then ((scrimlaw5_within.f a2 1000).bind fun t123 => ((echo_Echo.f kj5 y116 t123).bind fun t124 => ((scrimlaw5_within.f a2 1000).bind fun t125 => ((echo_Echo.f kj5 y116 (wrap64 (t125 + 4))).bind fun t126 => (some ((FloatKind.f64.format.order t124.1 t126.1 == some .eq) && (FloatKind.f64.format.order t124.2 t126.2 == some .eq))))))) else (none)) else (none)))))) else (none))) else (none)) else (none)) else (none))) = some r := by rw [if_neg (show ¬ (false = true) by decide)] at H; exact H
          clear H
          have H := H1
          clear H1
          obtain ⟨y109, hy109⟩ : ∃ y_ : List Int, y_ = (([] : List Int)) := ⟨_, rfl⟩
          replace H : (if 0 ≤ (wrap64 ((wrap64 ((l0.length : Int) / 4)) * 4)) then (if (wrap64 ((wrap64 ((l0.length : Int) / 4)) * 4)) ≤ (l0.length : Int) then (if y109.length + (l0.take ((wrap64 ((wrap64 ((l0.length : Int) / 4)) * 4)) : Int).toNat).length < 140737488355328 then ((some (y109 ++ (l0.take ((wrap64 ((wrap64 ((l0.length : Int) / 4)) * 4)) : Int).toNat) : List Int)).bind fun y113 => (if y113.length + l1.length < 140737488355328 then ((some (y113 ++ l1 : List Int)).bind fun y116 => ((echo_Echo.f kj5 y116 a2).bind fun t119 => ((echo_Echo.f kj5 (l0.take ((wrap64 ((wrap64 ((l0.length : Int) / 4)) * 4)) : Int).toNat) a2).bind fun t121 => ((echo_Echo.f kj5 l1 a2).bind fun t122 => (if (cop .add t121.1 t121.2 t122.1 t122.2).isSome = true then (if ((FloatKind.f64.format.order t119.1 ((cres .add t121.1 t121.2 t122.1 t122.2).1) == some .eq) && (FloatKind.f64.format.order t119.2 ((cres .add t121.1 t121.2 t122.1 t122.2).2) == some .eq)) = true then ((scrimlaw5_within.f a2 1000).bind fun t123 => ((echo_Echo.f kj5 y116 t123).bind fun t124 => ((scrimlaw5_within.f a2 1000).bind fun t125 => ((echo_Echo.f kj5 y116 (wrap64 (t125 + 4))).bind fun t126 => (some ((FloatKind.f64.format.order t124.1 t126.1 == some .eq) && (FloatKind.f64.format.order t124.2 t126.2 == some .eq))))))) else (none)) else (none)))))) else (none))) else (none)) else (none)) else (none)) = some r := by first | (rw [hy109]; with_reducible exact H) | (have H2_ := (Option.bind_some _ _).symm.trans H; rw [hy109]; with_reducible exact H2_) | (have H2_ := (Option.bind_some _ _).symm.trans H; with_reducible exact H2_) | with_reducible exact H | (rw [hy109]; exact H) | exact H
          have Ny109 := Aside0.mk hy109
          clear hy109
          obtain ⟨ji10, hji10⟩ : ∃ j_ : Int, (wrap64 ((wrap64 ((l0.length : Int) / 4)) * 4)) = j_ := ⟨_, rfl⟩
          replace H : (if 0 ≤ (ji10) then (if (ji10) ≤ (l0.length : Int) then (if y109.length + (l0.take ((ji10) : Int).toNat).length < 140737488355328 then ((some (y109 ++ (l0.take ((ji10) : Int).toNat) : List Int)).bind fun y113 => (if y113.length + l1.length < 140737488355328 then ((some (y113 ++ l1 : List Int)).bind fun y116 => ((echo_Echo.f kj5 y116 a2).bind fun t119 => ((echo_Echo.f kj5 (l0.take ((ji10) : Int).toNat) a2).bind fun t121 => ((echo_Echo.f kj5 l1 a2).bind fun t122 => (if (cop .add t121.1 t121.2 t122.1 t122.2).isSome = true then (if ((FloatKind.f64.format.order t119.1 ((cres .add t121.1 t121.2 t122.1 t122.2).1) == some .eq) && (FloatKind.f64.format.order t119.2 ((cres .add t121.1 t121.2 t122.1 t122.2).2) == some .eq)) = true then ((scrimlaw5_within.f a2 1000).bind fun t123 => ((echo_Echo.f kj5 y116 t123).bind fun t124 => ((scrimlaw5_within.f a2 1000).bind fun t125 => ((echo_Echo.f kj5 y116 (wrap64 (t125 + 4))).bind fun t126 => (some ((FloatKind.f64.format.order t124.1 t126.1 == some .eq) && (FloatKind.f64.format.order t124.2 t126.2 == some .eq))))))) else (none)) else (none)))))) else (none))) else (none)) else (none)) else (none)) = some r := by first | (rw [hji10] at H; exact H) | (simp only [hji10] at H ⊢; exact H)
          have hji10w : (IntKind.i64.wrap ((wrap64 ((l0.length : Int) / 4)) * 4)) = ji10 := (i64_w _).trans hji10
          by_cases c11 : 0 ≤ (ji10)
          · rw [if_pos c11] at H
            have c11b0 := eq_true c11
            have c11b1 : decide (0 ≤ (ji10)) = true := decide_eq_true c11
            clear c11
            by_cases c12 : (ji10) ≤ (l0.length : Int)
            · rw [if_pos c12] at H
              have c12b0 := eq_true c12
              have c12b1 : decide ((ji10) ≤ (l0.length : Int)) = true := decide_eq_true c12
              clear c12
              by_cases c13 : y109.length + (l0.take ((ji10) : Int).toNat).length < 140737488355328
              · rw [if_pos c13] at H
                have LMc13 := Aside0.mk c13
                clear c13
                obtain ⟨y113, hy113⟩ : ∃ y_ : List Int, y_ = (y109 ++ (l0.take ((ji10) : Int).toNat)) := ⟨_, rfl⟩
                replace H : (if y113.length + l1.length < 140737488355328 then ((some (y113 ++ l1 : List Int)).bind fun y116 => ((echo_Echo.f kj5 y116 a2).bind fun t119 => ((echo_Echo.f kj5 (l0.take ((ji10) : Int).toNat) a2).bind fun t121 => ((echo_Echo.f kj5 l1 a2).bind fun t122 => (if (cop .add t121.1 t121.2 t122.1 t122.2).isSome = true then (if ((FloatKind.f64.format.order t119.1 ((cres .add t121.1 t121.2 t122.1 t122.2).1) == some .eq) && (FloatKind.f64.format.order t119.2 ((cres .add t121.1 t121.2 t122.1 t122.2).2) == some .eq)) = true then ((scrimlaw5_within.f a2 1000).bind fun t123 => ((echo_Echo.f kj5 y116 t123).bind fun t124 => ((scrimlaw5_within.f a2 1000).bind fun t125 => ((echo_Echo.f kj5 y116 (wrap64 (t125 + 4))).bind fun t126 => (some ((FloatKind.f64.format.order t124.1 t126.1 == some .eq) && (FloatKind.f64.format.order t124.2 t126.2 == some .eq))))))) else (none)) else (none)))))) else (none)) = some r := by first | (rw [hy113]; with_reducible exact H) | (have H2_ := (Option.bind_some _ _).symm.trans H; rw [hy113]; with_reducible exact H2_) | (have H2_ := (Option.bind_some _ _).symm.trans H; with_reducible exact H2_) | with_reducible exact H | (rw [hy113]; exact H) | exact H
                have Ny113 := Aside0.mk hy113
                clear hy113
                by_cases c14 : y113.length + l1.length < 140737488355328
                · rw [if_pos c14] at H
                  have LMc14 := Aside0.mk c14
                  clear c14
                  obtain ⟨y116, hy116⟩ : ∃ y_ : List Int, y_ = (y113 ++ l1) := ⟨_, rfl⟩
                  replace H : ((echo_Echo.f kj5 y116 a2).bind fun t119 => ((echo_Echo.f kj5 (l0.take ((ji10) : Int).toNat) a2).bind fun t121 => ((echo_Echo.f kj5 l1 a2).bind fun t122 => (if (cop .add t121.1 t121.2 t122.1 t122.2).isSome = true then (if ((FloatKind.f64.format.order t119.1 ((cres .add t121.1 t121.2 t122.1 t122.2).1) == some .eq) && (FloatKind.f64.format.order t119.2 ((cres .add t121.1 t121.2 t122.1 t122.2).2) == some .eq)) = true then ((scrimlaw5_within.f a2 1000).bind fun t123 => ((echo_Echo.f kj5 y116 t123).bind fun t124 => ((scrimlaw5_within.f a2 1000).bind fun t125 => ((echo_Echo.f kj5 y116 (wrap64 (t125 + 4))).bind fun t126 => (some ((FloatKind.f64.format.order t124.1 t126.1 == some .eq) && (FloatKind.f64.format.order t124.2 t126.2 == some .eq))))))) else (none)) else (none))))) = some r := by first | (rw [hy116]; with_reducible exact H) | (have H2_ := (Option.bind_some _ _).symm.trans H; rw [hy116]; with_reducible exact H2_) | (have H2_ := (Option.bind_some _ _).symm.trans H; with_reducible exact H2_) | with_reducible exact H | (rw [hy116]; exact H) | exact H
                  have Ny116 := Aside0.mk hy116
                  clear hy116
                  replace H := Option.bind_eq_some_iff.mp H
                  obtain ⟨t119, A150, H⟩ := H
                  replace H : ((echo_Echo.f kj5 (l0.take ((ji10) : Int).toNat) a2).bind fun t121 => ((echo_Echo.f kj5 l1 a2).bind fun t122 => (if (cop .add t121.1 t121.2 t122.1 t122.2).isSome = true then (if ((FloatKind.f64.format.order t119.1 ((cres .add t121.1 t121.2 t122.1 t122.2).1) == some .eq) && (FloatKind.f64.format.order t119.2 ((cres .add t121.1 t121.2 t122.1 t122.2).2) == some .eq)) = true then ((scrimlaw5_within.f a2 1000).bind fun t123 => ((echo_Echo.f kj5 y116 t123).bind fun t124 => ((scrimlaw5_within.f a2 1000).bind fun t125 => ((echo_Echo.f kj5 y116 (wrap64 (t125 + 4))).bind fun t126 => (some ((FloatKind.f64.format.order t124.1 t126.1 == some .eq) && (FloatKind.f64.format.order t124.2 t126.2 == some .eq))))))) else (none)) else (none)))) = some r := H
                  have A15 := Aside0.mk A150
                  clear A150
                  have c16b0 := eq_true (of_decide_eq_true (by first | (with_reducible assumption) | assumption) : 0 ≤ (ji10))
                  have c17b0 := eq_true (of_decide_eq_true (by first | (with_reducible assumption) | assumption) : (ji10) ≤ (l0.length : Int))
                  replace H := Option.bind_eq_some_iff.mp H
                  obtain ⟨t121, A180, H⟩ := H
                  replace H : ((echo_Echo.f kj5 l1 a2).bind fun t122 => (if (cop .add t121.1 t121.2 t122.1 t122.2).isSome = true then (if ((FloatKind.f64.format.order t119.1 ((cres .add t121.1 t121.2 t122.1 t122.2).1) == some .eq) && (FloatKind.f64.format.order t119.2 ((cres .add t121.1 t121.2 t122.1 t122.2).2) == some .eq)) = true then ((scrimlaw5_within.f a2 1000).bind fun t123 => ((echo_Echo.f kj5 y116 t123).bind fun t124 => ((scrimlaw5_within.f a2 1000).bind fun t125 => ((echo_Echo.f kj5 y116 (wrap64 (t125 + 4))).bind fun t126 => (some ((FloatKind.f64.format.order t124.1 t126.1 == some .eq) && (FloatKind.f64.format.order t124.2 t126.2 == some .eq))))))) else (none)) else (none))) = some r := H
                  have A18 := Aside0.mk A180
                  clear A180
                  replace H := Option.bind_eq_some_iff.mp H
                  obtain ⟨t122, A190, H⟩ := H
                  replace H : (if (cop .add t121.1 t121.2 t122.1 t122.2).isSome = true then (if ((FloatKind.f64.format.order t119.1 ((cres .add t121.1 t121.2 t122.1 t122.2).1) == some .eq) && (FloatKind.f64.format.order t119.2 ((cres .add t121.1 t121.2 t122.1 t122.2).2) == some .eq)) = true then ((scrimlaw5_within.f a2 1000).bind fun t123 => ((echo_Echo.f kj5 y116 t123).bind fun t124 => ((scrimlaw5_within.f a2 1000).bind fun t125 => ((echo_Echo.f kj5 y116 (wrap64 (t125 + 4))).bind fun t126 => (some ((FloatKind.f64.format.order t124.1 t126.1 == some .eq) && (FloatKind.f64.format.order t124.2 t126.2 == some .eq))))))) else (none)) else (none)) = some r := H
                  have A19 := Aside0.mk A190
                  clear A190
                  by_cases c20 : (cop .add t121.1 t121.2 t122.1 t122.2).isSome = true
                  · rw [if_pos c20] at H
                    have c20b0 := eq_true c20
                    have c20b1 : decide ((cop .add t121.1 t121.2 t122.1 t122.2).isSome = true) = true := decide_eq_true c20
                    clear c20
                    by_cases c21 : ((FloatKind.f64.format.order t119.1 ((cres .add t121.1 t121.2 t122.1 t122.2).1) == some .eq) && (FloatKind.f64.format.order t119.2 ((cres .add t121.1 t121.2 t122.1 t122.2).2) == some .eq)) = true
                    · rw [if_pos c21] at H
                      have c21b0 : ((FloatKind.f64.format.order t119.1 ((cres .add t121.1 t121.2 t122.1 t122.2).1) == some .eq) && (FloatKind.f64.format.order t119.2 ((cres .add t121.1 t121.2 t122.1 t122.2).2) == some .eq)) = true := c21
                      clear c21
                      replace H := Option.bind_eq_some_iff.mp H
                      obtain ⟨t123, A220, H⟩ := H
                      replace H : ((echo_Echo.f kj5 y116 t123).bind fun t124 => ((scrimlaw5_within.f a2 1000).bind fun t125 => ((echo_Echo.f kj5 y116 (wrap64 (t125 + 4))).bind fun t126 => (some ((FloatKind.f64.format.order t124.1 t126.1 == some .eq) && (FloatKind.f64.format.order t124.2 t126.2 == some .eq)))))) = some r := H
                      have A22 := Aside0.mk A220
                      clear A220
                      replace H := Option.bind_eq_some_iff.mp H
                      obtain ⟨t124, A230, H⟩ := H
                      replace H : ((scrimlaw5_within.f a2 1000).bind fun t125 => ((echo_Echo.f kj5 y116 (wrap64 (t125 + 4))).bind fun t126 => (some ((FloatKind.f64.format.order t124.1 t126.1 == some .eq) && (FloatKind.f64.format.order t124.2 t126.2 == some .eq))))) = some r := H
                      have A23 := Aside0.mk A230
                      clear A230
                      replace H := Option.bind_eq_some_iff.mp H
                      obtain ⟨t125, A240, H⟩ := H
                      replace H : ((echo_Echo.f kj5 y116 (wrap64 (t125 + 4))).bind fun t126 => (some ((FloatKind.f64.format.order t124.1 t126.1 == some .eq) && (FloatKind.f64.format.order t124.2 t126.2 == some .eq)))) = some r := H
                      have A24 := Aside0.mk A240
                      clear A240
                      obtain rfl := Option.some.inj (A22.out.symm.trans A24.out)
                      replace H := Option.bind_eq_some_iff.mp H
                      obtain ⟨t126, A250, H⟩ := H
                      replace H : (some ((FloatKind.f64.format.order t124.1 t126.1 == some .eq) && (FloatKind.f64.format.order t124.2 t126.2 == some .eq))) = some r := H
                      have A25 := Aside0.mk A250
                      clear A250
                      obtain rfl := Option.some.inj H
                      have hwq_ : IntKind.i64.wrap (t123 + 4) = wrap64 (t123 + 4) := i64_w _
                      go_wp2_with (first | ((with_reducible refine gate_dst (N := 23) rfl ?_); (try (refine gate_guard (by rfl) ?_; dsimp only)); refine Kd.R_lit (Kd.int .u8) _ 5 ?hg (N := 23) ?hd (xs := ([] : List Int)) (inner := []) (ok := fun _ => True) (okp := fun _ => True) ?hr ?hp (fun _ hk => hk) trivial (Below.refl _ _) (Nat.le_refl _) (by simp) ?_; (case hd => rfl); (case hg => rfl); (case hr => first | (go_simp; done) | (go_simp; rfl)); (case hp => exact (Reps.none _ _)); intro v110 w26 ho27 hb hg_ hnew_; clear hg_ hnew_; (first | rw [← Ny109.out] at ho27 | (simp only [Int.reduceToNat] at ho27; rw [← Ny109.out] at ho27)); have n0_ := Aside0.mk (Kd.R_lower ho27 (below_size (by repeat (first | (with_reducible first | exact HB.out | apply below_alloc | apply pw_below_drewN | apply below_drew1) | exact HB.out)))); have n1_ := Aside0.mk (below_step (by repeat (first | (with_reducible first | exact HB.out | apply below_alloc | apply pw_below_drewN | apply below_drew1) | exact HB.out)) hb); clear HB; have HO111 := n0_; have HB := n1_; clear n0_ n1_; clear hb ho27; obtain ⟨i028, hi028, _, hsz28, _⟩ := info_parts info5; obtain ⟨hcut28, hA28, hC28⟩ := print_take_of (P := Try.prog) (Value.int .u8) 0 28 5 .i64 Try.underlying28 hi028 hsz28 A0 c0 l0 (ji10) (of_decide_eq_true (by first | (with_reducible assumption) | assumption)) (of_decide_eq_true (by first | (with_reducible assumption) | assumption)) HC0.out; have HR112 := Aside0.mk (Kd.C_of_reads (h1 := fun _ => rfl) (hA28 _ (Kd.reads_of_C HR0.out))); have HC112 := Aside0.mk hC28; clear hA28 hC28 hi028 hsz28) | ((with_reducible refine gate_builtin (b := .append) (xs := #[.tmp 23, .tmp 26]) rfl ?_); (try (refine gate_guard (by rfl) ?_; dsimp only)); at_builtin; refine Kd.R_append_rows (Kd.int .u8) (w0 := w) w.heap.size rfl (.tmp 23) (.tmp 26) 28 5 (.int .u8 0) 1 rfl Try.underlying28 info5 rfl (by decide) (by omega) v110 y109 (l0.take ((ji10) : Int).toNat) _ _ _ (fun _ => True) (fun _ => False) rfl rfl ?aO ?aR (fun _ _ h => h) (fun _ h => h.elim) ?aF ?aB ?aS ?aL ?_; (case aR => first | (have hq_ := HR112.out; rw [show (l0.take ((ji10) : Int).toNat).length = (ji10).toNat from (by rw [List.length_take]; have h_ : ((ji10) : Int) ≤ (l0.length : Int) := of_decide_eq_true (by first | (with_reducible assumption) | assumption); omega)] at hq_; repeat (first | exact (Kd.C_below hq_ HB.out) | (with_reducible refine Kd.C_alloc ?_ _) | (with_reducible refine Kd.C_drewN ?_ _) | (with_reducible refine Kd.C_drew ?_))) | (repeat (first | exact (Kd.C_below HR112.out HB.out) | (with_reducible refine Kd.C_alloc ?_ _) | (with_reducible refine Kd.C_drewN ?_ _) | (with_reducible refine Kd.C_drew ?_)))); (case aB => exact (by repeat (first | (with_reducible first | exact HB.out | apply below_alloc | apply pw_below_drewN | apply below_drew1) | exact HB.out))); (case aF => exact (fun _ _ => trivial)); (case aO => exact (by (with_reducible repeat (first | apply Kd.R_alloc | apply Kd.R_drewN | apply Kd.R_drew)); exact HO111.out)); (case aS => exact (below_size (by repeat (first | (with_reducible first | exact HB.out | apply below_alloc | apply pw_below_drewN | apply below_drew1) | exact HB.out)))); (case aL => have := LMc13.out; have hlx_ := (show (l0.take ((ji10) : Int).toNat).length = (ji10).toNat from (by rw [List.length_take]; have h_ : ((ji10) : Int) ≤ (l0.length : Int) := of_decide_eq_true (by first | (with_reducible assumption) | assumption); omega)); omega); intro v114 w29 ho hb hg hat; rw [← Ny113.out] at ho; have n0_ := Aside0.mk (hb); have n1_ := Aside0.mk (ho); clear HB; clear HO111; have HB := n0_; have HO115 := n1_; clear n0_ n1_; clear ho hb hg hat) | ((with_reducible refine gate_builtin (b := .append) (xs := #[.tmp 27, .tmp 28]) rfl ?_); (try (refine gate_guard (by rfl) ?_; dsimp only)); at_builtin; refine Kd.R_append_rows (Kd.int .u8) (w0 := w) w.heap.size rfl (.tmp 27) (.tmp 28) 28 5 (.int .u8 0) 1 rfl Try.underlying28 info5 rfl (by decide) (by omega) v114 y113 l1 _ _ _ (fun _ => True) (fun _ => False) rfl rfl ?aO ?aR (fun _ _ h => h) (fun _ h => h.elim) ?aF ?aB ?aS ?aL ?_; (case aR => repeat (first | exact (Kd.C_below HR1.out HB.out) | (with_reducible refine Kd.C_alloc ?_ _) | (with_reducible refine Kd.C_drewN ?_ _) | (with_reducible refine Kd.C_drew ?_))); (case aB => exact (by repeat (first | (with_reducible first | exact HB.out | apply below_alloc | apply pw_below_drewN | apply below_drew1) | exact HB.out))); (case aF => exact (fun _ _ => trivial)); (case aO => exact (by (with_reducible repeat (first | apply Kd.R_alloc | apply Kd.R_drewN | apply Kd.R_drew)); exact HO115.out)); (case aS => exact (below_size (by repeat (first | (with_reducible first | exact HB.out | apply below_alloc | apply pw_below_drewN | apply below_drew1) | exact HB.out)))); (case aL => have := LMc14.out; omega); intro v117 w30 ho hb hg hat; rw [← Ny116.out] at ho; have n0_ := Aside0.mk (hb); have n1_ := Aside0.mk (ho); clear HB; clear HO115; have HB := n0_; have HO118 := n1_; clear n0_ n1_; clear ho hb hg hat; obtain ⟨Ao31, co31, eo31⟩ := Kd.R_slice HO118.out; subst eo31) | (go_at_call 16; (with_reducible refine (echo_Echo.calls kj5 _ _ y116 a2 t119 _ ?side1 ?side2 A15.out).mono ?_); (case side1 => repeat (first | exact (Kd.R_reads' HO118.out).2.2 | (with_reducible refine Kd.C_alloc ?_ _) | (with_reducible refine Kd.C_drewN ?_ _) | (with_reducible refine Kd.C_drew ?_))); (case side2 => exact (Kd.R_reads' HO118.out).2.1); rintro e w' ⟨rfl, ⟨nd, rfl⟩⟩; (try first | exact ⟨rfl, _, World.drewN_drewN _ _ _⟩ | exact ⟨rfl, _, Eq.trans (World.drewN_drewN _ _ _) (congrArg (World.drewN _) (Nat.add_assoc _ _ _))⟩); obtain ⟨i032, hi032, _, hsz32, _⟩ := info_parts info5; obtain ⟨hcut32, hA32, hC32⟩ := print_take_of (P := Try.prog) (Value.int .u8) 0 28 5 .i64 Try.underlying28 hi032 hsz32 A0 c0 l0 (ji10) (of_decide_eq_true (by first | (with_reducible assumption) | assumption)) (of_decide_eq_true (by first | (with_reducible assumption) | assumption)) HC0.out; have HR120 := Aside0.mk (Kd.C_of_reads (h1 := fun _ => rfl) (hA32 _ (Kd.reads_of_C HR0.out))); have HC120 := Aside0.mk hC32; clear hA32 hC32 hi032 hsz32) | (go_at_call 16; refine calls_of_args (args' := #[.slice A0 (l0.take ((ji10) : Int).toNat).length c0, .int .i64 a2]) ?cutA ?_; (case cutA => (rw [show (l0.take ((ji10) : Int).toNat).length = (ji10).toNat from (by rw [List.length_take]; have h_ : ((ji10) : Int) ≤ (l0.length : Int) := of_decide_eq_true (by first | (with_reducible assumption) | assumption); exact Nat.min_eq_left (Int.toNat_le.2 h_))]; done)); (with_reducible refine (echo_Echo.calls kj5 _ _ (l0.take ((ji10) : Int).toNat) a2 t121 _ ?side1 ?side2 A18.out).mono ?_); (case side1 => repeat (first | exact (Kd.C_below HR120.out (by repeat (first | (with_reducible first | exact HB.out | apply below_alloc | apply pw_below_drewN | apply below_drew1) | exact HB.out))) | (with_reducible refine Kd.C_alloc ?_ _) | (with_reducible refine Kd.C_drewN ?_ _) | (with_reducible refine Kd.C_drew ?_))); (case side2 => exact HC120.out); rintro e w' ⟨rfl, ⟨nd, rfl⟩⟩; (try first | exact ⟨rfl, _, World.drewN_drewN _ _ _⟩ | exact ⟨rfl, _, Eq.trans (World.drewN_drewN _ _ _) (congrArg (World.drewN _) (Nat.add_assoc _ _ _))⟩)) | (go_at_call 16; (with_reducible refine (echo_Echo.calls kj5 _ _ l1 a2 t122 _ ?side1 ?side2 A19.out).mono ?_); (case side1 => repeat (first | exact (Kd.C_below HR1.out (by repeat (first | (with_reducible first | exact HB.out | apply below_alloc | apply pw_below_drewN | apply below_drew1) | exact HB.out))) | (with_reducible refine Kd.C_alloc ?_ _) | (with_reducible refine Kd.C_drewN ?_ _) | (with_reducible refine Kd.C_drew ?_))); (case side2 => exact HC1.out); rintro e w' ⟨rfl, ⟨nd, rfl⟩⟩; (try first | exact ⟨rfl, _, World.drewN_drewN _ _ _⟩ | exact ⟨rfl, _, Eq.trans (World.drewN_drewN _ _ _) (congrArg (World.drewN _) (Nat.add_assoc _ _ _))⟩)) | (go_at_call 13; (with_reducible refine (scrimlaw5_within.calls a2 1000 t123 _ A22.out).mono ?_); rintro e w' ⟨rfl, ⟨nd, rfl⟩⟩; (try first | exact ⟨rfl, _, World.drewN_drewN _ _ _⟩ | exact ⟨rfl, _, Eq.trans (World.drewN_drewN _ _ _) (congrArg (World.drewN _) (Nat.add_assoc _ _ _))⟩)) | (go_at_call 16; (with_reducible refine (echo_Echo.calls kj5 _ _ y116 t123 t124 _ ?side1 ?side2 A23.out).mono ?_); (case side1 => repeat (first | exact (Kd.R_reads' HO118.out).2.2 | (with_reducible refine Kd.C_alloc ?_ _) | (with_reducible refine Kd.C_drewN ?_ _) | (with_reducible refine Kd.C_drew ?_))); (case side2 => exact (Kd.R_reads' HO118.out).2.1); rintro e w' ⟨rfl, ⟨nd, rfl⟩⟩; (try first | exact ⟨rfl, _, World.drewN_drewN _ _ _⟩ | exact ⟨rfl, _, Eq.trans (World.drewN_drewN _ _ _) (congrArg (World.drewN _) (Nat.add_assoc _ _ _))⟩)) | (go_at_call 13; (with_reducible refine (scrimlaw5_within.calls a2 1000 t123 _ A24.out).mono ?_); rintro e w' ⟨rfl, ⟨nd, rfl⟩⟩; (try first | exact ⟨rfl, _, World.drewN_drewN _ _ _⟩ | exact ⟨rfl, _, Eq.trans (World.drewN_drewN _ _ _) (congrArg (World.drewN _) (Nat.add_assoc _ _ _))⟩)) | (go_at_call 16; (with_reducible refine (echo_Echo.calls kj5 _ _ y116 (wrap64 (t123 + 4)) t126 _ ?side1 ?side2 A25.out).mono ?_); (case side1 => repeat (first | exact (Kd.R_reads' HO118.out).2.2 | (with_reducible refine Kd.C_alloc ?_ _) | (with_reducible refine Kd.C_drewN ?_ _) | (with_reducible refine Kd.C_drew ?_))); (case side2 => exact (Kd.R_reads' HO118.out).2.1); rintro e w' ⟨rfl, ⟨nd, rfl⟩⟩; (try first | exact ⟨rfl, _, World.drewN_drewN _ _ _⟩ | exact ⟨rfl, _, Eq.trans (World.drewN_drewN _ _ _) (congrArg (World.drewN _) (Nat.add_assoc _ _ _))⟩)))
                      repeat (go_quiet (first | ((with_reducible refine gate_dst (N := 23) rfl ?_); (try (refine gate_guard (by rfl) ?_; dsimp only)); refine Kd.R_lit (Kd.int .u8) _ 5 ?hg (N := 23) ?hd (xs := ([] : List Int)) (inner := []) (ok := fun _ => True) (okp := fun _ => True) ?hr ?hp (fun _ hk => hk) trivial (Below.refl _ _) (Nat.le_refl _) (by simp) ?_; (case hd => rfl); (case hg => rfl); (case hr => first | (go_simp; done) | (go_simp; rfl)); (case hp => exact (Reps.none _ _)); intro v110 w26 ho27 hb hg_ hnew_; clear hg_ hnew_; (first | rw [← Ny109.out] at ho27 | (simp only [Int.reduceToNat] at ho27; rw [← Ny109.out] at ho27)); have n0_ := Aside0.mk (Kd.R_lower ho27 (below_size (by repeat (first | (with_reducible first | exact HB.out | apply below_alloc | apply pw_below_drewN | apply below_drew1) | exact HB.out)))); have n1_ := Aside0.mk (below_step (by repeat (first | (with_reducible first | exact HB.out | apply below_alloc | apply pw_below_drewN | apply below_drew1) | exact HB.out)) hb); clear HB; have HO111 := n0_; have HB := n1_; clear n0_ n1_; clear hb ho27; obtain ⟨i028, hi028, _, hsz28, _⟩ := info_parts info5; obtain ⟨hcut28, hA28, hC28⟩ := print_take_of (P := Try.prog) (Value.int .u8) 0 28 5 .i64 Try.underlying28 hi028 hsz28 A0 c0 l0 (ji10) (of_decide_eq_true (by first | (with_reducible assumption) | assumption)) (of_decide_eq_true (by first | (with_reducible assumption) | assumption)) HC0.out; have HR112 := Aside0.mk (Kd.C_of_reads (h1 := fun _ => rfl) (hA28 _ (Kd.reads_of_C HR0.out))); have HC112 := Aside0.mk hC28; clear hA28 hC28 hi028 hsz28) | ((with_reducible refine gate_builtin (b := .append) (xs := #[.tmp 23, .tmp 26]) rfl ?_); (try (refine gate_guard (by rfl) ?_; dsimp only)); at_builtin; refine Kd.R_append_rows (Kd.int .u8) (w0 := w) w.heap.size rfl (.tmp 23) (.tmp 26) 28 5 (.int .u8 0) 1 rfl Try.underlying28 info5 rfl (by decide) (by omega) v110 y109 (l0.take ((ji10) : Int).toNat) _ _ _ (fun _ => True) (fun _ => False) rfl rfl ?aO ?aR (fun _ _ h => h) (fun _ h => h.elim) ?aF ?aB ?aS ?aL ?_; (case aR => first | (have hq_ := HR112.out; rw [show (l0.take ((ji10) : Int).toNat).length = (ji10).toNat from (by rw [List.length_take]; have h_ : ((ji10) : Int) ≤ (l0.length : Int) := of_decide_eq_true (by first | (with_reducible assumption) | assumption); omega)] at hq_; repeat (first | exact (Kd.C_below hq_ HB.out) | (with_reducible refine Kd.C_alloc ?_ _) | (with_reducible refine Kd.C_drewN ?_ _) | (with_reducible refine Kd.C_drew ?_))) | (repeat (first | exact (Kd.C_below HR112.out HB.out) | (with_reducible refine Kd.C_alloc ?_ _) | (with_reducible refine Kd.C_drewN ?_ _) | (with_reducible refine Kd.C_drew ?_)))); (case aB => exact (by repeat (first | (with_reducible first | exact HB.out | apply below_alloc | apply pw_below_drewN | apply below_drew1) | exact HB.out))); (case aF => exact (fun _ _ => trivial)); (case aO => exact (by (with_reducible repeat (first | apply Kd.R_alloc | apply Kd.R_drewN | apply Kd.R_drew)); exact HO111.out)); (case aS => exact (below_size (by repeat (first | (with_reducible first | exact HB.out | apply below_alloc | apply pw_below_drewN | apply below_drew1) | exact HB.out)))); (case aL => have := LMc13.out; have hlx_ := (show (l0.take ((ji10) : Int).toNat).length = (ji10).toNat from (by rw [List.length_take]; have h_ : ((ji10) : Int) ≤ (l0.length : Int) := of_decide_eq_true (by first | (with_reducible assumption) | assumption); omega)); omega); intro v114 w29 ho hb hg hat; rw [← Ny113.out] at ho; have n0_ := Aside0.mk (hb); have n1_ := Aside0.mk (ho); clear HB; clear HO111; have HB := n0_; have HO115 := n1_; clear n0_ n1_; clear ho hb hg hat) | ((with_reducible refine gate_builtin (b := .append) (xs := #[.tmp 27, .tmp 28]) rfl ?_); (try (refine gate_guard (by rfl) ?_; dsimp only)); at_builtin; refine Kd.R_append_rows (Kd.int .u8) (w0 := w) w.heap.size rfl (.tmp 27) (.tmp 28) 28 5 (.int .u8 0) 1 rfl Try.underlying28 info5 rfl (by decide) (by omega) v114 y113 l1 _ _ _ (fun _ => True) (fun _ => False) rfl rfl ?aO ?aR (fun _ _ h => h) (fun _ h => h.elim) ?aF ?aB ?aS ?aL ?_; (case aR => repeat (first | exact (Kd.C_below HR1.out HB.out) | (with_reducible refine Kd.C_alloc ?_ _) | (with_reducible refine Kd.C_drewN ?_ _) | (with_reducible refine Kd.C_drew ?_))); (case aB => exact (by repeat (first | (with_reducible first | exact HB.out | apply below_alloc | apply pw_below_drewN | apply below_drew1) | exact HB.out))); (case aF => exact (fun _ _ => trivial)); (case aO => exact (by (with_reducible repeat (first | apply Kd.R_alloc | apply Kd.R_drewN | apply Kd.R_drew)); exact HO115.out)); (case aS => exact (below_size (by repeat (first | (with_reducible first | exact HB.out | apply below_alloc | apply pw_below_drewN | apply below_drew1) | exact HB.out)))); (case aL => have := LMc14.out; omega); intro v117 w30 ho hb hg hat; rw [← Ny116.out] at ho; have n0_ := Aside0.mk (hb); have n1_ := Aside0.mk (ho); clear HB; clear HO115; have HB := n0_; have HO118 := n1_; clear n0_ n1_; clear ho hb hg hat; obtain ⟨Ao31, co31, eo31⟩ := Kd.R_slice HO118.out; subst eo31) | (go_at_call 16; (with_reducible refine (echo_Echo.calls kj5 _ _ y116 a2 t119 _ ?side1 ?side2 A15.out).mono ?_); (case side1 => repeat (first | exact (Kd.R_reads' HO118.out).2.2 | (with_reducible refine Kd.C_alloc ?_ _) | (with_reducible refine Kd.C_drewN ?_ _) | (with_reducible refine Kd.C_drew ?_))); (case side2 => exact (Kd.R_reads' HO118.out).2.1); rintro e w' ⟨rfl, ⟨nd, rfl⟩⟩; (try first | exact ⟨rfl, _, World.drewN_drewN _ _ _⟩ | exact ⟨rfl, _, Eq.trans (World.drewN_drewN _ _ _) (congrArg (World.drewN _) (Nat.add_assoc _ _ _))⟩); obtain ⟨i032, hi032, _, hsz32, _⟩ := info_parts info5; obtain ⟨hcut32, hA32, hC32⟩ := print_take_of (P := Try.prog) (Value.int .u8) 0 28 5 .i64 Try.underlying28 hi032 hsz32 A0 c0 l0 (ji10) (of_decide_eq_true (by first | (with_reducible assumption) | assumption)) (of_decide_eq_true (by first | (with_reducible assumption) | assumption)) HC0.out; have HR120 := Aside0.mk (Kd.C_of_reads (h1 := fun _ => rfl) (hA32 _ (Kd.reads_of_C HR0.out))); have HC120 := Aside0.mk hC32; clear hA32 hC32 hi032 hsz32) | (go_at_call 16; refine calls_of_args (args' := #[.slice A0 (l0.take ((ji10) : Int).toNat).length c0, .int .i64 a2]) ?cutA ?_; (case cutA => (rw [show (l0.take ((ji10) : Int).toNat).length = (ji10).toNat from (by rw [List.length_take]; have h_ : ((ji10) : Int) ≤ (l0.length : Int) := of_decide_eq_true (by first | (with_reducible assumption) | assumption); exact Nat.min_eq_left (Int.toNat_le.2 h_))]; done)); (with_reducible refine (echo_Echo.calls kj5 _ _ (l0.take ((ji10) : Int).toNat) a2 t121 _ ?side1 ?side2 A18.out).mono ?_); (case side1 => repeat (first | exact (Kd.C_below HR120.out (by repeat (first | (with_reducible first | exact HB.out | apply below_alloc | apply pw_below_drewN | apply below_drew1) | exact HB.out))) | (with_reducible refine Kd.C_alloc ?_ _) | (with_reducible refine Kd.C_drewN ?_ _) | (with_reducible refine Kd.C_drew ?_))); (case side2 => exact HC120.out); rintro e w' ⟨rfl, ⟨nd, rfl⟩⟩; (try first | exact ⟨rfl, _, World.drewN_drewN _ _ _⟩ | exact ⟨rfl, _, Eq.trans (World.drewN_drewN _ _ _) (congrArg (World.drewN _) (Nat.add_assoc _ _ _))⟩)) | (go_at_call 16; (with_reducible refine (echo_Echo.calls kj5 _ _ l1 a2 t122 _ ?side1 ?side2 A19.out).mono ?_); (case side1 => repeat (first | exact (Kd.C_below HR1.out (by repeat (first | (with_reducible first | exact HB.out | apply below_alloc | apply pw_below_drewN | apply below_drew1) | exact HB.out))) | (with_reducible refine Kd.C_alloc ?_ _) | (with_reducible refine Kd.C_drewN ?_ _) | (with_reducible refine Kd.C_drew ?_))); (case side2 => exact HC1.out); rintro e w' ⟨rfl, ⟨nd, rfl⟩⟩; (try first | exact ⟨rfl, _, World.drewN_drewN _ _ _⟩ | exact ⟨rfl, _, Eq.trans (World.drewN_drewN _ _ _) (congrArg (World.drewN _) (Nat.add_assoc _ _ _))⟩)) | (go_at_call 13; (with_reducible refine (scrimlaw5_within.calls a2 1000 t123 _ A22.out).mono ?_); rintro e w' ⟨rfl, ⟨nd, rfl⟩⟩; (try first | exact ⟨rfl, _, World.drewN_drewN _ _ _⟩ | exact ⟨rfl, _, Eq.trans (World.drewN_drewN _ _ _) (congrArg (World.drewN _) (Nat.add_assoc _ _ _))⟩)) | (go_at_call 16; (with_reducible refine (echo_Echo.calls kj5 _ _ y116 t123 t124 _ ?side1 ?side2 A23.out).mono ?_); (case side1 => repeat (first | exact (Kd.R_reads' HO118.out).2.2 | (with_reducible refine Kd.C_alloc ?_ _) | (with_reducible refine Kd.C_drewN ?_ _) | (with_reducible refine Kd.C_drew ?_))); (case side2 => exact (Kd.R_reads' HO118.out).2.1); rintro e w' ⟨rfl, ⟨nd, rfl⟩⟩; (try first | exact ⟨rfl, _, World.drewN_drewN _ _ _⟩ | exact ⟨rfl, _, Eq.trans (World.drewN_drewN _ _ _) (congrArg (World.drewN _) (Nat.add_assoc _ _ _))⟩)) | (go_at_call 13; (with_reducible refine (scrimlaw5_within.calls a2 1000 t123 _ A24.out).mono ?_); rintro e w' ⟨rfl, ⟨nd, rfl⟩⟩; (try first | exact ⟨rfl, _, World.drewN_drewN _ _ _⟩ | exact ⟨rfl, _, Eq.trans (World.drewN_drewN _ _ _) (congrArg (World.drewN _) (Nat.add_assoc _ _ _))⟩)) | (go_at_call 16; (with_reducible refine (echo_Echo.calls kj5 _ _ y116 (wrap64 (t123 + 4)) t126 _ ?side1 ?side2 A25.out).mono ?_); (case side1 => repeat (first | exact (Kd.R_reads' HO118.out).2.2 | (with_reducible refine Kd.C_alloc ?_ _) | (with_reducible refine Kd.C_drewN ?_ _) | (with_reducible refine Kd.C_drew ?_))); (case side2 => exact (Kd.R_reads' HO118.out).2.1); rintro e w' ⟨rfl, ⟨nd, rfl⟩⟩; (try first | exact ⟨rfl, _, World.drewN_drewN _ _ _⟩ | exact ⟨rfl, _, Eq.trans (World.drewN_drewN _ _ _) (congrArg (World.drewN _) (Nat.add_assoc _ _ _))⟩))); try go_wp2_with (first | ((with_reducible refine gate_dst (N := 23) rfl ?_); (try (refine gate_guard (by rfl) ?_; dsimp only)); refine Kd.R_lit (Kd.int .u8) _ 5 ?hg (N := 23) ?hd (xs := ([] : List Int)) (inner := []) (ok := fun _ => True) (okp := fun _ => True) ?hr ?hp (fun _ hk => hk) trivial (Below.refl _ _) (Nat.le_refl _) (by simp) ?_; (case hd => rfl); (case hg => rfl); (case hr => first | (go_simp; done) | (go_simp; rfl)); (case hp => exact (Reps.none _ _)); intro v110 w26 ho27 hb hg_ hnew_; clear hg_ hnew_; (first | rw [← Ny109.out] at ho27 | (simp only [Int.reduceToNat] at ho27; rw [← Ny109.out] at ho27)); have n0_ := Aside0.mk (Kd.R_lower ho27 (below_size (by repeat (first | (with_reducible first | exact HB.out | apply below_alloc | apply pw_below_drewN | apply below_drew1) | exact HB.out)))); have n1_ := Aside0.mk (below_step (by repeat (first | (with_reducible first | exact HB.out | apply below_alloc | apply pw_below_drewN | apply below_drew1) | exact HB.out)) hb); clear HB; have HO111 := n0_; have HB := n1_; clear n0_ n1_; clear hb ho27; obtain ⟨i028, hi028, _, hsz28, _⟩ := info_parts info5; obtain ⟨hcut28, hA28, hC28⟩ := print_take_of (P := Try.prog) (Value.int .u8) 0 28 5 .i64 Try.underlying28 hi028 hsz28 A0 c0 l0 (ji10) (of_decide_eq_true (by first | (with_reducible assumption) | assumption)) (of_decide_eq_true (by first | (with_reducible assumption) | assumption)) HC0.out; have HR112 := Aside0.mk (Kd.C_of_reads (h1 := fun _ => rfl) (hA28 _ (Kd.reads_of_C HR0.out))); have HC112 := Aside0.mk hC28; clear hA28 hC28 hi028 hsz28) | ((with_reducible refine gate_builtin (b := .append) (xs := #[.tmp 23, .tmp 26]) rfl ?_); (try (refine gate_guard (by rfl) ?_; dsimp only)); at_builtin; refine Kd.R_append_rows (Kd.int .u8) (w0 := w) w.heap.size rfl (.tmp 23) (.tmp 26) 28 5 (.int .u8 0) 1 rfl Try.underlying28 info5 rfl (by decide) (by omega) v110 y109 (l0.take ((ji10) : Int).toNat) _ _ _ (fun _ => True) (fun _ => False) rfl rfl ?aO ?aR (fun _ _ h => h) (fun _ h => h.elim) ?aF ?aB ?aS ?aL ?_; (case aR => first | (have hq_ := HR112.out; rw [show (l0.take ((ji10) : Int).toNat).length = (ji10).toNat from (by rw [List.length_take]; have h_ : ((ji10) : Int) ≤ (l0.length : Int) := of_decide_eq_true (by first | (with_reducible assumption) | assumption); omega)] at hq_; repeat (first | exact (Kd.C_below hq_ HB.out) | (with_reducible refine Kd.C_alloc ?_ _) | (with_reducible refine Kd.C_drewN ?_ _) | (with_reducible refine Kd.C_drew ?_))) | (repeat (first | exact (Kd.C_below HR112.out HB.out) | (with_reducible refine Kd.C_alloc ?_ _) | (with_reducible refine Kd.C_drewN ?_ _) | (with_reducible refine Kd.C_drew ?_)))); (case aB => exact (by repeat (first | (with_reducible first | exact HB.out | apply below_alloc | apply pw_below_drewN | apply below_drew1) | exact HB.out))); (case aF => exact (fun _ _ => trivial)); (case aO => exact (by (with_reducible repeat (first | apply Kd.R_alloc | apply Kd.R_drewN | apply Kd.R_drew)); exact HO111.out)); (case aS => exact (below_size (by repeat (first | (with_reducible first | exact HB.out | apply below_alloc | apply pw_below_drewN | apply below_drew1) | exact HB.out)))); (case aL => have := LMc13.out; have hlx_ := (show (l0.take ((ji10) : Int).toNat).length = (ji10).toNat from (by rw [List.length_take]; have h_ : ((ji10) : Int) ≤ (l0.length : Int) := of_decide_eq_true (by first | (with_reducible assumption) | assumption); omega)); omega); intro v114 w29 ho hb hg hat; rw [← Ny113.out] at ho; have n0_ := Aside0.mk (hb); have n1_ := Aside0.mk (ho); clear HB; clear HO111; have HB := n0_; have HO115 := n1_; clear n0_ n1_; clear ho hb hg hat) | ((with_reducible refine gate_builtin (b := .append) (xs := #[.tmp 27, .tmp 28]) rfl ?_); (try (refine gate_guard (by rfl) ?_; dsimp only)); at_builtin; refine Kd.R_append_rows (Kd.int .u8) (w0 := w) w.heap.size rfl (.tmp 27) (.tmp 28) 28 5 (.int .u8 0) 1 rfl Try.underlying28 info5 rfl (by decide) (by omega) v114 y113 l1 _ _ _ (fun _ => True) (fun _ => False) rfl rfl ?aO ?aR (fun _ _ h => h) (fun _ h => h.elim) ?aF ?aB ?aS ?aL ?_; (case aR => repeat (first | exact (Kd.C_below HR1.out HB.out) | (with_reducible refine Kd.C_alloc ?_ _) | (with_reducible refine Kd.C_drewN ?_ _) | (with_reducible refine Kd.C_drew ?_))); (case aB => exact (by repeat (first | (with_reducible first | exact HB.out | apply below_alloc | apply pw_below_drewN | apply below_drew1) | exact HB.out))); (case aF => exact (fun _ _ => trivial)); (case aO => exact (by (with_reducible repeat (first | apply Kd.R_alloc | apply Kd.R_drewN | apply Kd.R_drew)); exact HO115.out)); (case aS => exact (below_size (by repeat (first | (with_reducible first | exact HB.out | apply below_alloc | apply pw_below_drewN | apply below_drew1) | exact HB.out)))); (case aL => have := LMc14.out; omega); intro v117 w30 ho hb hg hat; rw [← Ny116.out] at ho; have n0_ := Aside0.mk (hb); have n1_ := Aside0.mk (ho); clear HB; clear HO115; have HB := n0_; have HO118 := n1_; clear n0_ n1_; clear ho hb hg hat; obtain ⟨Ao31, co31, eo31⟩ := Kd.R_slice HO118.out; subst eo31) | (go_at_call 16; (with_reducible refine (echo_Echo.calls kj5 _ _ y116 a2 t119 _ ?side1 ?side2 A15.out).mono ?_); (case side1 => repeat (first | exact (Kd.R_reads' HO118.out).2.2 | (with_reducible refine Kd.C_alloc ?_ _) | (with_reducible refine Kd.C_drewN ?_ _) | (with_reducible refine Kd.C_drew ?_))); (case side2 => exact (Kd.R_reads' HO118.out).2.1); rintro e w' ⟨rfl, ⟨nd, rfl⟩⟩; (try first | exact ⟨rfl, _, World.drewN_drewN _ _ _⟩ | exact ⟨rfl, _, Eq.trans (World.drewN_drewN _ _ _) (congrArg (World.drewN _) (Nat.add_assoc _ _ _))⟩); obtain ⟨i032, hi032, _, hsz32, _⟩ := info_parts info5; obtain ⟨hcut32, hA32, hC32⟩ := print_take_of (P := Try.prog) (Value.int .u8) 0 28 5 .i64 Try.underlying28 hi032 hsz32 A0 c0 l0 (ji10) (of_decide_eq_true (by first | (with_reducible assumption) | assumption)) (of_decide_eq_true (by first | (with_reducible assumption) | assumption)) HC0.out; have HR120 := Aside0.mk (Kd.C_of_reads (h1 := fun _ => rfl) (hA32 _ (Kd.reads_of_C HR0.out))); have HC120 := Aside0.mk hC32; clear hA32 hC32 hi032 hsz32) | (go_at_call 16; refine calls_of_args (args' := #[.slice A0 (l0.take ((ji10) : Int).toNat).length c0, .int .i64 a2]) ?cutA ?_; (case cutA => (rw [show (l0.take ((ji10) : Int).toNat).length = (ji10).toNat from (by rw [List.length_take]; have h_ : ((ji10) : Int) ≤ (l0.length : Int) := of_decide_eq_true (by first | (with_reducible assumption) | assumption); exact Nat.min_eq_left (Int.toNat_le.2 h_))]; done)); (with_reducible refine (echo_Echo.calls kj5 _ _ (l0.take ((ji10) : Int).toNat) a2 t121 _ ?side1 ?side2 A18.out).mono ?_); (case side1 => repeat (first | exact (Kd.C_below HR120.out (by repeat (first | (with_reducible first | exact HB.out | apply below_alloc | apply pw_below_drewN | apply below_drew1) | exact HB.out))) | (with_reducible refine Kd.C_alloc ?_ _) | (with_reducible refine Kd.C_drewN ?_ _) | (with_reducible refine Kd.C_drew ?_))); (case side2 => exact HC120.out); rintro e w' ⟨rfl, ⟨nd, rfl⟩⟩; (try first | exact ⟨rfl, _, World.drewN_drewN _ _ _⟩ | exact ⟨rfl, _, Eq.trans (World.drewN_drewN _ _ _) (congrArg (World.drewN _) (Nat.add_assoc _ _ _))⟩)) | (go_at_call 16; (with_reducible refine (echo_Echo.calls kj5 _ _ l1 a2 t122 _ ?side1 ?side2 A19.out).mono ?_); (case side1 => repeat (first | exact (Kd.C_below HR1.out (by repeat (first | (with_reducible first | exact HB.out | apply below_alloc | apply pw_below_drewN | apply below_drew1) | exact HB.out))) | (with_reducible refine Kd.C_alloc ?_ _) | (with_reducible refine Kd.C_drewN ?_ _) | (with_reducible refine Kd.C_drew ?_))); (case side2 => exact HC1.out); rintro e w' ⟨rfl, ⟨nd, rfl⟩⟩; (try first | exact ⟨rfl, _, World.drewN_drewN _ _ _⟩ | exact ⟨rfl, _, Eq.trans (World.drewN_drewN _ _ _) (congrArg (World.drewN _) (Nat.add_assoc _ _ _))⟩)) | (go_at_call 13; (with_reducible refine (scrimlaw5_within.calls a2 1000 t123 _ A22.out).mono ?_); rintro e w' ⟨rfl, ⟨nd, rfl⟩⟩; (try first | exact ⟨rfl, _, World.drewN_drewN _ _ _⟩ | exact ⟨rfl, _, Eq.trans (World.drewN_drewN _ _ _) (congrArg (World.drewN _) (Nat.add_assoc _ _ _))⟩)) | (go_at_call 16; (with_reducible refine (echo_Echo.calls kj5 _ _ y116 t123 t124 _ ?side1 ?side2 A23.out).mono ?_); (case side1 => repeat (first | exact (Kd.R_reads' HO118.out).2.2 | (with_reducible refine Kd.C_alloc ?_ _) | (with_reducible refine Kd.C_drewN ?_ _) | (with_reducible refine Kd.C_drew ?_))); (case side2 => exact (Kd.R_reads' HO118.out).2.1); rintro e w' ⟨rfl, ⟨nd, rfl⟩⟩; (try first | exact ⟨rfl, _, World.drewN_drewN _ _ _⟩ | exact ⟨rfl, _, Eq.trans (World.drewN_drewN _ _ _) (congrArg (World.drewN _) (Nat.add_assoc _ _ _))⟩)) | (go_at_call 13; (with_reducible refine (scrimlaw5_within.calls a2 1000 t123 _ A24.out).mono ?_); rintro e w' ⟨rfl, ⟨nd, rfl⟩⟩; (try first | exact ⟨rfl, _, World.drewN_drewN _ _ _⟩ | exact ⟨rfl, _, Eq.trans (World.drewN_drewN _ _ _) (congrArg (World.drewN _) (Nat.add_assoc _ _ _))⟩)) | (go_at_call 16; (with_reducible refine (echo_Echo.calls kj5 _ _ y116 (wrap64 (t123 + 4)) t126 _ ?side1 ?side2 A25.out).mono ?_); (case side1 => repeat (first | exact (Kd.R_reads' HO118.out).2.2 | (with_reducible refine Kd.C_alloc ?_ _) | (with_reducible refine Kd.C_drewN ?_ _) | (with_reducible refine Kd.C_drew ?_))); (case side2 => exact (Kd.R_reads' HO118.out).2.1); rintro e w' ⟨rfl, ⟨nd, rfl⟩⟩; (try first | exact ⟨rfl, _, World.drewN_drewN _ _ _⟩ | exact ⟨rfl, _, Eq.trans (World.drewN_drewN _ _ _) (congrArg (World.drewN _) (Nat.add_assoc _ _ _))⟩))))
                      go_ret
                      exact ⟨by first | rfl | (simp [errW_none, errW_some] <;> rfl) | (simp only [← hji10]; first | rfl | (simp [errW_none, errW_some] <;> rfl)) | (simp [*, errW_none, errW_some] <;> rfl), by repeat (first | (with_reducible first | exact HB.out | apply below_alloc | apply pw_below_drewN | apply below_drew1) | exact HB.out)⟩
                    · rw [if_neg c21] at H
                      exact absurd H (by simp)
                  · rw [if_neg c20] at H
                    exact absurd H (by simp)
                · rw [if_neg c14] at H
                  exact absurd H (by simp)
              · rw [if_neg c13] at H
                exact absurd H (by simp)
            · rw [if_neg c12] at H
              exact absurd H (by simp)
          · rw [if_neg c11] at H
            exact absurd H (by simp)
  · replace c5 := Bool.eq_false_iff.mpr c5
    subst c5
    have H1 : (some false) = some r := by rw [if_neg (show ¬ (false = true) by decide)] at H; exact H
    clear H
    have H := H1
    clear H1
    obtain rfl := Option.some.inj H
    go_enter Try.func5, Try.ntmps5
    go_wp2_with (first | (go_at_call 12; (with_reducible refine (scrimlaw5_known.calls k  false _ A4.out).mono ?_); rintro e w33 ⟨rfl, hb⟩; have n0_ := Aside0.mk (below_step (by repeat (first | (with_reducible first | exact HB.out | apply below_alloc | apply pw_below_drewN | apply below_drew1) | exact HB.out)) hb); clear HB; have HB := n0_; clear n0_; (try clear hb); (try clear hb2); (try clear hk); (try clear hi)))
    repeat (go_quiet (first | (go_at_call 12; (with_reducible refine (scrimlaw5_known.calls k  false _ A4.out).mono ?_); rintro e w33 ⟨rfl, hb⟩; have n0_ := Aside0.mk (below_step (by repeat (first | (with_reducible first | exact HB.out | apply below_alloc | apply pw_below_drewN | apply below_drew1) | exact HB.out)) hb); clear HB; have HB := n0_; clear n0_; (try clear hb); (try clear hb2); (try clear hk); (try clear hi))); try go_wp2_with (first | (go_at_call 12; (with_reducible refine (scrimlaw5_known.calls k  false _ A4.out).mono ?_); rintro e w33 ⟨rfl, hb⟩; have n0_ := Aside0.mk (below_step (by repeat (first | (with_reducible first | exact HB.out | apply below_alloc | apply pw_below_drewN | apply below_drew1) | exact HB.out)) hb); clear HB; have HB := n0_; clear n0_; (try clear hb); (try clear hb2); (try clear hk); (try clear hi))))
    go_ret
    exact ⟨by first | rfl | (simp [errW_none, errW_some] <;> rfl) | (simp [*, errW_none, errW_some] <;> rfl), by repeat (first | (with_reducible first | exact HB.out | apply below_alloc | apply pw_below_drewN | apply below_drew1) | exact HB.out)⟩

/-- THE ONE PURE STATEMENT of scrimlaw5_EchoParts: yours. -/
def scrimlaw5_EchoParts.Pure : Prop := ∀ (l0 : List Int) (l1 : List Int) (a2 : Int), l0.length ≤ maxLen → l0.length * 1 ≤ 140737488351232 → (∀ x ∈ l0, (Lit.int .u8 x).wf = true) → l1.length ≤ maxLen → l1.length * 1 ≤ 140737488351232 → (∀ x ∈ l1, (Lit.int .u8 x).wf = true) → (Lit.int .i64 a2).wf = true → ∃ k, scrimlaw5_EchoParts.f k l0 l1 a2 = some true
theorem scrimlaw5_EchoParts.walk (P : scrimlaw5_EchoParts.Pure) (a0 : Option Addr) (len0 cap0 : Nat) (z0 : List Int) (a1 : Option Addr) (len1 cap1 : Nat) (z1 : List Int) (a2 : Int) (w : World) (w0 : (a0 = none ∧ len0 = 0 ∧ cap0 = 0 ∧ z0 = []) ∨ ∃ x, a0 = some x ∧ len0 ≤ cap0 ∧ cap0 ≤ maxLen ∧ z0.length = cap0 ∧ (∀ i, i < z0.length → w.cell? (x.add i) = some (.int .u8 (z0.getD i 0))) ∧ ∀ n ∈ z0, (Lit.int .u8 n).wf = true) (y0 : len0 * 1 ≤ 140737488351232) (w1 : (a1 = none ∧ len1 = 0 ∧ cap1 = 0 ∧ z1 = []) ∨ ∃ x, a1 = some x ∧ len1 ≤ cap1 ∧ cap1 ≤ maxLen ∧ z1.length = cap1 ∧ (∀ i, i < z1.length → w.cell? (x.add i) = some (.int .u8 (z1.getD i 0))) ∧ ∀ n ∈ z1, (Lit.int .u8 n).wf = true) (y1 : len1 * 1 ≤ 140737488351232) (w2 : (Lit.int .i64 a2).wf = true) :
    Calls Try.prog 5 #[.slice a0 len0 cap0, .slice a1 len1 cap1, .int .i64 a2] w fun e w' => e = .returned (.bool true) ∧ Below w.heap.size w w' := by
  obtain ⟨l0, rfl, hr0, hm0, hw0, hc0⟩ := ReadsInt.ofRowC w0
  obtain ⟨l1, rfl, hr1, hm1, hw1, hc1⟩ := ReadsInt.ofRowC w1
  obtain ⟨k, h⟩ := P l0 l1 a2 hm0 y0 hw0 hm1 y1 hw1 w2
  refine (scrimlaw5_EchoParts.calls k _ _ l0 _ _ l1 a2 true w (Kd.C_of_reads (d := (0 : Int)) (h1 := fun _ => rfl) hr0) hc0 (Kd.C_of_reads (d := (0 : Int)) (h1 := fun _ => rfl) hr1) hc1 h).mono ?_
  rintro e w' ⟨rfl, hd⟩
  exact ⟨rfl, hd⟩

end Go.Proofs.Yteadclhlipcfpaa.MEchoParts
