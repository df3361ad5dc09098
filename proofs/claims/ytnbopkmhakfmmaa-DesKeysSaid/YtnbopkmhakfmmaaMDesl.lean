/- A walk: each Go function that is named here answers what its plain function answers. Conditions: its arguments are read as lists and numbers. -/
import Derived.Test.YtnbopkmhakfmmaaMDesx0
import Derived.Test.YtnbopkmhakfmmaaMDesj
namespace Go.Proofs.Ytnbopkmhakfmmaa.MDes
open Go.RowKit Go.Proofs.YtnbopkmhakfmmaaW.PrintWords Go.Proofs.YtnbopkmhakfmmaaW.PrintLast Go.Proofs.YtnbopkmhakfmmaaW.PrintMore
attribute [local go_sem] max2_int min2_int max_two min_two max_three min_three max_four min_four   -- for this text's walks alone
set_option linter.unusedVariables false
set_option linter.unusedSimpArgs false

/-! ### scrimref6_wider: function 35 -/
def scrimref6_wider.l0 : Nat → List Int → Int → Option (List Int)
  | 0, _, _ => none
  | k + 1, x1, x2 => if x2 < 48 then (if x1.length < 17592186044416 then (scrimref6_wider.l0 k (x1 ++ [wrap64 ((Int.tmod (wrap64 ((wrap64 ((wrap64 (4 * (wrap64 (Int.tdiv x2 6)))) + (Int.tmod x2 6))) + 31)) 32) + 1)]) (wrap64 (x2 + 1))) else (none)) else (some x1)
def scrimref6_wider.f (k : Nat)  : Option (List Int) := scrimref6_wider.l0 k ([] : List Int) 0
theorem scrimref6_wider.mono_l : ∀ k, (∀ y0 y1, LeO (scrimref6_wider.l0 k y0 y1) (scrimref6_wider.l0 (k + 1) y0 y1))
  | 0 => fun _ _ r h => by simp [scrimref6_wider.l0] at h
  | k + 1 => by
    have ih0 := scrimref6_wider.mono_l k
    · intro y0 y1
      unfold scrimref6_wider.l0
      repeat' first
      | (with_reducible exact ih0 _ _)
      | (with_reducible exact LeO.refl _)
      | (with_reducible exact LeO.none _)
      | (with_reducible refine LeO.ite ?_ ?_)
      | (with_reducible refine LeO.bind ?_ (fun _ => ?_))
      | exact ih0 _ _
      | exact LeO.none _
      | refine LeO.ite ?_ ?_
      | refine LeO.bind ?_ (fun _ => ?_)
theorem scrimref6_wider.mono : ∀ k, LeO (scrimref6_wider.f k ) (scrimref6_wider.f (k + 1) ) := by
  intro  k
  have ih0 := scrimref6_wider.mono_l k
  unfold scrimref6_wider.f
  repeat' first
      | (with_reducible exact ih0 _ _)
      | (with_reducible exact LeO.refl _)
      | (with_reducible exact LeO.none _)
      | (with_reducible refine LeO.ite ?_ ?_)
      | (with_reducible refine LeO.bind ?_ (fun _ => ?_))
      | exact ih0 _ _
      | exact LeO.none _
      | refine LeO.ite ?_ ?_
      | refine LeO.bind ?_ (fun _ => ?_)
set_option maxHeartbeats 8000000 in
set_option maxRecDepth 100000 in
theorem scrimref6_wider.calls (k : Nat)  (r : List Int) (w : World) (h : scrimref6_wider.f k  = some r) :
    Calls Try.prog 35 #[] w fun e w' => ∃ v0_ : Value, e = .returned (v0_) ∧ Kd.R (Kd.int .i64) 3 w' w.heap.size (fun _ => True) v0_ r ∧ Below w.heap.size w w' := by
  have HB := Aside0.mk (Below.refl w.heap.size w)
  have H : (scrimref6_wider.l0 k ([] : List Int) 0) = some r := h
  clear h
  have H' := Aside0.mk H
  clear H
  go_enter Try.func35, Try.ntmps35
  go_wp2
  go_loopg [1, 2] k (fun kq v1 v2 w' => ∃ (x1_1 : List Int) (x2_1 : Int), v2 = .int .i64 x2_1 ∧ Aside0 (scrimref6_wider.l0 kq x1_1 x2_1 = some r) ∧ Aside0 (kq ≤ k) ∧ Aside0 (Kd.R (Kd.int .i64) 3 w' w.heap.size (fun _ => True) v1 x1_1) ∧ Aside0 (Below w.heap.size w w'))
  case atStart => exact ⟨(([] : List Int)), (0), (by first | rfl | (simp; done) | (simp [*]; done)), H', ⟨Nat.le_refl _⟩, ⟨by first | exact Kd.R_nil _ _ _ _ _ | exact Kd.N_nil _ _ _ _ _ | exact Kd.V_nil _ _ _ _ _ | exact Kd.Q_nil _ _ _ _ _ | exact Kd.S_nil _ _ _ _ _⟩, ⟨by repeat (first | (with_reducible first | exact HB.out | apply below_alloc | apply pw_below_drewN | apply below_drew1) | exact HB.out)⟩⟩
  case round =>
    clear H'
    obtain ⟨x1_1, x2_1, rfl, HA, HK1, HO_1, HB⟩ := hrel
    cases gk with
    | zero => exact absurd HA.out (by simp [scrimref6_wider.l0])
    | succ k1 =>
      have H := HA.out
      clear HA
      simp only [scrimref6_wider.l0] at H
      by_cases c1 : x2_1 < 48
      · rw [if_pos c1] at H
        have c1b0 : decide (x2_1 < 48) = true := decide_eq_true c1
        clear c1
        by_cases c2 : x1_1.length < 17592186044416
        rotate_left
        · rw [if_neg c2] at H
          exact absurd H (by simp)
        rw [if_pos c2] at H
        have LMc2 := Aside0.mk c2
        clear c2
        obtain ⟨y378, hy378⟩ : ∃ y_ : List Int, y_ = (x1_1 ++ [wrap64 ((Int.tmod (wrap64 ((wrap64 ((wrap64 (4 * (wrap64 (Int.tdiv x2_1 6)))) + (Int.tmod x2_1 6))) + 31)) 32) + 1)]) := ⟨_, rfl⟩
        replace H : (scrimref6_wider.l0 k1 y378 (wrap64 (x2_1 + 1))) = some r := by first | (rw [hy378]; with_reducible exact H) | (have H2_ := (Option.bind_some _ _).symm.trans H; rw [hy378]; with_reducible exact H2_) | (have H2_ := (Option.bind_some _ _).symm.trans H; with_reducible exact H2_) | with_reducible exact H | (rw [hy378]; exact H) | exact H
        have Ny378 := Aside0.mk hy378
        clear hy378
        have H' := Aside0.mk H
        clear H
        go_wp2_with (first | ((with_reducible refine gate_builtin (b := .append) (xs := #[.tmp 7, .tmp 17]) rfl ?_); at_builtin; refine Kd.R_append (Kd.int .i64) (w0 := w) w.heap.size rfl (.tmp 7) (.tmp 17) 46 3 (.int .i64 0) 8 rfl Try.underlying46 info3 rfl (by decide) (by omega) u1 x1_1 (wrap64 ((Int.tmod (wrap64 ((wrap64 ((wrap64 (4 * (wrap64 (Int.tdiv x2_1 6)))) + (Int.tmod x2_1 6))) + 31)) 32) + 1)) [.int .i64 (wrap64 ((Int.tmod (wrap64 ((wrap64 ((wrap64 (4 * (wrap64 (Int.tdiv x2_1 6)))) + (Int.tmod x2_1 6))) + 31)) 32) + 1))] (fun _ => True) (fun _ => False) rfl rfl ?aP (fun _ hk => hk.elim) ?aF ?aO ?aB ?aS ?aL ?_; (case aP => exact rfl); (case aB => exact HB.out); (case aF => exact (fun _ _ => trivial)); (case aO => exact HO_1.out); (case aS => exact (below_size HB.out)); (case aL => have := LMc2.out; omega); intro v379 w3 ho hb hg hat; rw [← Ny378.out] at ho; have n0_ := Aside0.mk (hb); have n1_ := Aside0.mk (ho); clear HB; clear HO_1; have HB := n0_; have HO380 := n1_; clear n0_ n1_; clear ho hb hg hat))
        go_roundg k1
        case measure => have := HK1.out; omega
        case rel => exact ⟨(y378), (wrap64 (x2_1 + 1)), (by first | rfl | (simp; done) | (simp [*]; done)), H', ⟨by have := HK1.out; omega⟩, ⟨by (with_reducible repeat (first | apply Kd.R_alloc | apply Kd.R_drewN | apply Kd.R_drew)); exact HO380.out⟩, ⟨by repeat (first | (with_reducible first | exact HB.out | apply below_alloc | apply pw_below_drewN | apply below_drew1) | exact HB.out)⟩⟩
      · rw [if_neg c1] at H
        have c1b0 : decide (x2_1 < 48) = false := decide_eq_false c1
        clear c1
        obtain rfl := Option.some.inj H
        go_wp2
        go_ret
        exact ⟨_, by first | rfl | (simp [errW_none, errW_some] <;> rfl) | (simp [*, errW_none, errW_some] <;> rfl), by (with_reducible repeat (first | apply Kd.R_alloc | apply Kd.R_drewN | apply Kd.R_drew)); exact HO_1.out, by repeat (first | (with_reducible first | exact HB.out | apply below_alloc | apply pw_below_drewN | apply below_drew1) | exact HB.out)⟩

/-! ### scrimref6_digit: function 45 -/
def scrimref6_digit.f (a0 : Int) : Option (Int) := if a0 ≥ 65 then (some (((a0 - 65) % 256) + 10)) else (some ((a0 - 48) % 256))
set_option maxHeartbeats 8000000 in
set_option maxRecDepth 100000 in
theorem scrimref6_digit.calls (a0 : Int) (r : Int) (w : World) (h : scrimref6_digit.f a0 = some r) :
    Calls Try.prog 45 #[.int .u8 a0] w fun e w' => e = .returned (.int .i64 r) ∧ Drawn0 w w' := by
  have H : (if a0 ≥ 65 then (some (((a0 - 65) % 256) + 10)) else (some ((a0 - 48) % 256))) = some r := h
  clear h
  by_cases c2 : a0 ≥ 65
  · rw [if_pos c2] at H
    have c2b0 : decide (65 ≤ a0) = true := decide_eq_true c2
    clear c2
    obtain rfl := Option.some.inj H
    go_enter Try.func45, Try.ntmps45
    go_wp2
    go_ret
    exact ⟨by first | rfl | (simp; done) | (simp [*]; done), by repeat (first | exact Drawn0.refl _ | apply Drawn0.step)⟩
  · rw [if_neg c2] at H
    have c2b0 : decide (65 ≤ a0) = false := decide_eq_false c2
    clear c2
    obtain rfl := Option.some.inj H
    go_enter Try.func45, Try.ntmps45
    go_wp2
    go_ret
    exact ⟨by first | rfl | (simp; done) | (simp [*]; done), by repeat (first | exact Drawn0.refl _ | apply Drawn0.step)⟩

/-! ### scrimref6_At: function 37 -/
def scrimref6_At.f (a0 : ByteArray) (a1 : Int) : Option (Int) := if 0 ≤ a1 then (if a1 < (a0.size : Int) then ((scrimref6_digit.f (bt a0 a1)).bind fun t381 => (some t381)) else (none)) else (none)
set_option maxHeartbeats 8000000 in
set_option maxRecDepth 100000 in
theorem scrimref6_At.calls (a0 : ByteArray) (a1 : Int) (r : Int) (w : World) (h : scrimref6_At.f a0 a1 = some r) :
    Calls Try.prog 37 #[.string a0, .int .i64 a1] w fun e w' => e = .returned (.int .i64 r) ∧ Drawn0 w w' := by
  have H : (if 0 ≤ a1 then (if a1 < (a0.size : Int) then ((scrimref6_digit.f (bt a0 a1)).bind fun t381 => (some t381)) else (none)) else (none)) = some r := h
  clear h
  by_cases c3 : 0 ≤ a1
  · rw [if_pos c3] at H
    have c3b0 : decide (0 ≤ a1) = true := decide_eq_true c3
    clear c3
    by_cases c4 : a1 < (a0.size : Int)
    rotate_left
    · rw [if_neg c4] at H
      exact absurd H (by simp)
    rw [if_pos c4] at H
    have c4b0 : decide (a1 < (a0.size : Int)) = true := decide_eq_true c4
    clear c4
    replace H := Option.bind_eq_some_iff.mp H
    obtain ⟨t381, A60, H⟩ := H
    replace H : (some t381) = some r := H
    have A6 := Aside0.mk A60
    clear A60
    obtain rfl := Option.some.inj H
    have p5 : 0 ≤ (a1 : Int) := of_decide_eq_true (by first | (with_reducible assumption) | assumption)
    have q5 : a1 < (a0.size : Int) := of_decide_eq_true (by first | (with_reducible assumption) | assumption)
    have hx5 := bt_at a0 a1
    replace p5 := eq_true p5
    replace q5 := eq_true q5
    go_enter Try.func37, Try.ntmps37
    go_wp2_with (first | ((with_reducible refine gate_callee (f := 45) rfl ?_); refine goesL_ (some 8) rfl rfl Try.func45 (by kernel_rfl) rfl #[.int .u8 (bt a0 a1)] rfl (by (try simp only [List.map_toArray, List.map_cons, List.map_nil]); first | done | rfl | (simp only [List.length_drop, List.length_take]; rfl)) ?_; (with_reducible refine (scrimref6_digit.calls (bt a0 a1) t381 _ A6.out).mono ?_); rintro e w' ⟨rfl, ⟨nd, rfl⟩⟩; refine ⟨_, rfl, ?_⟩))
    go_ret
    exact ⟨by first | rfl | (simp; done) | (simp [*]; done), by repeat (first | exact Drawn0.refl _ | apply Drawn0.step)⟩
  · rw [if_neg c3] at H
    exact absurd H (by simp)

/-! ### scrimref6_rows: function 38 -/
def scrimref6_rows.f (a0 : Int) : Option (List ByteArray) := if a0 = 0 then (some (([(⟨#[69, 52, 68, 49, 50, 70, 66, 56, 51, 65, 54, 67, 53, 57, 48, 55]⟩ : ByteArray), (⟨#[48, 70, 55, 52, 69, 50, 68, 49, 65, 54, 67, 66, 57, 53, 51, 56]⟩ : ByteArray), (⟨#[52, 49, 69, 56, 68, 54, 50, 66, 70, 67, 57, 55, 51, 65, 53, 48]⟩ : ByteArray), (⟨#[70, 67, 56, 50, 52, 57, 49, 55, 53, 66, 51, 69, 65, 48, 54, 68]⟩ : ByteArray)] : List ByteArray))) else (if a0 = 1 then (some (([(⟨#[70, 49, 56, 69, 54, 66, 51, 52, 57, 55, 50, 68, 67, 48, 53, 65]⟩ : ByteArray), (⟨#[51, 68, 52, 55, 70, 50, 56, 69, 67, 48, 49, 65, 54, 57, 66, 53]⟩ : ByteArray), (⟨#[48, 69, 55, 66, 65, 52, 68, 49, 53, 56, 67, 54, 57, 51, 50, 70]⟩ : ByteArray), (⟨#[68, 56, 65, 49, 51, 70, 52, 50, 66, 54, 55, 67, 48, 53, 69, 57]⟩ : ByteArray)] : List ByteArray))) else (if a0 = 2 then (some (([(⟨#[65, 48, 57, 69, 54, 51, 70, 53, 49, 68, 67, 55, 66, 52, 50, 56]⟩ : ByteArray), (⟨#[68, 55, 48, 57, 51, 52, 54, 65, 50, 56, 53, 69, 67, 66, 70, 49]⟩ : ByteArray), (⟨#[68, 54, 52, 57, 56, 70, 51, 48, 66, 49, 50, 67, 53, 65, 69, 55]⟩ : ByteArray), (⟨#[49, 65, 68, 48, 54, 57, 56, 55, 52, 70, 69, 51, 66, 53, 50, 67]⟩ : ByteArray)] : List ByteArray))) else (if a0 = 3 then (some (([(⟨#[55, 68, 69, 51, 48, 54, 57, 65, 49, 50, 56, 53, 66, 67, 52, 70]⟩ : ByteArray), (⟨#[68, 56, 66, 53, 54, 70, 48, 51, 52, 55, 50, 67, 49, 65, 69, 57]⟩ : ByteArray), (⟨#[65, 54, 57, 48, 67, 66, 55, 68, 70, 49, 51, 69, 53, 50, 56, 52]⟩ : ByteArray), (⟨#[51, 70, 48, 54, 65, 49, 68, 56, 57, 52, 53, 66, 67, 55, 50, 69]⟩ : ByteArray)] : List ByteArray))) else (if a0 = 4 then (some (([(⟨#[50, 67, 52, 49, 55, 65, 66, 54, 56, 53, 51, 70, 68, 48, 69, 57]⟩ : ByteArray), (⟨#[69, 66, 50, 67, 52, 55, 68, 49, 53, 48, 70, 65, 51, 57, 56, 54]⟩ : ByteArray), (⟨#[52, 50, 49, 66, 65, 68, 55, 56, 70, 57, 67, 53, 54, 51, 48, 69]⟩ : ByteArray), (⟨#[66, 56, 67, 55, 49, 69, 50, 68, 54, 70, 48, 57, 65, 52, 53, 51]⟩ : ByteArray)] : List ByteArray))) else (if a0 = 5 then (some (([(⟨#[67, 49, 65, 70, 57, 50, 54, 56, 48, 68, 51, 52, 69, 55, 53, 66]⟩ : ByteArray), (⟨#[65, 70, 52, 50, 55, 67, 57, 53, 54, 49, 68, 69, 48, 66, 51, 56]⟩ : ByteArray), (⟨#[57, 69, 70, 53, 50, 56, 67, 51, 55, 48, 52, 65, 49, 68, 66, 54]⟩ : ByteArray), (⟨#[52, 51, 50, 67, 57, 53, 70, 65, 66, 69, 49, 55, 54, 48, 56, 68]⟩ : ByteArray)] : List ByteArray))) else (if a0 = 6 then (some (([(⟨#[52, 66, 50, 69, 70, 48, 56, 68, 51, 67, 57, 55, 53, 65, 54, 49]⟩ : ByteArray), (⟨#[68, 48, 66, 55, 52, 57, 49, 65, 69, 51, 53, 67, 50, 70, 56, 54]⟩ : ByteArray), (⟨#[49, 52, 66, 68, 67, 51, 55, 69, 65, 70, 54, 56, 48, 53, 57, 50]⟩ : ByteArray), (⟨#[54, 66, 68, 56, 49, 52, 65, 55, 57, 53, 48, 70, 69, 50, 51, 67]⟩ : ByteArray)] : List ByteArray))) else (some (([(⟨#[68, 50, 56, 52, 54, 70, 66, 49, 65, 57, 51, 69, 53, 48, 67, 55]⟩ : ByteArray), (⟨#[49, 70, 68, 56, 65, 51, 55, 52, 67, 53, 54, 66, 48, 69, 57, 50]⟩ : ByteArray), (⟨#[55, 66, 52, 49, 57, 67, 69, 50, 48, 54, 65, 68, 70, 51, 53, 56]⟩ : ByteArray), (⟨#[50, 49, 69, 55, 52, 65, 56, 68, 70, 67, 57, 48, 51, 53, 54, 66]⟩ : ByteArray)] : List ByteArray)))))))))
set_option maxHeartbeats 8000000 in
set_option maxRecDepth 100000 in
theorem scrimref6_rows.calls (a0 : Int) (r : List ByteArray) (w : World) (h : scrimref6_rows.f a0 = some r) :
    Calls Try.prog 38 #[.int .i64 a0] w fun e w' => ∃ v0_ : Value, e = .returned (v0_) ∧ Kd.R Kd.string 9 w' w.heap.size (fun _ => True) v0_ r ∧ Below w.heap.size w w' := by
  have HB := Aside0.mk (Below.refl w.heap.size w)
  have H : (if a0 = 0 then (some (([(⟨#[69, 52, 68, 49, 50, 70, 66, 56, 51, 65, 54, 67, 53, 57, 48, 55]⟩ : ByteArray), (⟨#[48, 70, 55, 52, 69, 50, 68, 49, 65, 54, 67, 66, 57, 53, 51, 56]⟩ : ByteArray), (⟨#[52, 49, 69, 56, 68, 54, 50, 66, 70, 67, 57, 55, 51, 65, 53, 48]⟩ : ByteArray), (⟨#[70, 67, 56, 50, 52, 57, 49, 55, 53, 66, 51, 69, 65, 48, 54, 68]⟩ : ByteArray)] : List ByteArray))) else (if a0 = 1 then (some (([(⟨#[70, 49, 56, 69, 54, 66, 51, 52, 57, 55, 50, 68, 67, 48, 53, 65]⟩ : ByteArray), (⟨#[51, 68, 52, 55, 70, 50, 56, 69, 67, 48, 49, 65, 54, 57, 66, 53]⟩ : ByteArray), (⟨#[48, 69, 55, 66, 65, 52, 68, 49, 53, 56, 67, 54, 57, 51, 50, 70]⟩ : ByteArray), (⟨#[68, 56, 65, 49, 51, 70, 52, 50, 66, 54, 55, 67, 48, 53, 69, 57]⟩ : ByteArray)] : List ByteArray))) else (if a0 = 2 then (some (([(⟨#[65, 48, 57, 69, 54, 51, 70, 53, 49, 68, 67, 55, 66, 52, 50, 56]⟩ : ByteArray), (⟨#[68, 55, 48, 57, 51, 52, 54, 65, 50, 56, 53, 69, 67, 66, 70, 49]⟩ : ByteArray), (⟨#[68, 54, 52, 57, 56, 70, 51, 48, 66, 49, 50, 67, 53, 65, 69, 55]⟩ : ByteArray), (⟨#[49, 65, 68, 48, 54, 57, 56, 55, 52, 70, 69, 51, 66, 53, 50, 67]⟩ : ByteArray)] : List ByteArray))) else (if a0 = 3 then (some (([(⟨#[55, 68, 69, 51, 48, 54, 57, 65, 49, 50, 56, 53, 66, 67, 52, 70]⟩ : ByteArray), (⟨#[68, 56, 66, 53, 54, 70, 48, 51, 52, 55, 50, 67, 49, 65, 69, 57]⟩ : ByteArray), (⟨#[65, 54, 57, 48, 67, 66, 55, 68, 70, 49, 51, 69, 53, 50, 56, 52]⟩ : ByteArray), (⟨#[51, 70, 48, 54, 65, 49, 68, 56, 57, 52, 53, 66, 67, 55, 50, 69]⟩ : ByteArray)] : List ByteArray))) else (if a0 = 4 then (some (([(⟨#[50, 67, 52, 49, 55, 65, 66, 54, 56, 53, 51, 70, 68, 48, 69, 57]⟩ : ByteArray), (⟨#[69, 66, 50, 67, 52, 55, 68, 49, 53, 48, 70, 65, 51, 57, 56, 54]⟩ : ByteArray), (⟨#[52, 50, 49, 66, 65, 68, 55, 56, 70, 57, 67, 53, 54, 51, 48, 69]⟩ : ByteArray), (⟨#[66, 56, 67, 55, 49, 69, 50, 68, 54, 70, 48, 57, 65, 52, 53, 51]⟩ : ByteArray)] : List ByteArray))) else (if a0 = 5 then (some (([(⟨#[67, 49, 65, 70, 57, 50, 54, 56, 48, 68, 51, 52, 69, 55, 53, 66]⟩ : ByteArray), (⟨#[65, 70, 52, 50, 55, 67, 57, 53, 54, 49, 68, 69, 48, 66, 51, 56]⟩ : ByteArray), (⟨#[57, 69, 70, 53, 50, 56, 67, 51, 55, 48, 52, 65, 49, 68, 66, 54]⟩ : ByteArray), (⟨#[52, 51, 50, 67, 57, 53, 70, 65, 66, 69, 49, 55, 54, 48, 56, 68]⟩ : ByteArray)] : List ByteArray))) else (if a0 = 6 then (some (([(⟨#[52, 66, 50, 69, 70, 48, 56, 68, 51, 67, 57, 55, 53, 65, 54, 49]⟩ : ByteArray), (⟨#[68, 48, 66, 55, 52, 57, 49, 65, 69, 51, 53, 67, 50, 70, 56, 54]⟩ : ByteArray), (⟨#[49, 52, 66, 68, 67, 51, 55, 69, 65, 70, 54, 56, 48, 53, 57, 50]⟩ : ByteArray), (⟨#[54, 66, 68, 56, 49, 52, 65, 55, 57, 53, 48, 70, 69, 50, 51, 67]⟩ : ByteArray)] : List ByteArray))) else (some (([(⟨#[68, 50, 56, 52, 54, 70, 66, 49, 65, 57, 51, 69, 53, 48, 67, 55]⟩ : ByteArray), (⟨#[49, 70, 68, 56, 65, 51, 55, 52, 67, 53, 54, 66, 48, 69, 57, 50]⟩ : ByteArray), (⟨#[55, 66, 52, 49, 57, 67, 69, 50, 48, 54, 65, 68, 70, 51, 53, 56]⟩ : ByteArray), (⟨#[50, 49, 69, 55, 52, 65, 56, 68, 70, 67, 57, 48, 51, 53, 54, 66]⟩ : ByteArray)] : List ByteArray)))))))))) = some r := h
  clear h
  by_cases c2 : a0 = 0
  · rw [if_pos c2] at H
    have c2b0 : (a0 == 0) = true := beq_iff_eq.mpr c2
    have c2b1 : (a0 != 0) = false := bne_eq_false_iff_eq.mpr c2
    clear c2
    obtain ⟨y382, hy382⟩ : ∃ y_ : List ByteArray, y_ = (([(⟨#[69, 52, 68, 49, 50, 70, 66, 56, 51, 65, 54, 67, 53, 57, 48, 55]⟩ : ByteArray), (⟨#[48, 70, 55, 52, 69, 50, 68, 49, 65, 54, 67, 66, 57, 53, 51, 56]⟩ : ByteArray), (⟨#[52, 49, 69, 56, 68, 54, 50, 66, 70, 67, 57, 55, 51, 65, 53, 48]⟩ : ByteArray), (⟨#[70, 67, 56, 50, 52, 57, 49, 55, 53, 66, 51, 69, 65, 48, 54, 68]⟩ : ByteArray)] : List ByteArray)) := ⟨_, rfl⟩
    replace H : (some y382) = some r := by first | (rw [hy382]; with_reducible exact H) | (have H2_ := (Option.bind_some _ _).symm.trans H; rw [hy382]; with_reducible exact H2_) | (have H2_ := (Option.bind_some _ _).symm.trans H; with_reducible exact H2_) | with_reducible exact H | (rw [hy382]; exact H) | exact H
    have Ny382 := Aside0.mk hy382
    clear hy382
    obtain rfl := Option.some.inj H
    go_enter Try.func38, Try.ntmps38
    go_wp2_with (first | ((with_reducible refine gate_dst (N := 6) rfl ?_); refine Kd.R_lit Kd.string _ 9 ?hg (N := 6) ?hd (xs := ([(⟨#[69, 52, 68, 49, 50, 70, 66, 56, 51, 65, 54, 67, 53, 57, 48, 55]⟩ : ByteArray), (⟨#[48, 70, 55, 52, 69, 50, 68, 49, 65, 54, 67, 66, 57, 53, 51, 56]⟩ : ByteArray), (⟨#[52, 49, 69, 56, 68, 54, 50, 66, 70, 67, 57, 55, 51, 65, 53, 48]⟩ : ByteArray), (⟨#[70, 67, 56, 50, 52, 57, 49, 55, 53, 66, 51, 69, 65, 48, 54, 68]⟩ : ByteArray)] : List ByteArray)) (inner := [.string (⟨#[69, 52, 68, 49, 50, 70, 66, 56, 51, 65, 54, 67, 53, 57, 48, 55]⟩ : ByteArray), .string (⟨#[48, 70, 55, 52, 69, 50, 68, 49, 65, 54, 67, 66, 57, 53, 51, 56]⟩ : ByteArray), .string (⟨#[52, 49, 69, 56, 68, 54, 50, 66, 70, 67, 57, 55, 51, 65, 53, 48]⟩ : ByteArray), .string (⟨#[70, 67, 56, 50, 52, 57, 49, 55, 53, 66, 51, 69, 65, 48, 54, 68]⟩ : ByteArray)]) (ok := fun _ => True) (okp := fun _ => True) ?hr ?hp (fun _ hk => hk) trivial (Below.refl _ _) (Nat.le_refl _) (by simp) ?_; (case hd => rfl); (case hg => rfl); (case hr => first | (go_simp; done) | (go_simp; rfl)); (case hp => exact (Reps.one (show Kd.M Kd.string _ _ _ (⟨#[69, 52, 68, 49, 50, 70, 66, 56, 51, 65, 54, 67, 53, 57, 48, 55]⟩ : ByteArray) [.string (⟨#[69, 52, 68, 49, 50, 70, 66, 56, 51, 65, 54, 67, 53, 57, 48, 55]⟩ : ByteArray)] from rfl) (Reps.one (show Kd.M Kd.string _ _ _ (⟨#[48, 70, 55, 52, 69, 50, 68, 49, 65, 54, 67, 66, 57, 53, 51, 56]⟩ : ByteArray) [.string (⟨#[48, 70, 55, 52, 69, 50, 68, 49, 65, 54, 67, 66, 57, 53, 51, 56]⟩ : ByteArray)] from rfl) (Reps.one (show Kd.M Kd.string _ _ _ (⟨#[52, 49, 69, 56, 68, 54, 50, 66, 70, 67, 57, 55, 51, 65, 53, 48]⟩ : ByteArray) [.string (⟨#[52, 49, 69, 56, 68, 54, 50, 66, 70, 67, 57, 55, 51, 65, 53, 48]⟩ : ByteArray)] from rfl) (Reps.one (show Kd.M Kd.string _ _ _ (⟨#[70, 67, 56, 50, 52, 57, 49, 55, 53, 66, 51, 69, 65, 48, 54, 68]⟩ : ByteArray) [.string (⟨#[70, 67, 56, 50, 52, 57, 49, 55, 53, 66, 51, 69, 65, 48, 54, 68]⟩ : ByteArray)] from rfl) (Reps.none _ _)))))); intro v383 w3 ho4 hb hg_ hnew_; clear hg_ hnew_; (first | rw [← Ny382.out] at ho4 | (simp only [Int.reduceToNat] at ho4; rw [← Ny382.out] at ho4)); have n0_ := Aside0.mk (Kd.R_lower ho4 (below_size HB.out)); have n1_ := Aside0.mk (below_step HB.out hb); clear HB; have HO384 := n0_; have HB := n1_; clear n0_ n1_; clear hb ho4))
    go_ret
    exact ⟨_, by first | rfl | (simp [errW_none, errW_some] <;> rfl) | (simp [*, errW_none, errW_some] <;> rfl), by (with_reducible repeat (first | apply Kd.R_alloc | apply Kd.R_drewN | apply Kd.R_drew)); exact HO384.out, by repeat (first | (with_reducible first | exact HB.out | apply below_alloc | apply pw_below_drewN | apply below_drew1) | exact HB.out)⟩
  · rw [if_neg c2] at H
    have c2b0 : (a0 == 0) = false := beq_eq_false_iff_ne.mpr c2
    have c2b1 : (a0 != 0) = true := bne_iff_ne.mpr c2
    by_cases c5 : a0 = 1
    · rw [if_pos c5] at H
      have c5b0 : (a0 == 1) = true := beq_iff_eq.mpr c5
      have c5b1 : (a0 != 1) = false := bne_eq_false_iff_eq.mpr c5
      clear c5
      obtain ⟨y385, hy385⟩ : ∃ y_ : List ByteArray, y_ = (([(⟨#[70, 49, 56, 69, 54, 66, 51, 52, 57, 55, 50, 68, 67, 48, 53, 65]⟩ : ByteArray), (⟨#[51, 68, 52, 55, 70, 50, 56, 69, 67, 48, 49, 65, 54, 57, 66, 53]⟩ : ByteArray), (⟨#[48, 69, 55, 66, 65, 52, 68, 49, 53, 56, 67, 54, 57, 51, 50, 70]⟩ : ByteArray), (⟨#[68, 56, 65, 49, 51, 70, 52, 50, 66, 54, 55, 67, 48, 53, 69, 57]⟩ : ByteArray)] : List ByteArray)) := ⟨_, rfl⟩
      replace H : (some y385) = some r := by first | (rw [hy385]; with_reducible exact H) | (have H2_ := (Option.bind_some _ _).symm.trans H; rw [hy385]; with_reducible exact H2_) | (have H2_ := (Option.bind_some _ _).symm.trans H; with_reducible exact H2_) | with_reducible exact H | (rw [hy385]; exact H) | exact H
      have Ny385 := Aside0.mk hy385
      clear hy385
      obtain rfl := Option.some.inj H
      go_enter Try.func38, Try.ntmps38
      go_wp2_with (first | ((with_reducible refine gate_dst (N := 9) rfl ?_); refine Kd.R_lit Kd.string _ 9 ?hg (N := 9) ?hd (xs := ([(⟨#[70, 49, 56, 69, 54, 66, 51, 52, 57, 55, 50, 68, 67, 48, 53, 65]⟩ : ByteArray), (⟨#[51, 68, 52, 55, 70, 50, 56, 69, 67, 48, 49, 65, 54, 57, 66, 53]⟩ : ByteArray), (⟨#[48, 69, 55, 66, 65, 52, 68, 49, 53, 56, 67, 54, 57, 51, 50, 70]⟩ : ByteArray), (⟨#[68, 56, 65, 49, 51, 70, 52, 50, 66, 54, 55, 67, 48, 53, 69, 57]⟩ : ByteArray)] : List ByteArray)) (inner := [.string (⟨#[70, 49, 56, 69, 54, 66, 51, 52, 57, 55, 50, 68, 67, 48, 53, 65]⟩ : ByteArray), .string (⟨#[51, 68, 52, 55, 70, 50, 56, 69, 67, 48, 49, 65, 54, 57, 66, 53]⟩ : ByteArray), .string (⟨#[48, 69, 55, 66, 65, 52, 68, 49, 53, 56, 67, 54, 57, 51, 50, 70]⟩ : ByteArray), .string (⟨#[68, 56, 65, 49, 51, 70, 52, 50, 66, 54, 55, 67, 48, 53, 69, 57]⟩ : ByteArray)]) (ok := fun _ => True) (okp := fun _ => True) ?hr ?hp (fun _ hk => hk) trivial (Below.refl _ _) (Nat.le_refl _) (by simp) ?_; (case hd => rfl); (case hg => rfl); (case hr => first | (go_simp; done) | (go_simp; rfl)); (case hp => exact (Reps.one (show Kd.M Kd.string _ _ _ (⟨#[70, 49, 56, 69, 54, 66, 51, 52, 57, 55, 50, 68, 67, 48, 53, 65]⟩ : ByteArray) [.string (⟨#[70, 49, 56, 69, 54, 66, 51, 52, 57, 55, 50, 68, 67, 48, 53, 65]⟩ : ByteArray)] from rfl) (Reps.one (show Kd.M Kd.string _ _ _ (⟨#[51, 68, 52, 55, 70, 50, 56, 69, 67, 48, 49, 65, 54, 57, 66, 53]⟩ : ByteArray) [.string (⟨#[51, 68, 52, 55, 70, 50, 56, 69, 67, 48, 49, 65, 54, 57, 66, 53]⟩ : ByteArray)] from rfl) (Reps.one (show Kd.M Kd.string _ _ _ (⟨#[48, 69, 55, 66, 65, 52, 68, 49, 53, 56, 67, 54, 57, 51, 50, 70]⟩ : ByteArray) [.string (⟨#[48, 69, 55, 66, 65, 52, 68, 49, 53, 56, 67, 54, 57, 51, 50, 70]⟩ : ByteArray)] from rfl) (Reps.one (show Kd.M Kd.string _ _ _ (⟨#[68, 56, 65, 49, 51, 70, 52, 50, 66, 54, 55, 67, 48, 53, 69, 57]⟩ : ByteArray) [.string (⟨#[68, 56, 65, 49, 51, 70, 52, 50, 66, 54, 55, 67, 48, 53, 69, 57]⟩ : ByteArray)] from rfl) (Reps.none _ _)))))); intro v386 w6 ho7 hb hg_ hnew_; clear hg_ hnew_; (first | rw [← Ny385.out] at ho7 | (simp only [Int.reduceToNat] at ho7; rw [← Ny385.out] at ho7)); have n0_ := Aside0.mk (Kd.R_lower ho7 (below_size HB.out)); have n1_ := Aside0.mk (below_step HB.out hb); clear HB; have HO387 := n0_; have HB := n1_; clear n0_ n1_; clear hb ho7))
      go_ret
      exact ⟨_, by first | rfl | (simp [errW_none, errW_some] <;> rfl) | (simp [*, errW_none, errW_some] <;> rfl), by (with_reducible repeat (first | apply Kd.R_alloc | apply Kd.R_drewN | apply Kd.R_drew)); exact HO387.out, by repeat (first | (with_reducible first | exact HB.out | apply below_alloc | apply pw_below_drewN | apply below_drew1) | exact HB.out)⟩
    · rw [if_neg c5] at H
      have c5b0 : (a0 == 1) = false := beq_eq_false_iff_ne.mpr c5
      have c5b1 : (a0 != 1) = true := bne_iff_ne.mpr c5
      by_cases c8 : a0 = 2
      · rw [if_pos c8] at H
        have c8b0 : (a0 == 2) = true := beq_iff_eq.mpr c8
        have c8b1 : (a0 != 2) = false := bne_eq_false_iff_eq.mpr c8
        clear c8
        obtain ⟨y388, hy388⟩ : ∃ y_ : List ByteArray, y_ = (([(⟨#[65, 48, 57, 69, 54, 51, 70, 53, 49, 68, 67, 55, 66, 52, 50, 56]⟩ : ByteArray), (⟨#[68, 55, 48, 57, 51, 52, 54, 65, 50, 56, 53, 69, 67, 66, 70, 49]⟩ : ByteArray), (⟨#[68, 54, 52, 57, 56, 70, 51, 48, 66, 49, 50, 67, 53, 65, 69, 55]⟩ : ByteArray), (⟨#[49, 65, 68, 48, 54, 57, 56, 55, 52, 70, 69, 51, 66, 53, 50, 67]⟩ : ByteArray)] : List ByteArray)) := ⟨_, rfl⟩
        replace H : (some y388) = some r := by first | (rw [hy388]; with_reducible exact H) | (have H2_ := (Option.bind_some _ _).symm.trans H; rw [hy388]; with_reducible exact H2_) | (have H2_ := (Option.bind_some _ _).symm.trans H; with_reducible exact H2_) | with_reducible exact H | (rw [hy388]; exact H) | exact H
        have Ny388 := Aside0.mk hy388
        clear hy388
        obtain rfl := Option.some.inj H
        go_enter Try.func38, Try.ntmps38
        go_wp2_with (first | ((with_reducible refine gate_dst (N := 12) rfl ?_); refine Kd.R_lit Kd.string _ 9 ?hg (N := 12) ?hd (xs := ([(⟨#[65, 48, 57, 69, 54, 51, 70, 53, 49, 68, 67, 55, 66, 52, 50, 56]⟩ : ByteArray), (⟨#[68, 55, 48, 57, 51, 52, 54, 65, 50, 56, 53, 69, 67, 66, 70, 49]⟩ : ByteArray), (⟨#[68, 54, 52, 57, 56, 70, 51, 48, 66, 49, 50, 67, 53, 65, 69, 55]⟩ : ByteArray), (⟨#[49, 65, 68, 48, 54, 57, 56, 55, 52, 70, 69, 51, 66, 53, 50, 67]⟩ : ByteArray)] : List ByteArray)) (inner := [.string (⟨#[65, 48, 57, 69, 54, 51, 70, 53, 49, 68, 67, 55, 66, 52, 50, 56]⟩ : ByteArray), .string (⟨#[68, 55, 48, 57, 51, 52, 54, 65, 50, 56, 53, 69, 67, 66, 70, 49]⟩ : ByteArray), .string (⟨#[68, 54, 52, 57, 56, 70, 51, 48, 66, 49, 50, 67, 53, 65, 69, 55]⟩ : ByteArray), .string (⟨#[49, 65, 68, 48, 54, 57, 56, 55, 52, 70, 69, 51, 66, 53, 50, 67]⟩ : ByteArray)]) (ok := fun _ => True) (okp := fun _ => True) ?hr ?hp (fun _ hk => hk) trivial (Below.refl _ _) (Nat.le_refl _) (by simp) ?_; (case hd => rfl); (case hg => rfl); (case hr => first | (go_simp; done) | (go_simp; rfl)); (case hp => exact (Reps.one (show Kd.M Kd.string _ _ _ (⟨#[65, 48, 57, 69, 54, 51, 70, 53, 49, 68, 67, 55, 66, 52, 50, 56]⟩ : ByteArray) [.string (⟨#[65, 48, 57, 69, 54, 51, 70, 53, 49, 68, 67, 55, 66, 52, 50, 56]⟩ : ByteArray)] from rfl) (Reps.one (show Kd.M Kd.string _ _ _ (⟨#[68, 55, 48, 57, 51, 52, 54, 65, 50, 56, 53, 69, 67, 66, 70, 49]⟩ : ByteArray) [.string (⟨#[68, 55, 48, 57, 51, 52, 54, 65, 50, 56, 53, 69, 67, 66, 70, 49]⟩ : ByteArray)] from rfl) (Reps.one (show Kd.M Kd.string _ _ _ (⟨#[68, 54, 52, 57, 56, 70, 51, 48, 66, 49, 50, 67, 53, 65, 69, 55]⟩ : ByteArray) [.string (⟨#[68, 54, 52, 57, 56, 70, 51, 48, 66, 49, 50, 67, 53, 65, 69, 55]⟩ : ByteArray)] from rfl) (Reps.one (show Kd.M Kd.string _ _ _ (⟨#[49, 65, 68, 48, 54, 57, 56, 55, 52, 70, 69, 51, 66, 53, 50, 67]⟩ : ByteArray) [.string (⟨#[49, 65, 68, 48, 54, 57, 56, 55, 52, 70, 69, 51, 66, 53, 50, 67]⟩ : ByteArray)] from rfl) (Reps.none _ _)))))); intro v389 w9 ho10 hb hg_ hnew_; clear hg_ hnew_; (first | rw [← Ny388.out] at ho10 | (simp only [Int.reduceToNat] at ho10; rw [← Ny388.out] at ho10)); have n0_ := Aside0.mk (Kd.R_lower ho10 (below_size HB.out)); have n1_ := Aside0.mk (below_step HB.out hb); clear HB; have HO390 := n0_; have HB := n1_; clear n0_ n1_; clear hb ho10))
        go_ret
        exact ⟨_, by first | rfl | (simp [errW_none, errW_some] <;> rfl) | (simp [*, errW_none, errW_some] <;> rfl), by (with_reducible repeat (first | apply Kd.R_alloc | apply Kd.R_drewN | apply Kd.R_drew)); exact HO390.out, by repeat (first | (with_reducible first | exact HB.out | apply below_alloc | apply pw_below_drewN | apply below_drew1) | exact HB.out)⟩
      · rw [if_neg c8] at H
        have c8b0 : (a0 == 2) = false := beq_eq_false_iff_ne.mpr c8
        have c8b1 : (a0 != 2) = true := bne_iff_ne.mpr c8
        by_cases c11 : a0 = 3
        · rw [if_pos c11] at H
          have c11b0 : (a0 == 3) = true := beq_iff_eq.mpr c11
          have c11b1 : (a0 != 3) = false := bne_eq_false_iff_eq.mpr c11
          clear c11
          obtain ⟨y391, hy391⟩ : ∃ y_ : List ByteArray, y_ = (([(⟨#[55, 68, 69, 51, 48, 54, 57, 65, 49, 50, 56, 53, 66, 67, 52, 70]⟩ : ByteArray), (⟨#[68, 56, 66, 53, 54, 70, 48, 51, 52, 55, 50, 67, 49, 65, 69, 57]⟩ : ByteArray), (⟨#[65, 54, 57, 48, 67, 66, 55, 68, 70, 49, 51, 69, 53, 50, 56, 52]⟩ : ByteArray), (⟨#[51, 70, 48, 54, 65, 49, 68, 56, 57, 52, 53, 66, 67, 55, 50, 69]⟩ : ByteArray)] : List ByteArray)) := ⟨_, rfl⟩
          replace H : (some y391) = some r := by first | (rw [hy391]; with_reducible exact H) | (have H2_ := (Option.bind_some _ _).symm.trans H; rw [hy391]; with_reducible exact H2_) | (have H2_ := (Option.bind_some _ _).symm.trans H; with_reducible exact H2_) | with_reducible exact H | (rw [hy391]; exact H) | exact H
          have Ny391 := Aside0.mk hy391
          clear hy391
          obtain rfl := Option.some.inj H
          go_enter Try.func38, Try.ntmps38
          go_wp2_with (first | ((with_reducible refine gate_dst (N := 15) rfl ?_); refine Kd.R_lit Kd.string _ 9 ?hg (N := 15) ?hd (xs := ([(⟨#[55, 68, 69, 51, 48, 54, 57, 65, 49, 50, 56, 53, 66, 67, 52, 70]⟩ : ByteArray), (⟨#[68, 56, 66, 53, 54, 70, 48, 51, 52, 55, 50, 67, 49, 65, 69, 57]⟩ : ByteArray), (⟨#[65, 54, 57, 48, 67, 66, 55, 68, 70, 49, 51, 69, 53, 50, 56, 52]⟩ : ByteArray), (⟨#[51, 70, 48, 54, 65, 49, 68, 56, 57, 52, 53, 66, 67, 55, 50, 69]⟩ : ByteArray)] : List ByteArray)) (inner := [.string (⟨#[55, 68, 69, 51, 48, 54, 57, 65, 49, 50, 56, 53, 66, 67, 52, 70]⟩ : ByteArray), .string (⟨#[68, 56, 66, 53, 54, 70, 48, 51, 52, 55, 50, 67, 49, 65, 69, 57]⟩ : ByteArray), .string (⟨#[65, 54, 57, 48, 67, 66, 55, 68, 70, 49, 51, 69, 53, 50, 56, 52]⟩ : ByteArray), .string (⟨#[51, 70, 48, 54, 65, 49, 68, 56, 57, 52, 53, 66, 67, 55, 50, 69]⟩ : ByteArray)]) (ok := fun _ => True) (okp := fun _ => True) ?hr ?hp (fun _ hk => hk) trivial (Below.refl _ _) (Nat.le_refl _) (by simp) ?_; (case hd => rfl); (case hg => rfl); (case hr => first | (go_simp; done) | (go_simp; rfl)); (case hp => exact (Reps.one (show Kd.M Kd.string _ _ _ (⟨#[55, 68, 69, 51, 48, 54, 57, 65, 49, 50, 56, 53, 66, 67, 52, 70]⟩ : ByteArray) [.string (⟨#[55, 68, 69, 51, 48, 54, 57, 65, 49, 50, 56, 53, 66, 67, 52, 70]⟩ : ByteArray)] from rfl) (Reps.one (show Kd.M Kd.string _ _ _ (⟨#[68, 56, 66, 53, 54, 70, 48, 51, 52, 55, 50, 67, 49, 65, 69, 57]⟩ : ByteArray) [.string (⟨#[68, 56, 66, 53, 54, 70, 48, 51, 52, 55, 50, 67, 49, 65, 69, 57]⟩ : ByteArray)] from rfl) (Reps.one (show Kd.M Kd.string _ _ _ (⟨#[65, 54, 57, 48, 67, 66, 55, 68, 70, 49, 51, 69, 53, 50, 56, 52]⟩ : ByteArray) [.string (⟨#[65, 54, 57, 48, 67, 66, 55, 68, 70, 49, 51, 69, 53, 50, 56, 52]⟩ : ByteArray)] from rfl) (Reps.one (show Kd.M Kd.string _ _ _ (⟨#[51, 70, 48, 54, 65, 49, 68, 56, 57, 52, 53, 66, 67, 55, 50, 69]⟩ : ByteArray) [.string (⟨#[51, 70, 48, 54, 65, 49, 68, 56, 57, 52, 53, 66, 67, 55, 50, 69]⟩ : ByteArray)] from rfl) (Reps.none _ _)))))); intro v392 w12 ho13 hb hg_ hnew_; clear hg_ hnew_; (first | rw [← Ny391.out] at ho13 | (simp only [Int.reduceToNat] at ho13; rw [← Ny391.out] at ho13)); have n0_ := Aside0.mk (Kd.R_lower ho13 (below_size HB.out)); have n1_ := Aside0.mk (below_step HB.out hb); clear HB; have HO393 := n0_; have HB := n1_; clear n0_ n1_; clear hb ho13))
          go_ret
          exact ⟨_, by first | rfl | (simp [errW_none, errW_some] <;> rfl) | (simp [*, errW_none, errW_some] <;> rfl), by (with_reducible repeat (first | apply Kd.R_alloc | apply Kd.R_drewN | apply Kd.R_drew)); exact HO393.out, by repeat (first | (with_reducible first | exact HB.out | apply below_alloc | apply pw_below_drewN | apply below_drew1) | exact HB.out)⟩
        · rw [if_neg c11] at H
          have c11b0 : (a0 == 3) = false := beq_eq_false_iff_ne.mpr c11
          have c11b1 : (a0 != 3) = true := bne_iff_ne.mpr c11
          by_cases c14 : a0 = 4
          · rw [if_pos c14] at H
            have c14b0 : (a0 == 4) = true := beq_iff_eq.mpr c14
            have c14b1 : (a0 != 4) = false := bne_eq_false_iff_eq.mpr c14
            clear c14
            obtain ⟨y394, hy394⟩ : ∃ y_ : List ByteArray, y_ = (([(⟨#[50, 67, 52, 49, 55, 65, 66, 54, 56, 53, 51, 70, 68, 48, 69, 57]⟩ : ByteArray), (⟨#[69, 66, 50, 67, 52, 55, 68, 49, 53, 48, 70, 65, 51, 57, 56, 54]⟩ : ByteArray), (⟨#[52, 50, 49, 66, 65, 68, 55, 56, 70, 57, 67, 53, 54, 51, 48, 69]⟩ : ByteArray), (⟨#[66, 56, 67, 55, 49, 69, 50, 68, 54, 70, 48, 57, 65, 52, 53, 51]⟩ : ByteArray)] : List ByteArray)) := ⟨_, rfl⟩
            replace H : (some y394) = some r := by first | (rw [hy394]; with_reducible exact H) | (have H2_ := (Option.bind_some _ _).symm.trans H; rw [hy394]; with_reducible exact H2_) | (have H2_ := (Option.bind_some _ _).symm.trans H; with_reducible exact H2_) | with_reducible exact H | (rw [hy394]; exact H) | exact H
            have Ny394 := Aside0.mk hy394
            clear hy394
            obtain rfl := Option.some.inj H
            go_enter Try.func38, Try.ntmps38
            go_wp2_with (first | ((with_reducible refine gate_dst (N := 18) rfl ?_); refine Kd.R_lit Kd.string _ 9 ?hg (N := 18) ?hd (xs := ([(⟨#[50, 67, 52, 49, 55, 65, 66, 54, 56, 53, 51, 70, 68, 48, 69, 57]⟩ : ByteArray), (⟨#[69, 66, 50, 67, 52, 55, 68, 49, 53, 48, 70, 65, 51, 57, 56, 54]⟩ : ByteArray), (⟨#[52, 50, 49, 66, 65, 68, 55, 56, 70, 57, 67, 53, 54, 51, 48, 69]⟩ : ByteArray), (⟨#[66, 56, 67, 55, 49, 69, 50, 68, 54, 70, 48, 57, 65, 52, 53, 51]⟩ : ByteArray)] : List ByteArray)) (inner := [.string (⟨#[50, 67, 52, 49, 55, 65, 66, 54, 56, 53, 51, 70, 68, 48, 69, 57]⟩ : ByteArray), .string (⟨#[69, 66, 50, 67, 52, 55, 68, 49, 53, 48, 70, 65, 51, 57, 56, 54]⟩ : ByteArray), .string (⟨#[52, 50, 49, 66, 65, 68, 55, 56, 70, 57, 67, 53, 54, 51, 48, 69]⟩ : ByteArray), .string (⟨#[66, 56, 67, 55, 49, 69, 50, 68, 54, 70, 48, 57, 65, 52, 53, 51]⟩ : ByteArray)]) (ok := fun _ => True) (okp := fun _ => True) ?hr ?hp (fun _ hk => hk) trivial (Below.refl _ _) (Nat.le_refl _) (by simp) ?_; (case hd => rfl); (case hg => rfl); (case hr => first | (go_simp; done) | (go_simp; rfl)); (case hp => exact (Reps.one (show Kd.M Kd.string _ _ _ (⟨#[50, 67, 52, 49, 55, 65, 66, 54, 56, 53, 51, 70, 68, 48, 69, 57]⟩ : ByteArray) [.string (⟨#[50, 67, 52, 49, 55, 65, 66, 54, 56, 53, 51, 70, 68, 48, 69, 57]⟩ : ByteArray)] from rfl) (Reps.one (show Kd.M Kd.string _ _ _ (⟨#[69, 66, 50, 67, 52, 55, 68, 49, 53, 48, 70, 65, 51, 57, 56, 54]⟩ : ByteArray) [.string (⟨#[69, 66, 50, 67, 52, 55, 68, 49, 53, 48, 70, 65, 51, 57, 56, 54]⟩ : ByteArray)] from rfl) (Reps.one (show Kd.M Kd.string _ _ _ (⟨#[52, 50, 49, 66, 65, 68, 55, 56, 70, 57, 67, 53, 54, 51, 48, 69]⟩ : ByteArray) [.string (⟨#[52, 50, 49, 66, 65, 68, 55, 56, 70, 57, 67, 53, 54, 51, 48, 69]⟩ : ByteArray)] from rfl) (Reps.one (show Kd.M Kd.string _ _ _ (⟨#[66, 56, 67, 55, 49, 69, 50, 68, 54, 70, 48, 57, 65, 52, 53, 51]⟩ : ByteArray) [.string (⟨#[66, 56, 67, 55, 49, 69, 50, 68, 54, 70, 48, 57, 65, 52, 53, 51]⟩ : ByteArray)] from rfl) (Reps.none _ _)))))); intro v395 w15 ho16 hb hg_ hnew_; clear hg_ hnew_; (first | rw [← Ny394.out] at ho16 | (simp only [Int.reduceToNat] at ho16; rw [← Ny394.out] at ho16)); have n0_ := Aside0.mk (Kd.R_lower ho16 (below_size HB.out)); have n1_ := Aside0.mk (below_step HB.out hb); clear HB; have HO396 := n0_; have HB := n1_; clear n0_ n1_; clear hb ho16))
            go_ret
            exact ⟨_, by first | rfl | (simp [errW_none, errW_some] <;> rfl) | (simp [*, errW_none, errW_some] <;> rfl), by (with_reducible repeat (first | apply Kd.R_alloc | apply Kd.R_drewN | apply Kd.R_drew)); exact HO396.out, by repeat (first | (with_reducible first | exact HB.out | apply below_alloc | apply pw_below_drewN | apply below_drew1) | exact HB.out)⟩
          · rw [if_neg c14] at H
            have c14b0 : (a0 == 4) = false := beq_eq_false_iff_ne.mpr c14
            have c14b1 : (a0 != 4) = true := bne_iff_ne.mpr c14
            by_cases c17 : a0 = 5
            · rw [if_pos c17] at H
              have c17b0 : (a0 == 5) = true := beq_iff_eq.mpr c17
              have c17b1 : (a0 != 5) = false := bne_eq_false_iff_eq.mpr c17
              clear c17
              obtain ⟨y397, hy397⟩ : ∃ y_ : List ByteArray, y_ = (([(⟨#[67, 49, 65, 70, 57, 50, 54, 56, 48, 68, 51, 52, 69, 55, 53, 66]⟩ : ByteArray), (⟨#[65, 70, 52, 50, 55, 67, 57, 53, 54, 49, 68, 69, 48, 66, 51, 56]⟩ : ByteArray), (⟨#[57, 69, 70, 53, 50, 56, 67, 51, 55, 48, 52, 65, 49, 68, 66, 54]⟩ : ByteArray), (⟨#[52, 51, 50, 67, 57, 53, 70, 65, 66, 69, 49, 55, 54, 48, 56, 68]⟩ : ByteArray)] : List ByteArray)) := ⟨_, rfl⟩
              replace H : (some y397) = some r := by first | (rw [hy397]; with_reducible exact H) | (have H2_ := (Option.bind_some _ _).symm.trans H; rw [hy397]; with_reducible exact H2_) | (have H2_ := (Option.bind_some _ _).symm.trans H; with_reducible exact H2_) | with_reducible exact H | (rw [hy397]; exact H) | exact H
              have Ny397 := Aside0.mk hy397
              clear hy397
              obtain rfl := Option.some.inj H
              go_enter Try.func38, Try.ntmps38
              go_wp2_with (first | ((with_reducible refine gate_dst (N := 21) rfl ?_); refine Kd.R_lit Kd.string _ 9 ?hg (N := 21) ?hd (xs := ([(⟨#[67, 49, 65, 70, 57, 50, 54, 56, 48, 68, 51, 52, 69, 55, 53, 66]⟩ : ByteArray), (⟨#[65, 70, 52, 50, 55, 67, 57, 53, 54, 49, 68, 69, 48, 66, 51, 56]⟩ : ByteArray), (⟨#[57, 69, 70, 53, 50, 56, 67, 51, 55, 48, 52, 65, 49, 68, 66, 54]⟩ : ByteArray), (⟨#[52, 51, 50, 67, 57, 53, 70, 65, 66, 69, 49, 55, 54, 48, 56, 68]⟩ : ByteArray)] : List ByteArray)) (inner := [.string (⟨#[67, 49, 65, 70, 57, 50, 54, 56, 48, 68, 51, 52, 69, 55, 53, 66]⟩ : ByteArray), .string (⟨#[65, 70, 52, 50, 55, 67, 57, 53, 54, 49, 68, 69, 48, 66, 51, 56]⟩ : ByteArray), .string (⟨#[57, 69, 70, 53, 50, 56, 67, 51, 55, 48, 52, 65, 49, 68, 66, 54]⟩ : ByteArray), .string (⟨#[52, 51, 50, 67, 57, 53, 70, 65, 66, 69, 49, 55, 54, 48, 56, 68]⟩ : ByteArray)]) (ok := fun _ => True) (okp := fun _ => True) ?hr ?hp (fun _ hk => hk) trivial (Below.refl _ _) (Nat.le_refl _) (by simp) ?_; (case hd => rfl); (case hg => rfl); (case hr => first | (go_simp; done) | (go_simp; rfl)); (case hp => exact (Reps.one (show Kd.M Kd.string _ _ _ (⟨#[67, 49, 65, 70, 57, 50, 54, 56, 48, 68, 51, 52, 69, 55, 53, 66]⟩ : ByteArray) [.string (⟨#[67, 49, 65, 70, 57, 50, 54, 56, 48, 68, 51, 52, 69, 55, 53, 66]⟩ : ByteArray)] from rfl) (Reps.one (show Kd.M Kd.string _ _ _ (⟨#[65, 70, 52, 50, 55, 67, 57, 53, 54, 49, 68, 69, 48, 66, 51, 56]⟩ : ByteArray) [.string (⟨#[65, 70, 52, 50, 55, 67, 57, 53, 54, 49, 68, 69, 48, 66, 51, 56]⟩ : ByteArray)] from rfl) (Reps.one (show Kd.M Kd.string _ _ _ (⟨#[57, 69, 70, 53, 50, 56, 67, 51, 55, 48, 52, 65, 49, 68, 66, 54]⟩ : ByteArray) [.string (⟨#[57, 69, 70, 53, 50, 56, 67, 51, 55, 48, 52, 65, 49, 68, 66, 54]⟩ : ByteArray)] from rfl) (Reps.one (show Kd.M Kd.string _ _ _ (⟨#[52, 51, 50, 67, 57, 53, 70, 65, 66, 69, 49, 55, 54, 48, 56, 68]⟩ : ByteArray) [.string (⟨#[52, 51, 50, 67, 57, 53, 70, 65, 66, 69, 49, 55, 54, 48, 56, 68]⟩ : ByteArray)] from rfl) (Reps.none _ _)))))); intro v398 w18 ho19 hb hg_ hnew_; clear hg_ hnew_; (first | rw [← Ny397.out] at ho19 | (simp only [Int.reduceToNat] at ho19; rw [← Ny397.out] at ho19)); have n0_ := Aside0.mk (Kd.R_lower ho19 (below_size HB.out)); have n1_ := Aside0.mk (below_step HB.out hb); clear HB; have HO399 := n0_; have HB := n1_; clear n0_ n1_; clear hb ho19))
              go_ret
              exact ⟨_, by first | rfl | (simp [errW_none, errW_some] <;> rfl) | (simp [*, errW_none, errW_some] <;> rfl), by (with_reducible repeat (first | apply Kd.R_alloc | apply Kd.R_drewN | apply Kd.R_drew)); exact HO399.out, by repeat (first | (with_reducible first | exact HB.out | apply below_alloc | apply pw_below_drewN | apply below_drew1) | exact HB.out)⟩
            · rw [if_neg c17] at H
              have c17b0 : (a0 == 5) = false := beq_eq_false_iff_ne.mpr c17
              have c17b1 : (a0 != 5) = true := bne_iff_ne.mpr c17
              by_cases c20 : a0 = 6
              · rw [if_pos c20] at H
                have c20b0 : (a0 == 6) = true := beq_iff_eq.mpr c20
                have c20b1 : (a0 != 6) = false := bne_eq_false_iff_eq.mpr c20
                clear c20
                obtain ⟨y400, hy400⟩ : ∃ y_ : List ByteArray, y_ = (([(⟨#[52, 66, 50, 69, 70, 48, 56, 68, 51, 67, 57, 55, 53, 65, 54, 49]⟩ : ByteArray), (⟨#[68, 48, 66, 55, 52, 57, 49, 65, 69, 51, 53, 67, 50, 70, 56, 54]⟩ : ByteArray), (⟨#[49, 52, 66, 68, 67, 51, 55, 69, 65, 70, 54, 56, 48, 53, 57, 50]⟩ : ByteArray), (⟨#[54, 66, 68, 56, 49, 52, 65, 55, 57, 53, 48, 70, 69, 50, 51, 67]⟩ : ByteArray)] : List ByteArray)) := ⟨_, rfl⟩
                replace H : (some y400) = some r := by first | (rw [hy400]; with_reducible exact H) | (have H2_ := (Option.bind_some _ _).symm.trans H; rw [hy400]; with_reducible exact H2_) | (have H2_ := (Option.bind_some _ _).symm.trans H; with_reducible exact H2_) | with_reducible exact H | (rw [hy400]; exact H) | exact H
                have Ny400 := Aside0.mk hy400
                clear hy400
                obtain rfl := Option.some.inj H
                go_enter Try.func38, Try.ntmps38
                go_wp2_with (first | ((with_reducible refine gate_dst (N := 24) rfl ?_); refine Kd.R_lit Kd.string _ 9 ?hg (N := 24) ?hd (xs := ([(⟨#[52, 66, 50, 69, 70, 48, 56, 68, 51, 67, 57, 55, 53, 65, 54, 49]⟩ : ByteArray), (⟨#[68, 48, 66, 55, 52, 57, 49, 65, 69, 51, 53, 67, 50, 70, 56, 54]⟩ : ByteArray), (⟨#[49, 52, 66, 68, 67, 51, 55, 69, 65, 70, 54, 56, 48, 53, 57, 50]⟩ : ByteArray), (⟨#[54, 66, 68, 56, 49, 52, 65, 55, 57, 53, 48, 70, 69, 50, 51, 67]⟩ : ByteArray)] : List ByteArray)) (inner := [.string (⟨#[52, 66, 50, 69, 70, 48, 56, 68, 51, 67, 57, 55, 53, 65, 54, 49]⟩ : ByteArray), .string (⟨#[68, 48, 66, 55, 52, 57, 49, 65, 69, 51, 53, 67, 50, 70, 56, 54]⟩ : ByteArray), .string (⟨#[49, 52, 66, 68, 67, 51, 55, 69, 65, 70, 54, 56, 48, 53, 57, 50]⟩ : ByteArray), .string (⟨#[54, 66, 68, 56, 49, 52, 65, 55, 57, 53, 48, 70, 69, 50, 51, 67]⟩ : ByteArray)]) (ok := fun _ => True) (okp := fun _ => True) ?hr ?hp (fun _ hk => hk) trivial (Below.refl _ _) (Nat.le_refl _) (by simp) ?_; (case hd => rfl); (case hg => rfl); (case hr => first | (go_simp; done) | (go_simp; rfl)); (case hp => exact (Reps.one (show Kd.M Kd.string _ _ _ (⟨#[52, 66, 50, 69, 70, 48, 56, 68, 51, 67, 57, 55, 53, 65, 54, 49]⟩ : ByteArray) [.string (⟨#[52, 66, 50, 69, 70, 48, 56, 68, 51, 67, 57, 55, 53, 65, 54, 49]⟩ : ByteArray)] from rfl) (Reps.one (show Kd.M Kd.string _ _ _ (⟨#[68, 48, 66, 55, 52, 57, 49, 65, 69, 51, 53, 67, 50, 70, 56, 54]⟩ : ByteArray) [.string (⟨#[68, 48, 66, 55, 52, 57, 49, 65, 69, 51, 53, 67, 50, 70, 56, 54]⟩ : ByteArray)] from rfl) (Reps.one (show Kd.M Kd.string _ _ _ (⟨#[49, 52, 66, 68, 67, 51, 55, 69, 65, 70, 54, 56, 48, 53, 57, 50]⟩ : ByteArray) [.string (⟨#[49, 52, 66, 68, 67, 51, 55, 69, 65, 70, 54, 56, 48, 53, 57, 50]⟩ : ByteArray)] from rfl) (Reps.one (show Kd.M Kd.string _ _ _ (⟨#[54, 66, 68, 56, 49, 52, 65, 55, 57, 53, 48, 70, 69, 50, 51, 67]⟩ : ByteArray) [.string (⟨#[54, 66, 68, 56, 49, 52, 65, 55, 57, 53, 48, 70, 69, 50, 51, 67]⟩ : ByteArray)] from rfl) (Reps.none _ _)))))); intro v401 w21 ho22 hb hg_ hnew_; clear hg_ hnew_; (first | rw [← Ny400.out] at ho22 | (simp only [Int.reduceToNat] at ho22; rw [← Ny400.out] at ho22)); have n0_ := Aside0.mk (Kd.R_lower ho22 (below_size HB.out)); have n1_ := Aside0.mk (below_step HB.out hb); clear HB; have HO402 := n0_; have HB := n1_; clear n0_ n1_; clear hb ho22))
                go_ret
                exact ⟨_, by first | rfl | (simp [errW_none, errW_some] <;> rfl) | (simp [*, errW_none, errW_some] <;> rfl), by (with_reducible repeat (first | apply Kd.R_alloc | apply Kd.R_drewN | apply Kd.R_drew)); exact HO402.out, by repeat (first | (with_reducible first | exact HB.out | apply below_alloc | apply pw_below_drewN | apply below_drew1) | exact HB.out)⟩
              · rw [if_neg c20] at H
                have c20b0 : (a0 == 6) = false := beq_eq_false_iff_ne.mpr c20
                have c20b1 : (a0 != 6) = true := bne_iff_ne.mpr c20
                obtain ⟨y403, hy403⟩ : ∃ y_ : List ByteArray, y_ = (([(⟨#[68, 50, 56, 52, 54, 70, 66, 49, 65, 57, 51, 69, 53, 48, 67, 55]⟩ : ByteArray), (⟨#[49, 70, 68, 56, 65, 51, 55, 52, 67, 53, 54, 66, 48, 69, 57, 50]⟩ : ByteArray), (⟨#[55, 66, 52, 49, 57, 67, 69, 50, 48, 54, 65, 68, 70, 51, 53, 56]⟩ : ByteArray), (⟨#[50, 49, 69, 55, 52, 65, 56, 68, 70, 67, 57, 48, 51, 53, 54, 66]⟩ : ByteArray)] : List ByteArray)) := ⟨_, rfl⟩
                replace H : (some y403) = some r := by first | (rw [hy403]; with_reducible exact H) | (have H2_ := (Option.bind_some _ _).symm.trans H; rw [hy403]; with_reducible exact H2_) | (have H2_ := (Option.bind_some _ _).symm.trans H; with_reducible exact H2_) | with_reducible exact H | (rw [hy403]; exact H) | exact H
                have Ny403 := Aside0.mk hy403
                clear hy403
                obtain rfl := Option.some.inj H
                go_enter Try.func38, Try.ntmps38
                go_wp2_with (first | ((with_reducible refine gate_dst (N := 25) rfl ?_); refine Kd.R_lit Kd.string _ 9 ?hg (N := 25) ?hd (xs := ([(⟨#[68, 50, 56, 52, 54, 70, 66, 49, 65, 57, 51, 69, 53, 48, 67, 55]⟩ : ByteArray), (⟨#[49, 70, 68, 56, 65, 51, 55, 52, 67, 53, 54, 66, 48, 69, 57, 50]⟩ : ByteArray), (⟨#[55, 66, 52, 49, 57, 67, 69, 50, 48, 54, 65, 68, 70, 51, 53, 56]⟩ : ByteArray), (⟨#[50, 49, 69, 55, 52, 65, 56, 68, 70, 67, 57, 48, 51, 53, 54, 66]⟩ : ByteArray)] : List ByteArray)) (inner := [.string (⟨#[68, 50, 56, 52, 54, 70, 66, 49, 65, 57, 51, 69, 53, 48, 67, 55]⟩ : ByteArray), .string (⟨#[49, 70, 68, 56, 65, 51, 55, 52, 67, 53, 54, 66, 48, 69, 57, 50]⟩ : ByteArray), .string (⟨#[55, 66, 52, 49, 57, 67, 69, 50, 48, 54, 65, 68, 70, 51, 53, 56]⟩ : ByteArray), .string (⟨#[50, 49, 69, 55, 52, 65, 56, 68, 70, 67, 57, 48, 51, 53, 54, 66]⟩ : ByteArray)]) (ok := fun _ => True) (okp := fun _ => True) ?hr ?hp (fun _ hk => hk) trivial (Below.refl _ _) (Nat.le_refl _) (by simp) ?_; (case hd => rfl); (case hg => rfl); (case hr => first | (go_simp; done) | (go_simp; rfl)); (case hp => exact (Reps.one (show Kd.M Kd.string _ _ _ (⟨#[68, 50, 56, 52, 54, 70, 66, 49, 65, 57, 51, 69, 53, 48, 67, 55]⟩ : ByteArray) [.string (⟨#[68, 50, 56, 52, 54, 70, 66, 49, 65, 57, 51, 69, 53, 48, 67, 55]⟩ : ByteArray)] from rfl) (Reps.one (show Kd.M Kd.string _ _ _ (⟨#[49, 70, 68, 56, 65, 51, 55, 52, 67, 53, 54, 66, 48, 69, 57, 50]⟩ : ByteArray) [.string (⟨#[49, 70, 68, 56, 65, 51, 55, 52, 67, 53, 54, 66, 48, 69, 57, 50]⟩ : ByteArray)] from rfl) (Reps.one (show Kd.M Kd.string _ _ _ (⟨#[55, 66, 52, 49, 57, 67, 69, 50, 48, 54, 65, 68, 70, 51, 53, 56]⟩ : ByteArray) [.string (⟨#[55, 66, 52, 49, 57, 67, 69, 50, 48, 54, 65, 68, 70, 51, 53, 56]⟩ : ByteArray)] from rfl) (Reps.one (show Kd.M Kd.string _ _ _ (⟨#[50, 49, 69, 55, 52, 65, 56, 68, 70, 67, 57, 48, 51, 53, 54, 66]⟩ : ByteArray) [.string (⟨#[50, 49, 69, 55, 52, 65, 56, 68, 70, 67, 57, 48, 51, 53, 54, 66]⟩ : ByteArray)] from rfl) (Reps.none _ _)))))); intro v404 w23 ho24 hb hg_ hnew_; clear hg_ hnew_; (first | rw [← Ny403.out] at ho24 | (simp only [Int.reduceToNat] at ho24; rw [← Ny403.out] at ho24)); have n0_ := Aside0.mk (Kd.R_lower ho24 (below_size HB.out)); have n1_ := Aside0.mk (below_step HB.out hb); clear HB; have HO405 := n0_; have HB := n1_; clear n0_ n1_; clear hb ho24))
                go_ret
                exact ⟨_, by first | rfl | (simp [errW_none, errW_some] <;> rfl) | (simp [*, errW_none, errW_some] <;> rfl), by (with_reducible repeat (first | apply Kd.R_alloc | apply Kd.R_drewN | apply Kd.R_drew)); exact HO405.out, by repeat (first | (with_reducible first | exact HB.out | apply below_alloc | apply pw_below_drewN | apply below_drew1) | exact HB.out)⟩

/-! ### scrimref6_mixed: function 39 -/
def scrimref6_mixed.f  : Option (List Int) := some (([16, 7, 20, 21, 29, 12, 28, 17, 1, 15, 23, 26, 5, 18, 31, 10, 2, 8, 24, 14, 32, 27, 3, 9, 19, 13, 30, 6, 22, 11, 4, 25] : List Int))
set_option maxHeartbeats 8000000 in
set_option maxRecDepth 100000 in
theorem scrimref6_mixed.calls  (r : List Int) (w : World) (h : scrimref6_mixed.f  = some r) :
    Calls Try.prog 39 #[] w fun e w' => ∃ v0_ : Value, e = .returned (v0_) ∧ Kd.R (Kd.int .i64) 3 w' w.heap.size (fun _ => True) v0_ r ∧ Below w.heap.size w w' := by
  have HB := Aside0.mk (Below.refl w.heap.size w)
  have H : (some (([16, 7, 20, 21, 29, 12, 28, 17, 1, 15, 23, 26, 5, 18, 31, 10, 2, 8, 24, 14, 32, 27, 3, 9, 19, 13, 30, 6, 22, 11, 4, 25] : List Int))) = some r := h
  clear h
  obtain ⟨y406, hy406⟩ : ∃ y_ : List Int, y_ = (([16, 7, 20, 21, 29, 12, 28, 17, 1, 15, 23, 26, 5, 18, 31, 10, 2, 8, 24, 14, 32, 27, 3, 9, 19, 13, 30, 6, 22, 11, 4, 25] : List Int)) := ⟨_, rfl⟩
  replace H : (some y406) = some r := by first | (rw [hy406]; with_reducible exact H) | (have H2_ := (Option.bind_some _ _).symm.trans H; rw [hy406]; with_reducible exact H2_) | (have H2_ := (Option.bind_some _ _).symm.trans H; with_reducible exact H2_) | with_reducible exact H | (rw [hy406]; exact H) | exact H
  have Ny406 := Aside0.mk hy406
  clear hy406
  obtain rfl := Option.some.inj H
  go_enter Try.func39, Try.ntmps39
  go_wp2_with (first | ((with_reducible refine gate_dst (N := 1) rfl ?_); refine Kd.R_lit (Kd.int .i64) _ 3 ?hg (N := 1) ?hd (xs := ([16, 7, 20, 21, 29, 12, 28, 17, 1, 15, 23, 26, 5, 18, 31, 10, 2, 8, 24, 14, 32, 27, 3, 9, 19, 13, 30, 6, 22, 11, 4, 25] : List Int)) (inner := [.int .i64 16, .int .i64 7, .int .i64 20, .int .i64 21, .int .i64 29, .int .i64 12, .int .i64 28, .int .i64 17, .int .i64 1, .int .i64 15, .int .i64 23, .int .i64 26, .int .i64 5, .int .i64 18, .int .i64 31, .int .i64 10, .int .i64 2, .int .i64 8, .int .i64 24, .int .i64 14, .int .i64 32, .int .i64 27, .int .i64 3, .int .i64 9, .int .i64 19, .int .i64 13, .int .i64 30, .int .i64 6, .int .i64 22, .int .i64 11, .int .i64 4, .int .i64 25]) (ok := fun _ => True) (okp := fun _ => True) ?hr ?hp (fun _ hk => hk) trivial (Below.refl _ _) (Nat.le_refl _) (by simp) ?_; (case hd => rfl); (case hg => rfl); (case hr => first | (go_simp; done) | (go_simp; rfl)); (case hp => exact (Reps.one (show Kd.M (Kd.int .i64) _ _ _ 16 [.int .i64 16] from rfl) (Reps.one (show Kd.M (Kd.int .i64) _ _ _ 7 [.int .i64 7] from rfl) (Reps.one (show Kd.M (Kd.int .i64) _ _ _ 20 [.int .i64 20] from rfl) (Reps.one (show Kd.M (Kd.int .i64) _ _ _ 21 [.int .i64 21] from rfl) (Reps.one (show Kd.M (Kd.int .i64) _ _ _ 29 [.int .i64 29] from rfl) (Reps.one (show Kd.M (Kd.int .i64) _ _ _ 12 [.int .i64 12] from rfl) (Reps.one (show Kd.M (Kd.int .i64) _ _ _ 28 [.int .i64 28] from rfl) (Reps.one (show Kd.M (Kd.int .i64) _ _ _ 17 [.int .i64 17] from rfl) (Reps.one (show Kd.M (Kd.int .i64) _ _ _ 1 [.int .i64 1] from rfl) (Reps.one (show Kd.M (Kd.int .i64) _ _ _ 15 [.int .i64 15] from rfl) (Reps.one (show Kd.M (Kd.int .i64) _ _ _ 23 [.int .i64 23] from rfl) (Reps.one (show Kd.M (Kd.int .i64) _ _ _ 26 [.int .i64 26] from rfl) (Reps.one (show Kd.M (Kd.int .i64) _ _ _ 5 [.int .i64 5] from rfl) (Reps.one (show Kd.M (Kd.int .i64) _ _ _ 18 [.int .i64 18] from rfl) (Reps.one (show Kd.M (Kd.int .i64) _ _ _ 31 [.int .i64 31] from rfl) (Reps.one (show Kd.M (Kd.int .i64) _ _ _ 10 [.int .i64 10] from rfl) (Reps.one (show Kd.M (Kd.int .i64) _ _ _ 2 [.int .i64 2] from rfl) (Reps.one (show Kd.M (Kd.int .i64) _ _ _ 8 [.int .i64 8] from rfl) (Reps.one (show Kd.M (Kd.int .i64) _ _ _ 24 [.int .i64 24] from rfl) (Reps.one (show Kd.M (Kd.int .i64) _ _ _ 14 [.int .i64 14] from rfl) (Reps.one (show Kd.M (Kd.int .i64) _ _ _ 32 [.int .i64 32] from rfl) (Reps.one (show Kd.M (Kd.int .i64) _ _ _ 27 [.int .i64 27] from rfl) (Reps.one (show Kd.M (Kd.int .i64) _ _ _ 3 [.int .i64 3] from rfl) (Reps.one (show Kd.M (Kd.int .i64) _ _ _ 9 [.int .i64 9] from rfl) (Reps.one (show Kd.M (Kd.int .i64) _ _ _ 19 [.int .i64 19] from rfl) (Reps.one (show Kd.M (Kd.int .i64) _ _ _ 13 [.int .i64 13] from rfl) (Reps.one (show Kd.M (Kd.int .i64) _ _ _ 30 [.int .i64 30] from rfl) (Reps.one (show Kd.M (Kd.int .i64) _ _ _ 6 [.int .i64 6] from rfl) (Reps.one (show Kd.M (Kd.int .i64) _ _ _ 22 [.int .i64 22] from rfl) (Reps.one (show Kd.M (Kd.int .i64) _ _ _ 11 [.int .i64 11] from rfl) (Reps.one (show Kd.M (Kd.int .i64) _ _ _ 4 [.int .i64 4] from rfl) (Reps.one (show Kd.M (Kd.int .i64) _ _ _ 25 [.int .i64 25] from rfl) (Reps.none _ _)))))))))))))))))))))))))))))))))); intro v407 w1 ho2 hb hg_ hnew_; clear hg_ hnew_; (first | rw [← Ny406.out] at ho2 | (simp only [Int.reduceToNat] at ho2; rw [← Ny406.out] at ho2)); have n0_ := Aside0.mk (Kd.R_lower ho2 (below_size HB.out)); have n1_ := Aside0.mk (below_step HB.out hb); clear HB; have HO408 := n0_; have HB := n1_; clear n0_ n1_; clear hb ho2))
  go_ret
  exact ⟨_, by first | rfl | (simp [errW_none, errW_some] <;> rfl) | (simp [*, errW_none, errW_some] <;> rfl), by (with_reducible repeat (first | apply Kd.R_alloc | apply Kd.R_drewN | apply Kd.R_drew)); exact HO408.out, by repeat (first | (with_reducible first | exact HB.out | apply below_alloc | apply pw_below_drewN | apply below_drew1) | exact HB.out)⟩

/-! ### scrimref6_F: function 16 -/
mutual
def scrimref6_F.j0 : Nat → List Int → List Int → Bool → Option (List Int × Bool)
  | 0, _, _, _ => none
  | k + 1, x0, x1, x19 => if x19 = true then (some (([] : List Int), false)) else ((scrimref6_wider.f k).bind fun t409 => ((scrimref2_By.f k x0 t409).bind fun t412 => ((scrimref1_Both.f k t412 x1).bind fun t415 => (if 4 ≤ 281474976710656 then (scrimref6_F.l0 k t415 (List.replicate 4 0) 0) else (none)))))
def scrimref6_F.l0 : Nat → List Int → List Int → Int → Option (List Int × Bool)
  | 0, _, _, _ => none
  | k + 1, x6, x7, x8 => if x8 < 8 then (scrimref6_F.l1 k x6 x7 x8 0 1) else ((scrimref6_mixed.f).bind fun t421 => ((scrimref2_By.f k x7 t421).bind fun t424 => (some (t424, true))))
def scrimref6_F.l1 : Nat → List Int → List Int → Int → Int → Int → Option (List Int × Bool)
  | 0, _, _, _, _, _ => none
  | k + 1, x6, x7, x8, x9, x10 => if x10 ≤ 6 then ((scrimref2_Bit.f x6 (wrap64 ((wrap64 (6 * x8)) + x10))).bind fun t427 => (scrimref6_F.l1 k x6 x7 x8 (wrap64 ((wrap64 (2 * x9)) + t427)) (wrap64 (x10 + 1)))) else ((scrimref6_rows.f x8).bind fun t428 => (if 0 ≤ (wrap64 ((wrap64 ((wrap64 (Int.tdiv x9 32)) * 2)) + (Int.tmod x9 2))) then (if (wrap64 ((wrap64 ((wrap64 (Int.tdiv x9 32)) * 2)) + (Int.tmod x9 2))) < (t428.length : Int) then ((scrimref6_At.f (rdOf ByteArray.empty t428 (wrap64 ((wrap64 ((wrap64 (Int.tdiv x9 32)) * 2)) + (Int.tmod x9 2)))) (Int.tmod (wrap64 (Int.tdiv x9 2)) 16)).bind fun t432 => (if 0 ≤ (wrap64 (Int.tdiv x8 2)) then (if (wrap64 (Int.tdiv x8 2)) < (x7.length : Int) then (if 0 ≤ (IntKind.u64.wrap (wrap64 (4 - (wrap64 (4 * (Int.tmod x8 2)))))) then (scrimref6_F.l0 k x6 (x7.set ((wrap64 (Int.tdiv x8 2)) : Int).toNat (Go.bits .or .u8 (rd x7 (wrap64 (Int.tdiv x8 2))) ((shl .i64 t432 (IntKind.u64.wrap (wrap64 (4 - (wrap64 (4 * (Int.tmod x8 2))))))) % 256))) (wrap64 (x8 + 1))) else (none)) else (none)) else (none))) else (none)) else (none)))
end
def scrimref6_F.f (k : Nat) (l0 : List Int) (l1 : List Int) : Option (List Int × Bool) := if (l0.length : Int) = 4 then (scrimref6_F.j0 k l0 l1 ((l1.length : Int) != 6)) else (scrimref6_F.j0 k l0 l1 true)
theorem scrimref6_F.mono_l : ∀ k, (∀ y0 y1 y2, LeO (scrimref6_F.j0 k y0 y1 y2) (scrimref6_F.j0 (k + 1) y0 y1 y2)) ∧ (∀ y0 y1 y2, LeO (scrimref6_F.l0 k y0 y1 y2) (scrimref6_F.l0 (k + 1) y0 y1 y2)) ∧ (∀ y0 y1 y2 y3 y4, LeO (scrimref6_F.l1 k y0 y1 y2 y3 y4) (scrimref6_F.l1 (k + 1) y0 y1 y2 y3 y4))
  | 0 => ⟨fun _ _ _ r h => by simp [scrimref6_F.j0] at h, fun _ _ _ r h => by simp [scrimref6_F.l0] at h, fun _ _ _ _ _ r h => by simp [scrimref6_F.l1] at h⟩
  | k + 1 => by
    obtain ⟨ih0, ih1, ih2⟩ := scrimref6_F.mono_l k
    refine ⟨?_, ?_, ?_⟩
    · intro y0 y1 y2
      unfold scrimref6_F.j0
      repeat' first
      | (with_reducible exact ih0 _ _ _)
      | (with_reducible exact ih1 _ _ _)
      | (with_reducible exact ih2 _ _ _ _ _)
      | (with_reducible exact scrimref1_Both.mono _ _ _)
      | (with_reducible exact scrimref2_By.mono _ _ _)
      | (with_reducible exact scrimref6_wider.mono _)
      | (with_reducible exact LeO.refl _)
      | (with_reducible exact LeO.none _)
      | (with_reducible refine LeO.ite ?_ ?_)
      | (with_reducible refine LeO.bind ?_ (fun _ => ?_))
      | exact ih0 _ _ _
      | exact ih1 _ _ _
      | exact ih2 _ _ _ _ _
      | exact scrimref1_Both.mono _ _ _
      | exact scrimref2_By.mono _ _ _
      | exact scrimref6_wider.mono _
      | exact LeO.none _
      | refine LeO.ite ?_ ?_
      | refine LeO.bind ?_ (fun _ => ?_)
    · intro y0 y1 y2
      unfold scrimref6_F.l0
      repeat' first
      | (with_reducible exact ih0 _ _ _)
      | (with_reducible exact ih1 _ _ _)
      | (with_reducible exact ih2 _ _ _ _ _)
      | (with_reducible exact scrimref1_Both.mono _ _ _)
      | (with_reducible exact scrimref2_By.mono _ _ _)
      | (with_reducible exact scrimref6_wider.mono _)
      | (with_reducible exact LeO.refl _)
      | (with_reducible exact LeO.none _)
      | (with_reducible refine LeO.ite ?_ ?_)
      | (with_reducible refine LeO.bind ?_ (fun _ => ?_))
      | exact ih0 _ _ _
      | exact ih1 _ _ _
      | exact ih2 _ _ _ _ _
      | exact scrimref1_Both.mono _ _ _
      | exact scrimref2_By.mono _ _ _
      | exact scrimref6_wider.mono _
      | exact LeO.none _
      | refine LeO.ite ?_ ?_
      | refine LeO.bind ?_ (fun _ => ?_)
    · intro y0 y1 y2 y3 y4
      unfold scrimref6_F.l1
      repeat' first
      | (with_reducible exact ih0 _ _ _)
      | (with_reducible exact ih1 _ _ _)
      | (with_reducible exact ih2 _ _ _ _ _)
      | (with_reducible exact scrimref1_Both.mono _ _ _)
      | (with_reducible exact scrimref2_By.mono _ _ _)
      | (with_reducible exact scrimref6_wider.mono _)
      | (with_reducible exact LeO.refl _)
      | (with_reducible exact LeO.none _)
      | (with_reducible refine LeO.ite ?_ ?_)
      | (with_reducible refine LeO.bind ?_ (fun _ => ?_))
      | exact ih0 _ _ _
      | exact ih1 _ _ _
      | exact ih2 _ _ _ _ _
      | exact scrimref1_Both.mono _ _ _
      | exact scrimref2_By.mono _ _ _
      | exact scrimref6_wider.mono _
      | exact LeO.none _
      | refine LeO.ite ?_ ?_
      | refine LeO.bind ?_ (fun _ => ?_)
theorem scrimref6_F.mono : ∀ a0 a1 k, LeO (scrimref6_F.f k a0 a1) (scrimref6_F.f (k + 1) a0 a1) := by
  intro a0 a1 k
  obtain ⟨ih0, ih1, ih2⟩ := scrimref6_F.mono_l k
  unfold scrimref6_F.f
  repeat' first
      | (with_reducible exact ih0 _ _ _)
      | (with_reducible exact ih1 _ _ _)
      | (with_reducible exact ih2 _ _ _ _ _)
      | (with_reducible exact scrimref1_Both.mono _ _ _)
      | (with_reducible exact scrimref2_By.mono _ _ _)
      | (with_reducible exact scrimref6_wider.mono _)
      | (with_reducible exact LeO.refl _)
      | (with_reducible exact LeO.none _)
      | (with_reducible refine LeO.ite ?_ ?_)
      | (with_reducible refine LeO.bind ?_ (fun _ => ?_))
      | exact ih0 _ _ _
      | exact ih1 _ _ _
      | exact ih2 _ _ _ _ _
      | exact scrimref1_Both.mono _ _ _
      | exact scrimref2_By.mono _ _ _
      | exact scrimref6_wider.mono _
      | exact LeO.none _
      | refine LeO.ite ?_ ?_
      | refine LeO.bind ?_ (fun _ => ?_)
set_option maxHeartbeats 8000000 in
set_option maxRecDepth 100000 in
theorem scrimref6_F.calls (k : Nat) (A0 : Option Addr) (c0 : Nat) (l0 : List Int) (A1 : Option Addr) (c1 : Nat) (l1 : List Int) (r1 : List Int) (r2 : Bool) (w : World) (hr0 : Kd.C (Kd.int .u8) w A0 l0.length l0) (hc0 : l0.length ≤ c0) (hr1 : Kd.C (Kd.int .u8) w A1 l1.length l1) (hc1 : l1.length ≤ c1) (h : scrimref6_F.f k l0 l1 = some (r1, r2)) :
    Calls Try.prog 16 #[.slice A0 l0.length c0, .slice A1 l1.length c1] w fun e w' => ∃ v0_ : Value, e = .returned (.tuple #[v0_, .bool r2]) ∧ Kd.R (Kd.int .u8) 5 w' w.heap.size (fun _ => True) v0_ r1 ∧ Below w.heap.size w w' := by
  have HR0 := Aside0.mk hr0
  have HC0 := Aside0.mk hc0
  clear hr0 hc0
  have HR1 := Aside0.mk hr1
  have HC1 := Aside0.mk hc1
  clear hr1 hc1
  have HB := Aside0.mk (Below.refl w.heap.size w)
  have H : (if (l0.length : Int) = 4 then (scrimref6_F.j0 k l0 l1 ((l1.length : Int) != 6)) else (scrimref6_F.j0 k l0 l1 true)) = some (r1, r2) := h
  clear h
  have HC3 := Aside0.mk H
  clear H
  go_enter Try.func16, Try.ntmps16
  go_upto_region 1 with (fail)
  go_cut [19] (fun v19 wc => ∃ (kq : Nat) (x19_2 : Bool), v19 = .bool x19_2 ∧ Aside0 (scrimref6_F.j0 kq l0 l1 x19_2 = some (r1, r2)) ∧ Aside0 (kq ≤ k) ∧ Aside0 (Below w.heap.size w wc))
  case first =>
    have H := HC3.out
    clear HC3
    by_cases c4 : (l0.length : Int) = 4
    · rw [if_pos c4] at H
      have c4b0 : ((l0.length : Int) == 4) = true := beq_iff_eq.mpr c4
      have c4b1 : ((l0.length : Int) != 4) = false := bne_eq_false_iff_eq.mpr c4
      clear c4
      (first | rw [c4b0] | (simp only [i64_w, i32_w]; rw [c4b0]) | skip)
      have H' := Aside0.mk H
      clear H
      go_wp2
      go_meet
      case rel => exact ⟨_, (((l1.length : Int) != 6)), (by first | rfl | (simp; done) | (simp [*]; done)), H', ⟨by first | omega | exact Nat.le_refl _⟩, ⟨by repeat (first | (with_reducible first | exact HB.out | apply below_alloc | apply pw_below_drewN | apply below_drew1) | exact HB.out)⟩⟩
    · rw [if_neg c4] at H
      have c4b0 : ((l0.length : Int) == 4) = false := beq_eq_false_iff_ne.mpr c4
      have c4b1 : ((l0.length : Int) != 4) = true := bne_iff_ne.mpr c4
      (first | rw [c4b0] | (simp only [i64_w, i32_w]; rw [c4b0]) | skip)
      have H' := Aside0.mk H
      clear H
      go_wp2
      go_meet
      case rel => exact ⟨_, (true), (by first | rfl | (simp; done) | (simp [*]; done)), H', ⟨by first | omega | exact Nat.le_refl _⟩, ⟨by repeat (first | (with_reducible first | exact HB.out | apply below_alloc | apply pw_below_drewN | apply below_drew1) | exact HB.out)⟩⟩
  case rest =>
    clear HC3
    try clear c1
    try clear p2
    try clear c4
    try clear c4b0
    try clear c4b1
    obtain ⟨kq, x19_2, rfl, HA, HJ2, HB⟩ := hcut
    cases kq with
    | zero => exact absurd HA.out (by simp [scrimref6_F.j0])
    | succ kj2 =>
      have H := HA.out
      clear HA
      simp only [scrimref6_F.j0] at H
      by_cases c5 : x19_2 = true
      · subst c5
        have H1 : (some (([] : List Int), false)) = some (r1, r2) := by rw [if_pos rfl] at H; exact H
        clear H
        have H := H1
        clear H1
        simp only [Option.some.injEq, Prod.mk.injEq] at H
        obtain ⟨rfl, rfl⟩ := H
        go_wp2
        go_ret2
        exact ⟨_, by first | rfl | (simp [errW_none, errW_some] <;> rfl) | (simp [*, errW_none, errW_some] <;> rfl), by first | exact Kd.R_nil _ _ _ _ _ | exact Kd.N_nil _ _ _ _ _ | exact Kd.V_nil _ _ _ _ _ | exact Kd.Q_nil _ _ _ _ _ | exact Kd.S_nil _ _ _ _ _, by repeat (first | (with_reducible first | exact HB.out | apply below_alloc | apply pw_below_drewN | apply below_drew1) | exact HB.out)⟩
      · replace c5 := Bool.eq_false_iff.mpr c5
        subst c5
        have H1 : ((scrimref6_wider.f kj2).bind fun t409 => ((scrimref2_By.f kj2 l0 t409).bind fun t412 => ((scrimref1_Both.f kj2 t412 l1).bind fun t415 => (if 4 ≤ 281474976710656 then (scrimref6_F.l0 kj2 t415 (List.replicate 4 0) 0) else (none))))) = some (r1, r2) := by rw [if_neg (show ¬ (false = true) by decide)] at H; exact H
        clear H
        have H := H1
        clear H1
        replace H := Option.bind_eq_some_iff.mp H
        obtain ⟨t409, A60, H⟩ := H
        replace H : ((scrimref2_By.f kj2 l0 t409).bind fun t412 => ((scrimref1_Both.f kj2 t412 l1).bind fun t415 => (if 4 ≤ 281474976710656 then (scrimref6_F.l0 kj2 t415 (List.replicate 4 0) 0) else (none)))) = some (r1, r2) := H
        have A6 := Aside0.mk A60
        clear A60
        replace H := Option.bind_eq_some_iff.mp H
        obtain ⟨t412, A70, H⟩ := H
        replace H : ((scrimref1_Both.f kj2 t412 l1).bind fun t415 => (if 4 ≤ 281474976710656 then (scrimref6_F.l0 kj2 t415 (List.replicate 4 0) 0) else (none))) = some (r1, r2) := H
        have A7 := Aside0.mk A70
        clear A70
        replace H := Option.bind_eq_some_iff.mp H
        obtain ⟨t415, A80, H⟩ := H
        replace H : (if 4 ≤ 281474976710656 then (scrimref6_F.l0 kj2 t415 (List.replicate 4 0) 0) else (none)) = some (r1, r2) := H
        have A8 := Aside0.mk A80
        clear A80
        by_cases c9 : 4 ≤ 281474976710656
        · rw [if_pos c9] at H
          have c9b0 := eq_true c9
          have c9b1 : decide (4 ≤ 281474976710656) = true := decide_eq_true c9
          clear c9
          obtain ⟨y418, hy418⟩ : ∃ y_ : List Int, y_ = (List.replicate 4 0) := ⟨_, rfl⟩
          replace H : (scrimref6_F.l0 kj2 t415 y418 0) = some (r1, r2) := by first | (rw [hy418]; with_reducible exact H) | (have H2_ := (Option.bind_some _ _).symm.trans H; rw [hy418]; with_reducible exact H2_) | (have H2_ := (Option.bind_some _ _).symm.trans H; with_reducible exact H2_) | with_reducible exact H | (rw [hy418]; exact H) | exact H
          have Ny418 := Aside0.mk hy418
          clear hy418
          have H' := Aside0.mk H
          clear H
          go_wp2_with (first | ((with_reducible refine gate_callee (f := 35) rfl ?_); refine goesL_ (some 21) rfl rfl Try.func35 (by kernel_rfl) rfl #[] rfl (by (try simp only [List.map_toArray, List.map_cons, List.map_nil]); first | done | rfl | (simp only [List.length_drop, List.length_take]; rfl)) ?_; (with_reducible refine (scrimref6_wider.calls kj2  t409 _ A6.out).mono ?_); rintro e w10 ⟨v410, rfl, ho0, hb⟩; refine ⟨_, rfl, ?_⟩; have n0_ := Aside0.mk (Kd.R_lower ho0 (below_size HB.out)); have n1_ := Aside0.mk (below_step HB.out hb); clear HB; have HO411 := n0_; have HB := n1_; clear n0_ n1_; (try clear hb); (try clear hb2); (try clear hk); (try clear hi); (try clear ho0); obtain ⟨Ao11, co11, eo11⟩ := Kd.R_slice HO411.out; subst eo11) | ((with_reducible refine gate_callee (f := 21) rfl ?_); refine goesL_ (some 22) rfl rfl Try.func21 (by kernel_rfl) rfl #[.slice A0 l0.length c0, .slice Ao11 t409.length co11] rfl (by (try simp only [List.map_toArray, List.map_cons, List.map_nil]); first | done | rfl | (simp only [List.length_drop, List.length_take]; rfl)) ?_; (with_reducible refine (scrimref2_By.calls kj2 _ _ l0 _ _ t409 t412 _ ?side1 ?side2 ?side3 ?side4 A7.out).mono ?_); (case side1 => repeat (first | exact (Kd.C_below HR0.out HB.out) | (with_reducible refine Kd.C_alloc ?_ _) | (with_reducible refine Kd.C_drewN ?_ _) | (with_reducible refine Kd.C_drew ?_))); (case side2 => exact HC0.out); (case side3 => repeat (first | exact (Kd.R_reads' HO411.out).2.2 | (with_reducible refine Kd.C_alloc ?_ _) | (with_reducible refine Kd.C_drewN ?_ _) | (with_reducible refine Kd.C_drew ?_))); (case side4 => exact (Kd.R_reads' HO411.out).2.1); rintro e w12 ⟨v413, rfl, ho0, hb⟩; refine ⟨_, rfl, ?_⟩; have n0_ := Aside0.mk (Kd.R_below HO411.out hb); have n1_ := Aside0.mk (Kd.R_lower ho0 (below_size HB.out)); have n2_ := Aside0.mk (below_step HB.out hb); clear HO411; clear HB; have HO411 := n0_; have HO414 := n1_; have HB := n2_; clear n0_ n1_ n2_; (try clear hb); (try clear hb2); (try clear hk); (try clear hi); (try clear ho0); obtain ⟨Ao13, co13, eo13⟩ := Kd.R_slice HO414.out; subst eo13) | ((with_reducible refine gate_callee (f := 22) rfl ?_); refine goesL_ (some 24) rfl rfl Try.func22 (by kernel_rfl) rfl #[.slice Ao13 t412.length co13, .slice A1 l1.length c1] rfl (by (try simp only [List.map_toArray, List.map_cons, List.map_nil]); first | done | rfl | (simp only [List.length_drop, List.length_take]; rfl)) ?_; (with_reducible refine (scrimref1_Both.calls kj2 _ _ t412 _ _ l1 t415 _ ?side1 ?side2 ?side3 ?side4 A8.out).mono ?_); (case side1 => repeat (first | exact (Kd.R_reads' HO414.out).2.2 | (with_reducible refine Kd.C_alloc ?_ _) | (with_reducible refine Kd.C_drewN ?_ _) | (with_reducible refine Kd.C_drew ?_))); (case side2 => exact (Kd.R_reads' HO414.out).2.1); (case side3 => repeat (first | exact (Kd.C_below HR1.out HB.out) | (with_reducible refine Kd.C_alloc ?_ _) | (with_reducible refine Kd.C_drewN ?_ _) | (with_reducible refine Kd.C_drew ?_))); (case side4 => exact HC1.out); rintro e w14 ⟨v416, rfl, ho0, hb⟩; refine ⟨_, rfl, ?_⟩; have n0_ := Aside0.mk (Kd.R_below HO411.out hb); have n1_ := Aside0.mk (Kd.R_elder' HO414.out (Kd.R_base ho0) hb); have n2_ := Aside0.mk (Kd.R_lower (Kd.R_new' ho0 (Kd.R_lt HO414.out)) (below_size HB.out)); have n3_ := Aside0.mk (below_step HB.out hb); clear HO411; clear HO414; clear HB; have HO411 := n0_; have HO414 := n1_; have HO417 := n2_; have HB := n3_; clear n0_ n1_ n2_ n3_; (try clear hb); (try clear hb2); (try clear hk); (try clear hi); (try clear ho0)) | ((with_reducible refine gate_dst (N := 25) rfl ?_); (try (refine gate_guard (by rfl) ?_; dsimp only)); refine Kd.R_make (Kd.int .u8) _ 5 rfl (N := 25) rfl 22 _ _ rfl 4 rfl rfl Try.underlying22 (.int .u8 0) 1 info5 rfl (by decide) (by omega) 0 (ok := fun _ => True) (okp := fun _ => True) rfl (fun _ hk => hk) trivial (by omega) (by omega) (Below.refl _ _) (Nat.le_refl _) ?_; intro v419 w15 ho16 hb hg_ hnew_; clear hg_ hnew_; (first | rw [← Ny418.out] at ho16 | (simp only [Int.reduceToNat] at ho16; rw [← Ny418.out] at ho16)); have n0_ := Aside0.mk (Kd.R_below HO411.out hb); have n1_ := Aside0.mk (Kd.R_elder' HO414.out (Kd.R_base ho16) hb); have n2_ := Aside0.mk (Kd.R_elder' HO417.out (Kd.R_base ho16) hb); have n3_ := Aside0.mk (Kd.R_lower (Kd.R_new' (Kd.R_new' ho16 (Kd.R_lt HO414.out)) (Kd.R_lt HO417.out)) (below_size HB.out)); have n4_ := Aside0.mk (below_step HB.out hb); clear HO411; clear HO414; clear HO417; clear HB; have HO411 := n0_; have HO414 := n1_; have HO417 := n2_; have HO420 := n3_; have HB := n4_; clear n0_ n1_ n2_ n3_ n4_; clear hb ho16))
          go_loopg [8] kj2 (fun kq v8 w' => ∃ (x7_2 : List Int) (x8_2 : Int), v8 = .int .i64 x8_2 ∧ Aside0 (scrimref6_F.l0 kq t415 x7_2 x8_2 = some (r1, r2)) ∧ Aside0 (kq ≤ kj2) ∧ Aside0 (Kd.R (Kd.int .u8) 5 w' w.heap.size (fun k_ => some k_ ≠ (v419 : Value).ownBlock) v416 t415) ∧ Aside0 (Kd.R (Kd.int .u8) 5 w' w.heap.size (fun k_ => some k_ ≠ (v416 : Value).ownBlock) v419 x7_2) ∧ Aside0 (Below w.heap.size w w'))
          case atStart => exact ⟨(y418), (0), (by first | rfl | (simp; done) | (simp [*]; done)), H', ⟨Nat.le_refl _⟩, ⟨by (with_reducible repeat (first | apply Kd.R_alloc | apply Kd.R_drewN | apply Kd.R_drew)); exact Kd.R_mono HO417.out (fun _ hk => hk.2)⟩, ⟨by (with_reducible repeat (first | apply Kd.R_alloc | apply Kd.R_drewN | apply Kd.R_drew)); exact Kd.R_mono HO420.out (fun _ hk => hk.2)⟩, ⟨by repeat (first | (with_reducible first | exact HB.out | apply below_alloc | apply pw_below_drewN | apply below_drew1) | exact HB.out)⟩⟩
          case round =>
            clear H'
            try clear c1
            try clear c2
            try clear p2
            try clear c3
            try clear c4
            try clear c4b0
            try clear c4b1
            try clear c5
            try clear c9
            try clear c9b0
            try clear c9b1
            try clear c16
            try clear p2
            obtain ⟨x7_2, x8_2, rfl, HA, HK2, HO_6, HO_7, HB⟩ := hrel
            cases gk with
            | zero => exact absurd HA.out (by simp [scrimref6_F.l0])
            | succ k2 =>
              have H := HA.out
              clear HA
              simp only [scrimref6_F.l0] at H
              by_cases c17 : x8_2 < 8
              · rw [if_pos c17] at H
                have c17b0 : decide (x8_2 < 8) = true := decide_eq_true c17
                clear c17
                have H' := Aside0.mk H
                clear H
                go_wp2
                go_loopg [9, 10] k2 (fun kq v9 v10 w' => ∃ (x9_3 : Int) (x10_3 : Int), v9 = .int .i64 x9_3 ∧ v10 = .int .i64 x10_3 ∧ Aside0 (scrimref6_F.l1 kq t415 x7_2 x8_2 x9_3 x10_3 = some (r1, r2)) ∧ Aside0 (kq ≤ k2) ∧ Aside0 (Kd.R (Kd.int .u8) 5 w' w.heap.size (fun k_ => some k_ ≠ (v419 : Value).ownBlock) v416 t415) ∧ Aside0 (Kd.R (Kd.int .u8) 5 w' w.heap.size (fun k_ => some k_ ≠ (v416 : Value).ownBlock) v419 x7_2) ∧ Aside0 (Below w.heap.size w w'))
                case atStart => exact ⟨(0), (1), (by first | rfl | (simp; done) | (simp [*]; done)), (by first | rfl | (simp; done) | (simp [*]; done)), H', ⟨Nat.le_refl _⟩, ⟨by (with_reducible repeat (first | apply Kd.R_alloc | apply Kd.R_drewN | apply Kd.R_drew)); exact HO_6.out⟩, ⟨by (with_reducible repeat (first | apply Kd.R_alloc | apply Kd.R_drewN | apply Kd.R_drew)); exact HO_7.out⟩, ⟨by repeat (first | (with_reducible first | exact HB.out | apply below_alloc | apply pw_below_drewN | apply below_drew1) | exact HB.out)⟩⟩
                case round =>
                  clear H'
                  try clear c1
                  try clear c2
                  try clear p2
                  try clear c3
                  try clear c4
                  try clear c4b0
                  try clear c4b1
                  try clear c5
                  try clear c9
                  try clear c9b0
                  try clear c9b1
                  try clear c16
                  try clear c17
                  try clear c17b0
                  try clear p2
                  obtain ⟨x9_3, x10_3, rfl, rfl, HA, HK3, HO_6, HO_7, HB⟩ := hrel
                  cases gk with
                  | zero => exact absurd HA.out (by simp [scrimref6_F.l1])
                  | succ k3 =>
                    have H := HA.out
                    clear HA
                    simp only [scrimref6_F.l1] at H
                    by_cases c18 : x10_3 ≤ 6
                    · rw [if_pos c18] at H
                      have c18b0 : decide (x10_3 ≤ 6) = true := decide_eq_true c18
                      clear c18
                      replace H := Option.bind_eq_some_iff.mp H
                      obtain ⟨t427, A190, H⟩ := H
                      replace H : (scrimref6_F.l1 k3 t415 x7_2 x8_2 (wrap64 ((wrap64 (2 * x9_3)) + t427)) (wrap64 (x10_3 + 1))) = some (r1, r2) := H
                      have A19 := Aside0.mk A190
                      clear A190
                      have H' := Aside0.mk H
                      clear H
                      obtain ⟨Ao20, co20, eo20⟩ := Kd.R_slice HO_6.out
                      subst eo20
                      go_wp2_with (first | ((with_reducible refine gate_callee (f := 36) rfl ?_); refine goesL_ (some 41) rfl rfl Try.func36 (by kernel_rfl) rfl #[.slice Ao20 t415.length co20, .int .i64 (wrap64 ((wrap64 (6 * x8_2)) + x10_3))] rfl (by (try simp only [List.map_toArray, List.map_cons, List.map_nil]); first | done | rfl | (simp only [List.length_drop, List.length_take]; rfl)) ?_; (with_reducible refine (scrimref2_Bit.calls _ _ t415 (wrap64 ((wrap64 (6 * x8_2)) + x10_3)) t427 _ ?side1 ?side2 A19.out).mono ?_); (case side1 => repeat (first | exact (Kd.R_reads' HO_6.out).2.2 | (with_reducible refine Kd.C_alloc ?_ _) | (with_reducible refine Kd.C_drewN ?_ _) | (with_reducible refine Kd.C_drew ?_))); (case side2 => exact (Kd.R_reads' HO_6.out).2.1); rintro e w' ⟨rfl, ⟨nd, rfl⟩⟩; refine ⟨_, rfl, ?_⟩))
                      go_roundg k3
                      case measure => have := HJ2.out; have := HK2.out; have := HK3.out; omega
                      case rel => exact ⟨(wrap64 ((wrap64 (2 * x9_3)) + t427)), (wrap64 (x10_3 + 1)), (by first | rfl | (simp; done) | (simp [*]; done)), (by first | rfl | (simp; done) | (simp [*]; done)), H', ⟨by have := HJ2.out; have := HK2.out; have := HK3.out; omega⟩, ⟨by (with_reducible repeat (first | apply Kd.R_alloc | apply Kd.R_drewN | apply Kd.R_drew)); exact HO_6.out⟩, ⟨by (with_reducible repeat (first | apply Kd.R_alloc | apply Kd.R_drewN | apply Kd.R_drew)); exact HO_7.out⟩, ⟨by repeat (first | (with_reducible first | exact HB.out | apply below_alloc | apply pw_below_drewN | apply below_drew1) | exact HB.out)⟩⟩
                    · rw [if_neg c18] at H
                      have c18b0 : decide (x10_3 ≤ 6) = false := decide_eq_false c18
                      clear c18
                      replace H := Option.bind_eq_some_iff.mp H
                      obtain ⟨t428, A210, H⟩ := H
                      replace H : (if 0 ≤ (wrap64 ((wrap64 ((wrap64 (Int.tdiv x9_3 32)) * 2)) + (Int.tmod x9_3 2))) then (if (wrap64 ((wrap64 ((wrap64 (Int.tdiv x9_3 32)) * 2)) + (Int.tmod x9_3 2))) < (t428.length : Int) then ((scrimref6_At.f (rdOf ByteArray.empty t428 (wrap64 ((wrap64 ((wrap64 (Int.tdiv x9_3 32)) * 2)) + (Int.tmod x9_3 2)))) (Int.tmod (wrap64 (Int.tdiv x9_3 2)) 16)).bind fun t432 => (if 0 ≤ (wrap64 (Int.tdiv x8_2 2)) then (if (wrap64 (Int.tdiv x8_2 2)) < (x7_2.length : Int) then (if 0 ≤ (IntKind.u64.wrap (wrap64 (4 - (wrap64 (4 * (Int.tmod x8_2 2)))))) then (scrimref6_F.l0 k3 t415 (x7_2.set ((wrap64 (Int.tdiv x8_2 2)) : Int).toNat (Go.bits .or .u8 (rd x7_2 (wrap64 (Int.tdiv x8_2 2))) ((shl .i64 t432 (IntKind.u64.wrap (wrap64 (4 - (wrap64 (4 * (Int.tmod x8_2 2))))))) % 256))) (wrap64 (x8_2 + 1))) else (none)) else (none)) else (none))) else (none)) else (none)) = some (r1, r2) := H
                      have A21 := Aside0.mk A210
                      clear A210
                      obtain ⟨ji22, hji22⟩ : ∃ j_ : Int, (wrap64 ((wrap64 ((wrap64 (Int.tdiv x9_3 32)) * 2)) + (Int.tmod x9_3 2))) = j_ := ⟨_, rfl⟩
                      replace H : (if 0 ≤ (ji22) then (if (ji22) < (t428.length : Int) then ((scrimref6_At.f (rdOf ByteArray.empty t428 (ji22)) (Int.tmod (wrap64 (Int.tdiv x9_3 2)) 16)).bind fun t432 => (if 0 ≤ (wrap64 (Int.tdiv x8_2 2)) then (if (wrap64 (Int.tdiv x8_2 2)) < (x7_2.length : Int) then (if 0 ≤ (IntKind.u64.wrap (wrap64 (4 - (wrap64 (4 * (Int.tmod x8_2 2)))))) then (scrimref6_F.l0 k3 t415 (x7_2.set ((wrap64 (Int.tdiv x8_2 2)) : Int).toNat (Go.bits .or .u8 (rd x7_2 (wrap64 (Int.tdiv x8_2 2))) ((shl .i64 t432 (IntKind.u64.wrap (wrap64 (4 - (wrap64 (4 * (Int.tmod x8_2 2))))))) % 256))) (wrap64 (x8_2 + 1))) else (none)) else (none)) else (none))) else (none)) else (none)) = some (r1, r2) := by first | (rw [hji22] at H; exact H) | (simp only [hji22] at H ⊢; exact H)
                      (try rw [hji22] at A21)
                      have hji22w : (IntKind.i64.wrap ((wrap64 ((wrap64 (Int.tdiv x9_3 32)) * 2)) + (Int.tmod x9_3 2))) = ji22 := (i64_w _).trans hji22
                      by_cases c23 : 0 ≤ (ji22)
                      rotate_left
                      · rw [if_neg c23] at H
                        exact absurd H (by simp)
                      rw [if_pos c23] at H
                      have c23b0 : decide (0 ≤ (ji22)) = true := decide_eq_true c23
                      clear c23
                      by_cases c24 : (ji22) < (t428.length : Int)
                      rotate_left
                      · rw [if_neg c24] at H
                        exact absurd H (by simp)
                      rw [if_pos c24] at H
                      have c24b0 : decide ((ji22) < (t428.length : Int)) = true := decide_eq_true c24
                      clear c24
                      replace H := Option.bind_eq_some_iff.mp H
                      obtain ⟨t432, A250, H⟩ := H
                      replace H : (if 0 ≤ (wrap64 (Int.tdiv x8_2 2)) then (if (wrap64 (Int.tdiv x8_2 2)) < (x7_2.length : Int) then (if 0 ≤ (IntKind.u64.wrap (wrap64 (4 - (wrap64 (4 * (Int.tmod x8_2 2)))))) then (scrimref6_F.l0 k3 t415 (x7_2.set ((wrap64 (Int.tdiv x8_2 2)) : Int).toNat (Go.bits .or .u8 (rd x7_2 (wrap64 (Int.tdiv x8_2 2))) ((shl .i64 t432 (IntKind.u64.wrap (wrap64 (4 - (wrap64 (4 * (Int.tmod x8_2 2))))))) % 256))) (wrap64 (x8_2 + 1))) else (none)) else (none)) else (none)) = some (r1, r2) := H
                      have A25 := Aside0.mk A250
                      clear A250
                      obtain ⟨ji26, hji26⟩ : ∃ j_ : Int, (wrap64 (Int.tdiv x8_2 2)) = j_ := ⟨_, rfl⟩
                      replace H : (if 0 ≤ (ji26) then (if (ji26) < (x7_2.length : Int) then (if 0 ≤ (IntKind.u64.wrap (wrap64 (4 - (wrap64 (4 * (Int.tmod x8_2 2)))))) then (scrimref6_F.l0 k3 t415 (x7_2.set ((ji26) : Int).toNat (Go.bits .or .u8 (rd x7_2 (ji26)) ((shl .i64 t432 (IntKind.u64.wrap (wrap64 (4 - (wrap64 (4 * (Int.tmod x8_2 2))))))) % 256))) (wrap64 (x8_2 + 1))) else (none)) else (none)) else (none)) = some (r1, r2) := by first | (rw [hji26] at H; exact H) | (simp only [hji26] at H ⊢; exact H)
                      (try rw [hji26] at A21)
                      (try rw [hji26] at A25)
                      have hji26w : (IntKind.i64.wrap (Int.tdiv x8_2 2)) = ji26 := (i64_w _).trans hji26
                      by_cases c27 : 0 ≤ (ji26)
                      rotate_left
                      · rw [if_neg c27] at H
                        exact absurd H (by simp)
                      rw [if_pos c27] at H
                      have c27b0 : decide (0 ≤ (ji26)) = true := decide_eq_true c27
                      clear c27
                      by_cases c28 : (ji26) < (x7_2.length : Int)
                      rotate_left
                      · rw [if_neg c28] at H
                        exact absurd H (by simp)
                      rw [if_pos c28] at H
                      have c28b0 : decide ((ji26) < (x7_2.length : Int)) = true := decide_eq_true c28
                      clear c28
                      obtain ⟨ji29, hji29⟩ : ∃ j_ : Int, (IntKind.u64.wrap (wrap64 (4 - (wrap64 (4 * (Int.tmod x8_2 2)))))) = j_ := ⟨_, rfl⟩
                      replace H : (if 0 ≤ (ji29) then (scrimref6_F.l0 k3 t415 (x7_2.set ((ji26) : Int).toNat (Go.bits .or .u8 (rd x7_2 (ji26)) ((shl .i64 t432 (ji29)) % 256))) (wrap64 (x8_2 + 1))) else (none)) = some (r1, r2) := by first | (rw [hji29] at H; exact H) | (simp only [hji29] at H ⊢; exact H)
                      (try rw [hji29] at A21)
                      (try rw [hji29] at A25)
                      by_cases c30 : 0 ≤ (ji29)
                      rotate_left
                      · rw [if_neg c30] at H
                        exact absurd H (by simp)
                      rw [if_pos c30] at H
                      have c30b0 := eq_true c30
                      have c30b1 : decide (0 ≤ (ji29)) = true := decide_eq_true c30
                      clear c30
                      obtain ⟨ji31, hji31⟩ : ∃ j_ : Int, (shl .i64 t432 (ji29)) = j_ := ⟨_, rfl⟩
                      replace H : (scrimref6_F.l0 k3 t415 (x7_2.set ((ji26) : Int).toNat (Go.bits .or .u8 (rd x7_2 (ji26)) ((ji31) % 256))) (wrap64 (x8_2 + 1))) = some (r1, r2) := by first | (rw [hji31] at H; exact H) | (simp only [hji31] at H ⊢; exact H)
                      (try rw [hji31] at A21)
                      (try rw [hji31] at A25)
                      have hji31_ : (IntKind.i64.wrap (t432 * 2 ^ min (ji29).toNat 64)) = ji31 := hji31
                      have hji31z : (ji29) ≤ 64 → (IntKind.i64.wrap (t432 * 2 ^ (ji29).toNat)) = ji31 := shl_small hji31
                      have hji31y : (wrap64 (t432 * 2 ^ min (ji29).toNat 64)) = ji31 := (i64_w _).symm.trans hji31_
                      have hji31x : (ji29) ≤ 64 → (wrap64 (t432 * 2 ^ (ji29).toNat)) = ji31 := fun h_ => (i64_w _).symm.trans (hji31z h_)
                      obtain ⟨y434, hy434⟩ : ∃ y_ : List Int, y_ = (x7_2.set ((ji26) : Int).toNat (Go.bits .or .u8 (rd x7_2 (ji26)) ((ji31) % 256))) := ⟨_, rfl⟩
                      replace H : (scrimref6_F.l0 k3 t415 y434 (wrap64 (x8_2 + 1))) = some (r1, r2) := by first | (rw [hy434]; with_reducible exact H) | (have H2_ := (Option.bind_some _ _).symm.trans H; rw [hy434]; with_reducible exact H2_) | (have H2_ := (Option.bind_some _ _).symm.trans H; with_reducible exact H2_) | with_reducible exact H | (rw [hy434]; exact H) | exact H
                      have Ny434 := Aside0.mk hy434
                      clear hy434
                      have H' := Aside0.mk H
                      clear H
                      go_wp2_with (first | ((with_reducible refine gate_callee (f := 38) rfl ?_); refine goesL_ (some 44) rfl rfl Try.func38 (by kernel_rfl) rfl #[.int .i64 x8_2] rfl (by (try simp only [List.map_toArray, List.map_cons, List.map_nil]); first | done | rfl | (simp only [List.length_drop, List.length_take]; rfl)) ?_; (with_reducible refine (scrimref6_rows.calls x8_2 t428 _ A21.out).mono ?_); rintro e w33 ⟨v429, rfl, ho0, hb⟩; refine ⟨_, rfl, ?_⟩; have n0_ := Aside0.mk (Kd.R_below HO_6.out hb); have n1_ := Aside0.mk (Kd.R_below HO_7.out hb); have n2_ := Aside0.mk (Kd.R_lower ho0 (below_size (by repeat (first | (with_reducible first | exact HB.out | apply below_alloc | apply pw_below_drewN | apply below_drew1) | exact HB.out)))); have n3_ := Aside0.mk (below_step (by repeat (first | (with_reducible first | exact HB.out | apply below_alloc | apply pw_below_drewN | apply below_drew1) | exact HB.out)) hb); clear HO_6; clear HO_7; clear HB; have HO_6 := n0_; have HO_7 := n1_; have HO430 := n2_; have HB := n3_; clear n0_ n1_ n2_ n3_; (try clear hb); (try clear hb2); (try clear hk); (try clear hi); (try clear ho0); obtain ⟨Ao34, co34, eo34⟩ := Kd.R_slice HO430.out; subst eo34; have p431 : 0 ≤ ((ji22) : Int) := of_decide_eq_true (by first | (with_reducible assumption) | assumption); have q431 : (ji22) < (t428.length : Int) := of_decide_eq_true (by first | (with_reducible assumption) | assumption); obtain ⟨ad431, e431, hx431_0⟩ := Kd.at_string (Kd.R_reads' HO430.out).2.2 (ji22) p431 q431; cases e431; replace p431 := eq_true p431; replace q431 := eq_true q431) | ((with_reducible refine gate_callee (f := 37) rfl ?_); refine goesL_ (some 56) rfl rfl Try.func37 (by kernel_rfl) rfl #[.string (rdOf ByteArray.empty t428 (ji22)), .int .i64 (Int.tmod (wrap64 (Int.tdiv x9_3 2)) 16)] rfl (by (try simp only [List.map_toArray, List.map_cons, List.map_nil]); first | done | (simp only [hji22]; rfl) | rfl | (simp only [List.length_drop, List.length_take]; rfl)) ?_; (with_reducible refine (scrimref6_At.calls (rdOf ByteArray.empty t428 (ji22)) (Int.tmod (wrap64 (Int.tdiv x9_3 2)) 16) t432 _ A25.out).mono ?_); rintro e w' ⟨rfl, ⟨nd, rfl⟩⟩; refine ⟨_, rfl, ?_⟩; (try (rw [drewN_self w33]; generalize hq_ : World.drewN w33 _ = w33; have n0_ : Aside0 (Kd.R Kd.string 9 w33 w.heap.size (fun _ => True) (.slice (some ad431) t428.length co34) t428) := ⟨by rw [← hq_]; exact HO430.out⟩; have n1_ : Aside0 (Kd.R (Kd.int .u8) 5 w33 w.heap.size (fun k_ => some k_ ≠ (v419 : Value).ownBlock) v416 t415) := ⟨by rw [← hq_]; exact HO_6.out⟩; have n2_ : Aside0 (Kd.R (Kd.int .u8) 5 w33 w.heap.size (fun k_ => some k_ ≠ (v416 : Value).ownBlock) v419 x7_2) := ⟨by rw [← hq_]; exact HO_7.out⟩; have n3_ : Aside0 (Below w.heap.size w w33) := ⟨by rw [← hq_]; exact (by repeat (first | (with_reducible first | exact HB.out | apply below_alloc | apply pw_below_drewN | apply below_drew1) | exact HB.out))⟩; clear HO430 HO_6 HO_7 HB hq_; have HO430 := n0_; have HO_6 := n1_; have HO_7 := n2_; have HB := n3_; clear n0_ n1_ n2_ n3_)); obtain ⟨Ao35, co35, eo35⟩ := Kd.R_slice HO_7.out; subst eo35; have p433 : 0 ≤ ((ji26) : Int) := of_decide_eq_true (by first | (with_reducible assumption) | assumption); have q433 : (ji26) < (x7_2.length : Int) := of_decide_eq_true (by first | (with_reducible assumption) | assumption); obtain ⟨ad433, e433, hx433_0⟩ := Kd.at_int (Kd.R_reads' HO_7.out).2.2 (ji26) p433 q433; cases e433; replace p433 := eq_true p433; replace q433 := eq_true q433; have p32 : 0 ≤ ((ji26) : Int) := of_decide_eq_true (by first | (with_reducible assumption) | assumption); have q32 : ((ji26) : Int) < ((x7_2.length : Int) : Int) := of_decide_eq_true (by first | (with_reducible assumption) | assumption); obtain ⟨go32, co32, eo32, gb32, gl32, cl32, HG32⟩ := Kd.R_form HO_7.out (by omega); (first | cases eo32 | (injection eo32 with ea_ en_ ec_; (first | subst ea_ | (injection ea_ with ea_; subst ea_)); subst ec_; clear en_)); have GB32 := Aside0.mk gb32; have GG32 := Aside0.mk HG32; clear gb32 gl32 HG32; (first | simp only [add_plain] at hx433_0 | skip); obtain ⟨hx32_0, hf32_0⟩ := Kd.R_celln 0 HO_7.out ((ji26) : Int) p32 q32; replace p32 := eq_true p32; replace q32 := eq_true q32; obtain ⟨hy36_, hz36_⟩ := Kd.R_celln 0 HO_7.out ((ji26) : Int) (of_decide_eq_true (by first | (with_reducible assumption) | assumption)) (of_decide_eq_true (by first | (with_reducible assumption) | assumption)); have HP36 := Kd.R_putg HO_7.out ((ji26) : Int) (Go.bits .or .u8 (rd x7_2 (ji26)) ((ji31) % 256))) | ((with_reducible refine gate_store (t := 5) (p := 74) rfl ?_); refine store_event (t := 5) (p := 74) (v := ?vo_w37) (w1 := (w33.setCell ⟨go32, ((ji26) : Int).toNat, none⟩ (.int .u8 (Go.bits .or .u8 (rd x7_2 (ji26)) ((ji31) % 256))))) ?hg ?ho ?hn ?hr ?_; (case ho => rfl); (case hg => rfl); (case hn => rfl); (case hr => first | (go_simp; done) | (go_simp; rfl)); intro w37 hw; have hg : w33.grownBy w37 (some go32) := (by rw [hw]; exact HP36.2); have hp_ : Kd.R (Kd.int .u8) 5 w37 w.heap.size (fun k_ => some k_ ≠ (v416 : Value).ownBlock) (.slice (some ⟨go32, 0, none⟩) x7_2.length co35) y434 := (by rw [hw, Ny434.out]; exact HP36.1); clear HP36; have n0_ := Aside0.mk (Kd.R_after (v := (.slice (some ⟨go32, 0, none⟩) x7_2.length co35)) (v1 := (.slice (some ⟨go32, 0, none⟩) x7_2.length co35)) (ok := (fun _ => True)) (Kd.R_mono HO_6.out (fun _ hk => ⟨trivial, hk⟩)) hg (.inl rfl)); have n1_ := Aside0.mk (hp_); have n2_ := Aside0.mk (Kd.R_over' (v := (.slice (some ⟨go32, 0, none⟩) x7_2.length co35)) HO430.out (Kd.R_typed HO_7.out) (by decide) hg); have n3_ := Aside0.mk ((by rw [hw]; exact below_set (HB.out) GB32.out : Below w.heap.size w w37)); clear HO_6; clear HO_7; clear HO430; clear HB; have HO_6 := n0_; have HO_7 := n1_; have HO430 := n2_; have HB := n3_; clear n0_ n1_ n2_ n3_; clear hg hw hp_))
                      go_roundg k3
                      case measure => have := HJ2.out; have := HK2.out; have := HK3.out; omega
                      case rel => exact ⟨(y434), (wrap64 (x8_2 + 1)), (by first | rfl | (simp; done) | (simp [*]; done)), H', ⟨by have := HJ2.out; have := HK2.out; have := HK3.out; omega⟩, ⟨by (with_reducible repeat (first | apply Kd.R_alloc | apply Kd.R_drewN | apply Kd.R_drew)); exact Kd.R_mono HO_6.out (fun _ hk => hk.2)⟩, ⟨by (with_reducible repeat (first | apply Kd.R_alloc | apply Kd.R_drewN | apply Kd.R_drew)); exact HO_7.out⟩, ⟨by repeat (first | (with_reducible first | exact HB.out | apply below_alloc | apply pw_below_drewN | apply below_drew1) | exact HB.out)⟩⟩
              · rw [if_neg c17] at H
                have c17b0 : decide (x8_2 < 8) = false := decide_eq_false c17
                clear c17
                replace H := Option.bind_eq_some_iff.mp H
                obtain ⟨t421, A380, H⟩ := H
                replace H : ((scrimref2_By.f k2 x7_2 t421).bind fun t424 => (some (t424, true))) = some (r1, r2) := H
                have A38 := Aside0.mk A380
                clear A380
                replace H := Option.bind_eq_some_iff.mp H
                obtain ⟨t424, A390, H⟩ := H
                replace H : (some (t424, true)) = some (r1, r2) := H
                have A39 := Aside0.mk A390
                clear A390
                simp only [Option.some.injEq, Prod.mk.injEq] at H
                obtain ⟨rfl, rfl⟩ := H
                go_wp2_with (first | ((with_reducible refine gate_callee (f := 39) rfl ?_); refine goesL_ (some 76) rfl rfl Try.func39 (by kernel_rfl) rfl #[] rfl (by (try simp only [List.map_toArray, List.map_cons, List.map_nil]); first | done | rfl | (simp only [List.length_drop, List.length_take]; rfl)) ?_; (with_reducible refine (scrimref6_mixed.calls  t421 _ A38.out).mono ?_); rintro e w40 ⟨v422, rfl, ho0, hb⟩; refine ⟨_, rfl, ?_⟩; have n0_ := Aside0.mk (Kd.R_below HO_6.out hb); have n1_ := Aside0.mk (Kd.R_below HO_7.out hb); have n2_ := Aside0.mk (Kd.R_lower ho0 (below_size HB.out)); have n3_ := Aside0.mk (below_step HB.out hb); clear HO_6; clear HO_7; clear HB; have HO_6 := n0_; have HO_7 := n1_; have HO423 := n2_; have HB := n3_; clear n0_ n1_ n2_ n3_; (try clear hb); (try clear hb2); (try clear hk); (try clear hi); (try clear ho0); obtain ⟨Ao41, co41, eo41⟩ := Kd.R_slice HO_7.out; subst eo41; obtain ⟨Ao42, co42, eo42⟩ := Kd.R_slice HO423.out; subst eo42) | ((with_reducible refine gate_callee (f := 21) rfl ?_); refine goesL_ (some 77) rfl rfl Try.func21 (by kernel_rfl) rfl #[.slice Ao41 x7_2.length co41, .slice Ao42 t421.length co42] rfl (by (try simp only [List.map_toArray, List.map_cons, List.map_nil]); first | done | rfl | (simp only [List.length_drop, List.length_take]; rfl)) ?_; (with_reducible refine (scrimref2_By.calls k2 _ _ x7_2 _ _ t421 t424 _ ?side1 ?side2 ?side3 ?side4 A39.out).mono ?_); (case side1 => repeat (first | exact (Kd.R_reads' HO_7.out).2.2 | (with_reducible refine Kd.C_alloc ?_ _) | (with_reducible refine Kd.C_drewN ?_ _) | (with_reducible refine Kd.C_drew ?_))); (case side2 => exact (Kd.R_reads' HO_7.out).2.1); (case side3 => repeat (first | exact (Kd.R_reads' HO423.out).2.2 | (with_reducible refine Kd.C_alloc ?_ _) | (with_reducible refine Kd.C_drewN ?_ _) | (with_reducible refine Kd.C_drew ?_))); (case side4 => exact (Kd.R_reads' HO423.out).2.1); rintro e w43 ⟨v425, rfl, ho0, hb⟩; refine ⟨_, rfl, ?_⟩; have n0_ := Aside0.mk (Kd.R_elder' HO_6.out (Kd.R_base ho0) hb); have n1_ := Aside0.mk (Kd.R_elder' HO_7.out (Kd.R_base ho0) hb); have n2_ := Aside0.mk (Kd.R_below HO423.out hb); have n3_ := Aside0.mk (Kd.R_lower (Kd.R_new' (Kd.R_new' ho0 (Kd.R_lt HO_6.out)) (Kd.R_lt HO_7.out)) (below_size HB.out)); have n4_ := Aside0.mk (below_step HB.out hb); clear HO_6; clear HO_7; clear HO423; clear HB; have HO_6 := n0_; have HO_7 := n1_; have HO423 := n2_; have HO426 := n3_; have HB := n4_; clear n0_ n1_ n2_ n3_ n4_; (try clear hb); (try clear hb2); (try clear hk); (try clear hi); (try clear ho0)))
                go_ret2
                exact ⟨_, by first | rfl | (simp [errW_none, errW_some] <;> rfl) | (simp [*, errW_none, errW_some] <;> rfl), by (with_reducible repeat (first | apply Kd.R_alloc | apply Kd.R_drewN | apply Kd.R_drew)); exact Kd.R_mono HO426.out (fun _ hk => trivial), by repeat (first | (with_reducible first | exact HB.out | apply below_alloc | apply pw_below_drewN | apply below_drew1) | exact HB.out)⟩
        · rw [if_neg c9] at H
          exact absurd H (by simp)

end Go.Proofs.Ytnbopkmhakfmmaa.MDes
