/- A walk: each Go function that is named here answers what its plain function answers. Conditions: its arguments are read as lists and numbers. -/
import Derived.Test.YtnbopkmhakfmmaaMDesx0
import Derived.Test.YtnbopkmhakfmmaaMDesj
namespace Go.Proofs.Ytnbopkmhakfmmaa.MDes
open Go.RowKit Go.Proofs.YtnbopkmhakfmmaaW.PrintWords Go.Proofs.YtnbopkmhakfmmaaW.PrintLast Go.Proofs.YtnbopkmhakfmmaaW.PrintMore
attribute [local go_sem] max2_int min2_int max_two min_two max_three min_three max_four min_four   -- for this text's walks alone
set_option linter.unusedVariables false
set_option linter.unusedSimpArgs false

/-! ### scrimref6_chosen: function 27 -/
mutual
def scrimref6_chosen.l0 : Nat → List Int → Int → Option (List Int)
  | 0, _, _ => none
  | k + 1, x1, x2 => if (x1.length : Int) < 28 then (if x1.length < 17592186044416 then ((some (x1 ++ [x2] : List Int)).bind fun y336 => (if (wrap64 (x2 - 8)) < 1 then (scrimref6_chosen.l0 k y336 (wrap64 ((wrap64 (x2 - 8)) + 65))) else (scrimref6_chosen.l0 k y336 (wrap64 (x2 - 8))))) else (none)) else (scrimref6_chosen.l1 k x1 63)
def scrimref6_chosen.l1 : Nat → List Int → Int → Option (List Int)
  | 0, _, _ => none
  | k + 1, x1, x2 => if (x1.length : Int) < 52 then (if x1.length < 17592186044416 then ((some (x1 ++ [x2] : List Int)).bind fun y339 => (if (wrap64 (x2 - 8)) < 1 then (scrimref6_chosen.l1 k y339 (wrap64 ((wrap64 (x2 - 8)) + 63))) else (scrimref6_chosen.l1 k y339 (wrap64 (x2 - 8))))) else (none)) else ((some (([28, 20, 12, 4] : List Int) : List Int)).bind fun y342 => (if x1.length + y342.length < 17592186044416 then (some (x1 ++ y342)) else (none)))
end
def scrimref6_chosen.f (k : Nat)  : Option (List Int) := scrimref6_chosen.l0 k ([] : List Int) 57
theorem scrimref6_chosen.mono_l : ∀ k, (∀ y0 y1, LeO (scrimref6_chosen.l0 k y0 y1) (scrimref6_chosen.l0 (k + 1) y0 y1)) ∧ (∀ y0 y1, LeO (scrimref6_chosen.l1 k y0 y1) (scrimref6_chosen.l1 (k + 1) y0 y1))
  | 0 => ⟨fun _ _ r h => by simp [scrimref6_chosen.l0] at h, fun _ _ r h => by simp [scrimref6_chosen.l1] at h⟩
  | k + 1 => by
    obtain ⟨ih0, ih1⟩ := scrimref6_chosen.mono_l k
    refine ⟨?_, ?_⟩
    · intro y0 y1
      unfold scrimref6_chosen.l0
      repeat' first
      | (with_reducible exact ih0 _ _)
      | (with_reducible exact ih1 _ _)
      | (with_reducible exact LeO.refl _)
      | (with_reducible exact LeO.none _)
      | (with_reducible refine LeO.ite ?_ ?_)
      | (with_reducible refine LeO.bind ?_ (fun _ => ?_))
      | exact ih0 _ _
      | exact ih1 _ _
      | exact LeO.none _
      | refine LeO.ite ?_ ?_
      | refine LeO.bind ?_ (fun _ => ?_)
    · intro y0 y1
      unfold scrimref6_chosen.l1
      repeat' first
      | (with_reducible exact ih0 _ _)
      | (with_reducible exact ih1 _ _)
      | (with_reducible exact LeO.refl _)
      | (with_reducible exact LeO.none _)
      | (with_reducible refine LeO.ite ?_ ?_)
      | (with_reducible refine LeO.bind ?_ (fun _ => ?_))
      | exact ih0 _ _
      | exact ih1 _ _
      | exact LeO.none _
      | refine LeO.ite ?_ ?_
      | refine LeO.bind ?_ (fun _ => ?_)
theorem scrimref6_chosen.mono : ∀ k, LeO (scrimref6_chosen.f k ) (scrimref6_chosen.f (k + 1) ) := by
  intro  k
  obtain ⟨ih0, ih1⟩ := scrimref6_chosen.mono_l k
  unfold scrimref6_chosen.f
  repeat' first
      | (with_reducible exact ih0 _ _)
      | (with_reducible exact ih1 _ _)
      | (with_reducible exact LeO.refl _)
      | (with_reducible exact LeO.none _)
      | (with_reducible refine LeO.ite ?_ ?_)
      | (with_reducible refine LeO.bind ?_ (fun _ => ?_))
      | exact ih0 _ _
      | exact ih1 _ _
      | exact LeO.none _
      | refine LeO.ite ?_ ?_
      | refine LeO.bind ?_ (fun _ => ?_)
set_option maxHeartbeats 8000000 in
set_option maxRecDepth 100000 in
theorem scrimref6_chosen.calls (k : Nat)  (r : List Int) (w : World) (h : scrimref6_chosen.f k  = some r) :
    Calls Try.prog 27 #[] w fun e w' => ∃ v0_ : Value, e = .returned (v0_) ∧ Kd.R (Kd.int .i64) 3 w' w.heap.size (fun _ => True) v0_ r ∧ Below w.heap.size w w' := by
  have HB := Aside0.mk (Below.refl w.heap.size w)
  have H : (scrimref6_chosen.l0 k ([] : List Int) 57) = some r := h
  clear h
  have H' := Aside0.mk H
  clear H
  go_enter Try.func27, Try.ntmps27
  go_wp2
  go_loopg [1, 2] k (fun kq v1 v2 w' => ∃ (x1_1 : List Int) (x2_1 : Int), v2 = .int .i64 x2_1 ∧ Aside0 (scrimref6_chosen.l0 kq x1_1 x2_1 = some r) ∧ Aside0 (kq ≤ k) ∧ Aside0 (Kd.R (Kd.int .i64) 3 w' w.heap.size (fun _ => True) v1 x1_1) ∧ Aside0 (Below w.heap.size w w'))
  case atStart => exact ⟨(([] : List Int)), (57), (by first | rfl | (simp; done) | (simp [*]; done)), H', ⟨Nat.le_refl _⟩, ⟨by first | exact Kd.R_nil _ _ _ _ _ | exact Kd.N_nil _ _ _ _ _ | exact Kd.V_nil _ _ _ _ _ | exact Kd.Q_nil _ _ _ _ _ | exact Kd.S_nil _ _ _ _ _⟩, ⟨by repeat (first | (with_reducible first | exact HB.out | apply below_alloc | apply pw_below_drewN | apply below_drew1) | exact HB.out)⟩⟩
  case round =>
    clear H'
    obtain ⟨x1_1, x2_1, rfl, HA, HK1, HO_1, HB⟩ := hrel
    cases gk with
    | zero => exact absurd HA.out (by simp [scrimref6_chosen.l0])
    | succ k1 =>
      have H := HA.out
      clear HA
      simp only [scrimref6_chosen.l0] at H
      by_cases c1 : (x1_1.length : Int) < 28
      · rw [if_pos c1] at H
        have c1b0 : decide ((x1_1.length : Int) < 28) = true := decide_eq_true c1
        have c1b1 : decide (x1_1.length < 28) = true := decide_eq_true (by omega)
        clear c1
        by_cases c2 : x1_1.length < 17592186044416
        rotate_left
        · rw [if_neg c2] at H
          exact absurd H (by simp)
        rw [if_pos c2] at H
        have LMc2 := Aside0.mk c2
        clear c2
        obtain ⟨y336, hy336⟩ : ∃ y_ : List Int, y_ = (x1_1 ++ [x2_1]) := ⟨_, rfl⟩
        replace H : (if (wrap64 (x2_1 - 8)) < 1 then (scrimref6_chosen.l0 k1 y336 (wrap64 ((wrap64 (x2_1 - 8)) + 65))) else (scrimref6_chosen.l0 k1 y336 (wrap64 (x2_1 - 8)))) = some r := by first | (rw [hy336]; with_reducible exact H) | (have H2_ := (Option.bind_some _ _).symm.trans H; rw [hy336]; with_reducible exact H2_) | (have H2_ := (Option.bind_some _ _).symm.trans H; with_reducible exact H2_) | with_reducible exact H | (rw [hy336]; exact H) | exact H
        have Ny336 := Aside0.mk hy336
        clear hy336
        by_cases c3 : (wrap64 (x2_1 - 8)) < 1
        · rw [if_pos c3] at H
          have c3b0 : decide ((wrap64 (x2_1 - 8)) < 1) = true := decide_eq_true c3
          clear c3
          have H' := Aside0.mk H
          clear H
          obtain ⟨Ao4, co4, eo4⟩ := Kd.R_slice HO_1.out
          subst eo4
          go_wp2_with (first | ((with_reducible refine gate_builtin (b := .append) (xs := #[.tmp 6, .tmp 8]) rfl ?_); at_builtin; refine Kd.R_append (Kd.int .i64) (w0 := w) w.heap.size rfl (.tmp 6) (.tmp 8) 46 3 (.int .i64 0) 8 rfl Try.underlying46 info3 rfl (by decide) (by omega) (.slice Ao4 x1_1.length co4) x1_1 x2_1 [.int .i64 x2_1] (fun _ => True) (fun _ => False) rfl rfl ?aP (fun _ hk => hk.elim) ?aF ?aO ?aB ?aS ?aL ?_; (case aP => exact rfl); (case aB => exact HB.out); (case aF => exact (fun _ _ => trivial)); (case aO => exact HO_1.out); (case aS => exact (below_size HB.out)); (case aL => have := LMc2.out; omega); intro v337 w5 ho hb hg hat; rw [← Ny336.out] at ho; have n0_ := Aside0.mk (hb); have n1_ := Aside0.mk (ho); clear HB; clear HO_1; have HB := n0_; have HO338 := n1_; clear n0_ n1_; clear ho hb hg hat))
          go_roundg k1
          case measure => have := HK1.out; omega
          case rel => exact ⟨(y336), (wrap64 ((wrap64 (x2_1 - 8)) + 65)), (by first | rfl | (simp; done) | (simp [*]; done)), H', ⟨by have := HK1.out; omega⟩, ⟨by (with_reducible repeat (first | apply Kd.R_alloc | apply Kd.R_drewN | apply Kd.R_drew)); exact HO338.out⟩, ⟨by repeat (first | (with_reducible first | exact HB.out | apply below_alloc | apply pw_below_drewN | apply below_drew1) | exact HB.out)⟩⟩
        · rw [if_neg c3] at H
          have c3b0 : decide ((wrap64 (x2_1 - 8)) < 1) = false := decide_eq_false c3
          clear c3
          have H' := Aside0.mk H
          clear H
          obtain ⟨Ao6, co6, eo6⟩ := Kd.R_slice HO_1.out
          subst eo6
          go_wp2_with (first | ((with_reducible refine gate_builtin (b := .append) (xs := #[.tmp 6, .tmp 8]) rfl ?_); at_builtin; refine Kd.R_append (Kd.int .i64) (w0 := w) w.heap.size rfl (.tmp 6) (.tmp 8) 46 3 (.int .i64 0) 8 rfl Try.underlying46 info3 rfl (by decide) (by omega) (.slice Ao6 x1_1.length co6) x1_1 x2_1 [.int .i64 x2_1] (fun _ => True) (fun _ => False) rfl rfl ?aP (fun _ hk => hk.elim) ?aF ?aO ?aB ?aS ?aL ?_; (case aP => exact rfl); (case aB => exact HB.out); (case aF => exact (fun _ _ => trivial)); (case aO => exact HO_1.out); (case aS => exact (below_size HB.out)); (case aL => have := LMc2.out; omega); intro v337 w7 ho hb hg hat; rw [← Ny336.out] at ho; have n0_ := Aside0.mk (hb); have n1_ := Aside0.mk (ho); clear HB; clear HO_1; have HB := n0_; have HO338 := n1_; clear n0_ n1_; clear ho hb hg hat))
          go_roundg k1
          case measure => have := HK1.out; omega
          case rel => exact ⟨(y336), (wrap64 (x2_1 - 8)), (by first | rfl | (simp; done) | (simp [*]; done)), H', ⟨by have := HK1.out; omega⟩, ⟨by (with_reducible repeat (first | apply Kd.R_alloc | apply Kd.R_drewN | apply Kd.R_drew)); exact HO338.out⟩, ⟨by repeat (first | (with_reducible first | exact HB.out | apply below_alloc | apply pw_below_drewN | apply below_drew1) | exact HB.out)⟩⟩
      · rw [if_neg c1] at H
        have c1b0 : decide ((x1_1.length : Int) < 28) = false := decide_eq_false c1
        have c1b1 : decide (x1_1.length < 28) = false := decide_eq_false (by omega)
        clear c1
        have H' := Aside0.mk H
        clear H
        obtain ⟨Ao8, co8, eo8⟩ := Kd.R_slice HO_1.out
        subst eo8
        go_wp2
        go_loopg [1, 2] k1 (fun kq v1 v2 w' => ∃ (x1_2 : List Int) (x2_2 : Int), v2 = .int .i64 x2_2 ∧ Aside0 (scrimref6_chosen.l1 kq x1_2 x2_2 = some r) ∧ Aside0 (kq ≤ k1) ∧ Aside0 (Kd.R (Kd.int .i64) 3 w' w.heap.size (fun _ => True) v1 x1_2) ∧ Aside0 (Below w.heap.size w w'))
        case atStart => exact ⟨(x1_1), (63), (by first | rfl | (simp; done) | (simp [*]; done)), H', ⟨Nat.le_refl _⟩, ⟨by (with_reducible repeat (first | apply Kd.R_alloc | apply Kd.R_drewN | apply Kd.R_drew)); exact HO_1.out⟩, ⟨by repeat (first | (with_reducible first | exact HB.out | apply below_alloc | apply pw_below_drewN | apply below_drew1) | exact HB.out)⟩⟩
        case round =>
          clear H'
          try clear c1
          try clear c1b0
          try clear c1b1
          try clear c2
          try clear p2
          try clear c3
          try clear c3b0
          try clear p6
          obtain ⟨x1_2, x2_2, rfl, HA, HK2, HO_1, HB⟩ := hrel
          cases gk with
          | zero => exact absurd HA.out (by simp [scrimref6_chosen.l1])
          | succ k2 =>
            have H := HA.out
            clear HA
            simp only [scrimref6_chosen.l1] at H
            by_cases c9 : (x1_2.length : Int) < 52
            · rw [if_pos c9] at H
              have c9b0 : decide ((x1_2.length : Int) < 52) = true := decide_eq_true c9
              have c9b1 : decide (x1_2.length < 52) = true := decide_eq_true (by omega)
              clear c9
              by_cases c10 : x1_2.length < 17592186044416
              rotate_left
              · rw [if_neg c10] at H
                exact absurd H (by simp)
              rw [if_pos c10] at H
              have LMc10 := Aside0.mk c10
              clear c10
              obtain ⟨y339, hy339⟩ : ∃ y_ : List Int, y_ = (x1_2 ++ [x2_2]) := ⟨_, rfl⟩
              replace H : (if (wrap64 (x2_2 - 8)) < 1 then (scrimref6_chosen.l1 k2 y339 (wrap64 ((wrap64 (x2_2 - 8)) + 63))) else (scrimref6_chosen.l1 k2 y339 (wrap64 (x2_2 - 8)))) = some r := by first | (rw [hy339]; with_reducible exact H) | (have H2_ := (Option.bind_some _ _).symm.trans H; rw [hy339]; with_reducible exact H2_) | (have H2_ := (Option.bind_some _ _).symm.trans H; with_reducible exact H2_) | with_reducible exact H | (rw [hy339]; exact H) | exact H
              have Ny339 := Aside0.mk hy339
              clear hy339
              by_cases c11 : (wrap64 (x2_2 - 8)) < 1
              · rw [if_pos c11] at H
                have c11b0 : decide ((wrap64 (x2_2 - 8)) < 1) = true := decide_eq_true c11
                clear c11
                have H' := Aside0.mk H
                clear H
                obtain ⟨Ao12, co12, eo12⟩ := Kd.R_slice HO_1.out
                subst eo12
                go_wp2_with (first | ((with_reducible refine gate_builtin (b := .append) (xs := #[.tmp 19, .tmp 21]) rfl ?_); at_builtin; refine Kd.R_append (Kd.int .i64) (w0 := w) w.heap.size rfl (.tmp 19) (.tmp 21) 46 3 (.int .i64 0) 8 rfl Try.underlying46 info3 rfl (by decide) (by omega) (.slice Ao12 x1_2.length co12) x1_2 x2_2 [.int .i64 x2_2] (fun _ => True) (fun _ => False) rfl rfl ?aP (fun _ hk => hk.elim) ?aF ?aO ?aB ?aS ?aL ?_; (case aP => exact rfl); (case aB => exact HB.out); (case aF => exact (fun _ _ => trivial)); (case aO => exact HO_1.out); (case aS => exact (below_size HB.out)); (case aL => have := LMc10.out; omega); intro v340 w13 ho hb hg hat; rw [← Ny339.out] at ho; have n0_ := Aside0.mk (hb); have n1_ := Aside0.mk (ho); clear HB; clear HO_1; have HB := n0_; have HO341 := n1_; clear n0_ n1_; clear ho hb hg hat))
                go_roundg k2
                case measure => have := HK1.out; have := HK2.out; omega
                case rel => exact ⟨(y339), (wrap64 ((wrap64 (x2_2 - 8)) + 63)), (by first | rfl | (simp; done) | (simp [*]; done)), H', ⟨by have := HK1.out; have := HK2.out; omega⟩, ⟨by (with_reducible repeat (first | apply Kd.R_alloc | apply Kd.R_drewN | apply Kd.R_drew)); exact HO341.out⟩, ⟨by repeat (first | (with_reducible first | exact HB.out | apply below_alloc | apply pw_below_drewN | apply below_drew1) | exact HB.out)⟩⟩
              · rw [if_neg c11] at H
                have c11b0 : decide ((wrap64 (x2_2 - 8)) < 1) = false := decide_eq_false c11
                clear c11
                have H' := Aside0.mk H
                clear H
                obtain ⟨Ao14, co14, eo14⟩ := Kd.R_slice HO_1.out
                subst eo14
                go_wp2_with (first | ((with_reducible refine gate_builtin (b := .append) (xs := #[.tmp 19, .tmp 21]) rfl ?_); at_builtin; refine Kd.R_append (Kd.int .i64) (w0 := w) w.heap.size rfl (.tmp 19) (.tmp 21) 46 3 (.int .i64 0) 8 rfl Try.underlying46 info3 rfl (by decide) (by omega) (.slice Ao14 x1_2.length co14) x1_2 x2_2 [.int .i64 x2_2] (fun _ => True) (fun _ => False) rfl rfl ?aP (fun _ hk => hk.elim) ?aF ?aO ?aB ?aS ?aL ?_; (case aP => exact rfl); (case aB => exact HB.out); (case aF => exact (fun _ _ => trivial)); (case aO => exact HO_1.out); (case aS => exact (below_size HB.out)); (case aL => have := LMc10.out; omega); intro v340 w15 ho hb hg hat; rw [← Ny339.out] at ho; have n0_ := Aside0.mk (hb); have n1_ := Aside0.mk (ho); clear HB; clear HO_1; have HB := n0_; have HO341 := n1_; clear n0_ n1_; clear ho hb hg hat))
                go_roundg k2
                case measure => have := HK1.out; have := HK2.out; omega
                case rel => exact ⟨(y339), (wrap64 (x2_2 - 8)), (by first | rfl | (simp; done) | (simp [*]; done)), H', ⟨by have := HK1.out; have := HK2.out; omega⟩, ⟨by (with_reducible repeat (first | apply Kd.R_alloc | apply Kd.R_drewN | apply Kd.R_drew)); exact HO341.out⟩, ⟨by repeat (first | (with_reducible first | exact HB.out | apply below_alloc | apply pw_below_drewN | apply below_drew1) | exact HB.out)⟩⟩
            · rw [if_neg c9] at H
              have c9b0 : decide ((x1_2.length : Int) < 52) = false := decide_eq_false c9
              have c9b1 : decide (x1_2.length < 52) = false := decide_eq_false (by omega)
              clear c9
              obtain ⟨y342, hy342⟩ : ∃ y_ : List Int, y_ = (([28, 20, 12, 4] : List Int)) := ⟨_, rfl⟩
              replace H : (if x1_2.length + y342.length < 17592186044416 then (some (x1_2 ++ y342)) else (none)) = some r := by first | (rw [hy342]; with_reducible exact H) | (have H2_ := (Option.bind_some _ _).symm.trans H; rw [hy342]; with_reducible exact H2_) | (have H2_ := (Option.bind_some _ _).symm.trans H; with_reducible exact H2_) | with_reducible exact H | (rw [hy342]; exact H) | exact H
              have Ny342 := Aside0.mk hy342
              clear hy342
              by_cases c16 : x1_2.length + y342.length < 17592186044416
              · rw [if_pos c16] at H
                have LMc16 := Aside0.mk c16
                clear c16
                obtain ⟨y345, hy345⟩ : ∃ y_ : List Int, y_ = (x1_2 ++ y342) := ⟨_, rfl⟩
                replace H : (some y345) = some r := by first | (rw [hy345]; with_reducible exact H) | (have H2_ := (Option.bind_some _ _).symm.trans H; rw [hy345]; with_reducible exact H2_) | (have H2_ := (Option.bind_some _ _).symm.trans H; with_reducible exact H2_) | with_reducible exact H | (rw [hy345]; exact H) | exact H
                have Ny345 := Aside0.mk hy345
                clear hy345
                obtain rfl := Option.some.inj H
                obtain ⟨Ao17, co17, eo17⟩ := Kd.R_slice HO_1.out
                subst eo17
                go_wp2_with (first | ((with_reducible refine gate_dst (N := 30) rfl ?_); refine Kd.R_lit (Kd.int .i64) _ 3 ?hg (N := 30) ?hd (xs := ([28, 20, 12, 4] : List Int)) (inner := [.int .i64 28, .int .i64 20, .int .i64 12, .int .i64 4]) (ok := fun _ => True) (okp := fun _ => True) ?hr ?hp (fun _ hk => hk) trivial (Below.refl _ _) (Nat.le_refl _) (by simp) ?_; (case hd => rfl); (case hg => rfl); (case hr => first | (go_simp; done) | (go_simp; rfl)); (case hp => exact (Reps.one (show Kd.M (Kd.int .i64) _ _ _ 28 [.int .i64 28] from rfl) (Reps.one (show Kd.M (Kd.int .i64) _ _ _ 20 [.int .i64 20] from rfl) (Reps.one (show Kd.M (Kd.int .i64) _ _ _ 12 [.int .i64 12] from rfl) (Reps.one (show Kd.M (Kd.int .i64) _ _ _ 4 [.int .i64 4] from rfl) (Reps.none _ _)))))); intro v343 w18 ho19 hb hg_ hnew_; clear hg_ hnew_; (first | rw [← Ny342.out] at ho19 | (simp only [Int.reduceToNat] at ho19; rw [← Ny342.out] at ho19)); have n0_ := Aside0.mk (Kd.R_elder' HO_1.out (Kd.R_base ho19) hb); have n1_ := Aside0.mk (Kd.R_lower (Kd.R_new' ho19 (Kd.R_lt HO_1.out)) (below_size HB.out)); have n2_ := Aside0.mk (below_step HB.out hb); clear HO_1; clear HB; have HO_1 := n0_; have HO344 := n1_; have HB := n2_; clear n0_ n1_ n2_; clear hb ho19; obtain ⟨Ao21, co21, eo21⟩ := Kd.R_slice HO344.out; subst eo21) | ((with_reducible refine gate_builtin (b := .append) (xs := #[.tmp 29, .tmp 30]) rfl ?_); at_builtin; refine Kd.R_append_rows (Kd.int .i64) (w0 := w) w.heap.size rfl (.tmp 29) (.tmp 30) 46 3 (.int .i64 0) 8 rfl Try.underlying46 info3 rfl (by decide) (by omega) (.slice Ao17 x1_2.length co17) x1_2 y342 _ _ _ (fun k_ => some k_ ≠ (.slice Ao21 y342.length co21 : Value).ownBlock) (fun _ => False) rfl rfl ?aO ?aR (fun _ _ h => h) (fun _ h => h.elim) ?aF ?aB ?aS ?aL ?_; (case aR => repeat (first | exact (Kd.R_reads' HO344.out).2.2 | (with_reducible refine Kd.C_alloc ?_ _) | (with_reducible refine Kd.C_drewN ?_ _) | (with_reducible refine Kd.C_drew ?_))); (case aB => exact HB.out); (case aF => exact (fun k_ hk => Kd.fresh' (Kd.R_lt HO344.out) k_ hk)); (case aO => exact (Kd.R_mono HO_1.out (fun _ hk => hk.2))); (case aS => exact (below_size HB.out)); (case aL => have := LMc16.out; omega); intro v346 w20 ho hb hg hat; rw [← Ny345.out] at ho; have n0_ := Aside0.mk (Kd.R_after (ok := (fun _ => True)) HO344.out hg hat); have n1_ := Aside0.mk (hb); have n2_ := Aside0.mk (ho); clear HO344; clear HB; clear HO_1; have HO344 := n0_; have HB := n1_; have HO347 := n2_; clear n0_ n1_ n2_; clear ho hb hg hat))
                go_ret
                exact ⟨_, by first | rfl | (simp [errW_none, errW_some] <;> rfl) | (simp [*, errW_none, errW_some] <;> rfl), by (with_reducible repeat (first | apply Kd.R_alloc | apply Kd.R_drewN | apply Kd.R_drew)); exact Kd.R_mono HO347.out (fun _ hk => trivial), by repeat (first | (with_reducible first | exact HB.out | apply below_alloc | apply pw_below_drewN | apply below_drew1) | exact HB.out)⟩
              · rw [if_neg c16] at H
                exact absurd H (by simp)

/-! ### scrimref6_last: function 28 -/
def scrimref6_last.f  : Option (List Int) := some (([14, 17, 11, 24, 1, 5, 3, 28, 15, 6, 21, 10, 23, 19, 12, 4, 26, 8, 16, 7, 27, 20, 13, 2, 41, 52, 31, 37, 47, 55, 30, 40, 51, 45, 33, 48, 44, 49, 39, 56, 34, 53, 46, 42, 50, 36, 29, 32] : List Int))
set_option maxHeartbeats 8000000 in
set_option maxRecDepth 100000 in
theorem scrimref6_last.calls  (r : List Int) (w : World) (h : scrimref6_last.f  = some r) :
    Calls Try.prog 28 #[] w fun e w' => ∃ v0_ : Value, e = .returned (v0_) ∧ Kd.R (Kd.int .i64) 3 w' w.heap.size (fun _ => True) v0_ r ∧ Below w.heap.size w w' := by
  have HB := Aside0.mk (Below.refl w.heap.size w)
  have H : (some (([14, 17, 11, 24, 1, 5, 3, 28, 15, 6, 21, 10, 23, 19, 12, 4, 26, 8, 16, 7, 27, 20, 13, 2, 41, 52, 31, 37, 47, 55, 30, 40, 51, 45, 33, 48, 44, 49, 39, 56, 34, 53, 46, 42, 50, 36, 29, 32] : List Int))) = some r := h
  clear h
  obtain ⟨y348, hy348⟩ : ∃ y_ : List Int, y_ = (([14, 17, 11, 24, 1, 5, 3, 28, 15, 6, 21, 10, 23, 19, 12, 4, 26, 8, 16, 7, 27, 20, 13, 2, 41, 52, 31, 37, 47, 55, 30, 40, 51, 45, 33, 48, 44, 49, 39, 56, 34, 53, 46, 42, 50, 36, 29, 32] : List Int)) := ⟨_, rfl⟩
  replace H : (some y348) = some r := by first | (rw [hy348]; with_reducible exact H) | (have H2_ := (Option.bind_some _ _).symm.trans H; rw [hy348]; with_reducible exact H2_) | (have H2_ := (Option.bind_some _ _).symm.trans H; with_reducible exact H2_) | with_reducible exact H | (rw [hy348]; exact H) | exact H
  have Ny348 := Aside0.mk hy348
  clear hy348
  obtain rfl := Option.some.inj H
  go_enter Try.func28, Try.ntmps28
  go_wp2_with (first | ((with_reducible refine gate_dst (N := 1) rfl ?_); refine Kd.R_lit (Kd.int .i64) _ 3 ?hg (N := 1) ?hd (xs := ([14, 17, 11, 24, 1, 5, 3, 28, 15, 6, 21, 10, 23, 19, 12, 4, 26, 8, 16, 7, 27, 20, 13, 2, 41, 52, 31, 37, 47, 55, 30, 40, 51, 45, 33, 48, 44, 49, 39, 56, 34, 53, 46, 42, 50, 36, 29, 32] : List Int)) (inner := [.int .i64 14, .int .i64 17, .int .i64 11, .int .i64 24, .int .i64 1, .int .i64 5, .int .i64 3, .int .i64 28, .int .i64 15, .int .i64 6, .int .i64 21, .int .i64 10, .int .i64 23, .int .i64 19, .int .i64 12, .int .i64 4, .int .i64 26, .int .i64 8, .int .i64 16, .int .i64 7, .int .i64 27, .int .i64 20, .int .i64 13, .int .i64 2, .int .i64 41, .int .i64 52, .int .i64 31, .int .i64 37, .int .i64 47, .int .i64 55, .int .i64 30, .int .i64 40, .int .i64 51, .int .i64 45, .int .i64 33, .int .i64 48, .int .i64 44, .int .i64 49, .int .i64 39, .int .i64 56, .int .i64 34, .int .i64 53, .int .i64 46, .int .i64 42, .int .i64 50, .int .i64 36, .int .i64 29, .int .i64 32]) (ok := fun _ => True) (okp := fun _ => True) ?hr ?hp (fun _ hk => hk) trivial (Below.refl _ _) (Nat.le_refl _) (by simp) ?_; (case hd => rfl); (case hg => rfl); (case hr => first | (go_simp; done) | (go_simp; rfl)); (case hp => exact (Reps.one (show Kd.M (Kd.int .i64) _ _ _ 14 [.int .i64 14] from rfl) (Reps.one (show Kd.M (Kd.int .i64) _ _ _ 17 [.int .i64 17] from rfl) (Reps.one (show Kd.M (Kd.int .i64) _ _ _ 11 [.int .i64 11] from rfl) (Reps.one (show Kd.M (Kd.int .i64) _ _ _ 24 [.int .i64 24] from rfl) (Reps.one (show Kd.M (Kd.int .i64) _ _ _ 1 [.int .i64 1] from rfl) (Reps.one (show Kd.M (Kd.int .i64) _ _ _ 5 [.int .i64 5] from rfl) (Reps.one (show Kd.M (Kd.int .i64) _ _ _ 3 [.int .i64 3] from rfl) (Reps.one (show Kd.M (Kd.int .i64) _ _ _ 28 [.int .i64 28] from rfl) (Reps.one (show Kd.M (Kd.int .i64) _ _ _ 15 [.int .i64 15] from rfl) (Reps.one (show Kd.M (Kd.int .i64) _ _ _ 6 [.int .i64 6] from rfl) (Reps.one (show Kd.M (Kd.int .i64) _ _ _ 21 [.int .i64 21] from rfl) (Reps.one (show Kd.M (Kd.int .i64) _ _ _ 10 [.int .i64 10] from rfl) (Reps.one (show Kd.M (Kd.int .i64) _ _ _ 23 [.int .i64 23] from rfl) (Reps.one (show Kd.M (Kd.int .i64) _ _ _ 19 [.int .i64 19] from rfl) (Reps.one (show Kd.M (Kd.int .i64) _ _ _ 12 [.int .i64 12] from rfl) (Reps.one (show Kd.M (Kd.int .i64) _ _ _ 4 [.int .i64 4] from rfl) (Reps.one (show Kd.M (Kd.int .i64) _ _ _ 26 [.int .i64 26] from rfl) (Reps.one (show Kd.M (Kd.int .i64) _ _ _ 8 [.int .i64 8] from rfl) (Reps.one (show Kd.M (Kd.int .i64) _ _ _ 16 [.int .i64 16] from rfl) (Reps.one (show Kd.M (Kd.int .i64) _ _ _ 7 [.int .i64 7] from rfl) (Reps.one (show Kd.M (Kd.int .i64) _ _ _ 27 [.int .i64 27] from rfl) (Reps.one (show Kd.M (Kd.int .i64) _ _ _ 20 [.int .i64 20] from rfl) (Reps.one (show Kd.M (Kd.int .i64) _ _ _ 13 [.int .i64 13] from rfl) (Reps.one (show Kd.M (Kd.int .i64) _ _ _ 2 [.int .i64 2] from rfl) (Reps.one (show Kd.M (Kd.int .i64) _ _ _ 41 [.int .i64 41] from rfl) (Reps.one (show Kd.M (Kd.int .i64) _ _ _ 52 [.int .i64 52] from rfl) (Reps.one (show Kd.M (Kd.int .i64) _ _ _ 31 [.int .i64 31] from rfl) (Reps.one (show Kd.M (Kd.int .i64) _ _ _ 37 [.int .i64 37] from rfl) (Reps.one (show Kd.M (Kd.int .i64) _ _ _ 47 [.int .i64 47] from rfl) (Reps.one (show Kd.M (Kd.int .i64) _ _ _ 55 [.int .i64 55] from rfl) (Reps.one (show Kd.M (Kd.int .i64) _ _ _ 30 [.int .i64 30] from rfl) (Reps.one (show Kd.M (Kd.int .i64) _ _ _ 40 [.int .i64 40] from rfl) (Reps.one (show Kd.M (Kd.int .i64) _ _ _ 51 [.int .i64 51] from rfl) (Reps.one (show Kd.M (Kd.int .i64) _ _ _ 45 [.int .i64 45] from rfl) (Reps.one (show Kd.M (Kd.int .i64) _ _ _ 33 [.int .i64 33] from rfl) (Reps.one (show Kd.M (Kd.int .i64) _ _ _ 48 [.int .i64 48] from rfl) (Reps.one (show Kd.M (Kd.int .i64) _ _ _ 44 [.int .i64 44] from rfl) (Reps.one (show Kd.M (Kd.int .i64) _ _ _ 49 [.int .i64 49] from rfl) (Reps.one (show Kd.M (Kd.int .i64) _ _ _ 39 [.int .i64 39] from rfl) (Reps.one (show Kd.M (Kd.int .i64) _ _ _ 56 [.int .i64 56] from rfl) (Reps.one (show Kd.M (Kd.int .i64) _ _ _ 34 [.int .i64 34] from rfl) (Reps.one (show Kd.M (Kd.int .i64) _ _ _ 53 [.int .i64 53] from rfl) (Reps.one (show Kd.M (Kd.int .i64) _ _ _ 46 [.int .i64 46] from rfl) (Reps.one (show Kd.M (Kd.int .i64) _ _ _ 42 [.int .i64 42] from rfl) (Reps.one (show Kd.M (Kd.int .i64) _ _ _ 50 [.int .i64 50] from rfl) (Reps.one (show Kd.M (Kd.int .i64) _ _ _ 36 [.int .i64 36] from rfl) (Reps.one (show Kd.M (Kd.int .i64) _ _ _ 29 [.int .i64 29] from rfl) (Reps.one (show Kd.M (Kd.int .i64) _ _ _ 32 [.int .i64 32] from rfl) (Reps.none _ _)))))))))))))))))))))))))))))))))))))))))))))))))); intro v349 w1 ho2 hb hg_ hnew_; clear hg_ hnew_; (first | rw [← Ny348.out] at ho2 | (simp only [Int.reduceToNat] at ho2; rw [← Ny348.out] at ho2)); have n0_ := Aside0.mk (Kd.R_lower ho2 (below_size HB.out)); have n1_ := Aside0.mk (below_step HB.out hb); clear HB; have HO350 := n0_; have HB := n1_; clear n0_ n1_; clear hb ho2))
  go_ret
  exact ⟨_, by first | rfl | (simp [errW_none, errW_some] <;> rfl) | (simp [*, errW_none, errW_some] <;> rfl), by (with_reducible repeat (first | apply Kd.R_alloc | apply Kd.R_drewN | apply Kd.R_drew)); exact HO350.out, by repeat (first | (with_reducible first | exact HB.out | apply below_alloc | apply pw_below_drewN | apply below_drew1) | exact HB.out)⟩

/-! ### scrimref6_Keys: function 13 -/
mutual
def scrimref6_Keys.l0 : Nat → List Int → List Int → Int → List (List Int) → Int → Option ((List (List Int)) × Int)
  | 0, _, _, _, _, _ => none
  | k + 1, x0, x4, x5, x6, x7 => if x7 ≤ 16 then (if x7 = 1 then (scrimref6_Keys.j1 k x0 x4 (wrap64 (x5 + 2)) x6 x7 true) else (if x7 = 2 then (scrimref6_Keys.j1 k x0 x4 (wrap64 (x5 + 2)) x6 x7 true) else (if x7 = 9 then (scrimref6_Keys.j1 k x0 x4 (wrap64 (x5 + 2)) x6 x7 true) else (scrimref6_Keys.j1 k x0 x4 (wrap64 (x5 + 2)) x6 x7 (x7 == 16))))) else (some (x6, 0))
def scrimref6_Keys.j1 : Nat → List Int → List Int → Int → List (List Int) → Int → Bool → Option ((List (List Int)) × Int)
  | 0, _, _, _, _, _, _ => none
  | k + 1, x0, x4, x5, x6, x7, x34 => if x34 = true then (scrimref6_Keys.j2 k x0 x4 (wrap64 (x5 - 1)) x6 x7) else (scrimref6_Keys.j2 k x0 x4 x5 x6 x7)
def scrimref6_Keys.j2 : Nat → List Int → List Int → Int → List (List Int) → Int → Option ((List (List Int)) × Int)
  | 0, _, _, _, _, _ => none
  | k + 1, x0, x4, x5, x6, x7 => scrimref6_Keys.l1 k x0 x4 x5 x6 x7 ([] : List Int) 0
def scrimref6_Keys.l1 : Nat → List Int → List Int → Int → List (List Int) → Int → List Int → Int → Option ((List (List Int)) × Int)
  | 0, _, _, _, _, _, _, _ => none
  | k + 1, x0, x4, x5, x6, x7, x8, x9 => if x9 < 56 then (if 0 ≤ (wrap64 ((wrap64 ((wrap64 (Int.tdiv x9 28)) * 28)) + (Int.tmod (wrap64 ((wrap64 (x9 - (wrap64 ((wrap64 (Int.tdiv x9 28)) * 28)))) + x5)) 28))) then (if (wrap64 ((wrap64 ((wrap64 (Int.tdiv x9 28)) * 28)) + (Int.tmod (wrap64 ((wrap64 (x9 - (wrap64 ((wrap64 (Int.tdiv x9 28)) * 28)))) + x5)) 28))) < (x4.length : Int) then (if x8.length < 17592186044416 then (scrimref6_Keys.l1 k x0 x4 x5 x6 x7 (x8 ++ [rd x4 (wrap64 ((wrap64 ((wrap64 (Int.tdiv x9 28)) * 28)) + (Int.tmod (wrap64 ((wrap64 (x9 - (wrap64 ((wrap64 (Int.tdiv x9 28)) * 28)))) + x5)) 28)))]) (wrap64 (x9 + 1))) else (none)) else (none)) else (none)) else ((scrimref2_By.f k x0 x8).bind fun t358 => ((scrimref6_last.f).bind fun t361 => ((scrimref2_By.f k t358 t361).bind fun t364 => (if x6.length < 5864062014805 then (scrimref6_Keys.l0 k x0 x4 x5 (x6 ++ [t364]) (wrap64 (x7 + 1))) else (none)))))
end
def scrimref6_Keys.f (k : Nat) (l0 : List Int) : Option ((List (List Int)) × Int) := if (l0.length : Int) = 8 then ((scrimref6_chosen.f k).bind fun t351 => (scrimref6_Keys.l0 k l0 t351 0 ([] : List (List Int)) 1)) else (some (([] : List (List Int)), 4))
theorem scrimref6_Keys.mono_l : ∀ k, (∀ y0 y1 y2 y3 y4, LeO (scrimref6_Keys.l0 k y0 y1 y2 y3 y4) (scrimref6_Keys.l0 (k + 1) y0 y1 y2 y3 y4)) ∧ (∀ y0 y1 y2 y3 y4 y5, LeO (scrimref6_Keys.j1 k y0 y1 y2 y3 y4 y5) (scrimref6_Keys.j1 (k + 1) y0 y1 y2 y3 y4 y5)) ∧ (∀ y0 y1 y2 y3 y4, LeO (scrimref6_Keys.j2 k y0 y1 y2 y3 y4) (scrimref6_Keys.j2 (k + 1) y0 y1 y2 y3 y4)) ∧ (∀ y0 y1 y2 y3 y4 y5 y6, LeO (scrimref6_Keys.l1 k y0 y1 y2 y3 y4 y5 y6) (scrimref6_Keys.l1 (k + 1) y0 y1 y2 y3 y4 y5 y6))
  | 0 => ⟨fun _ _ _ _ _ r h => by simp [scrimref6_Keys.l0] at h, fun _ _ _ _ _ _ r h => by simp [scrimref6_Keys.j1] at h, fun _ _ _ _ _ r h => by simp [scrimref6_Keys.j2] at h, fun _ _ _ _ _ _ _ r h => by simp [scrimref6_Keys.l1] at h⟩
  | k + 1 => by
    obtain ⟨ih0, ih1, ih2, ih3⟩ := scrimref6_Keys.mono_l k
    refine ⟨?_, ?_, ?_, ?_⟩
    · intro y0 y1 y2 y3 y4
      unfold scrimref6_Keys.l0
      repeat' first
      | (with_reducible exact ih0 _ _ _ _ _)
      | (with_reducible exact ih1 _ _ _ _ _ _)
      | (with_reducible exact ih2 _ _ _ _ _)
      | (with_reducible exact ih3 _ _ _ _ _ _ _)
      | (with_reducible exact scrimref2_By.mono _ _ _)
      | (with_reducible exact scrimref6_chosen.mono _)
      | (with_reducible exact LeO.refl _)
      | (with_reducible exact LeO.none _)
      | (with_reducible refine LeO.ite ?_ ?_)
      | (with_reducible refine LeO.bind ?_ (fun _ => ?_))
      | exact ih0 _ _ _ _ _
      | exact ih1 _ _ _ _ _ _
      | exact ih2 _ _ _ _ _
      | exact ih3 _ _ _ _ _ _ _
      | exact scrimref2_By.mono _ _ _
      | exact scrimref6_chosen.mono _
      | exact LeO.none _
      | refine LeO.ite ?_ ?_
      | refine LeO.bind ?_ (fun _ => ?_)
    · intro y0 y1 y2 y3 y4 y5
      unfold scrimref6_Keys.j1
      repeat' first
      | (with_reducible exact ih0 _ _ _ _ _)
      | (with_reducible exact ih1 _ _ _ _ _ _)
      | (with_reducible exact ih2 _ _ _ _ _)
      | (with_reducible exact ih3 _ _ _ _ _ _ _)
      | (with_reducible exact scrimref2_By.mono _ _ _)
      | (with_reducible exact scrimref6_chosen.mono _)
      | (with_reducible exact LeO.refl _)
      | (with_reducible exact LeO.none _)
      | (with_reducible refine LeO.ite ?_ ?_)
      | (with_reducible refine LeO.bind ?_ (fun _ => ?_))
      | exact ih0 _ _ _ _ _
      | exact ih1 _ _ _ _ _ _
      | exact ih2 _ _ _ _ _
      | exact ih3 _ _ _ _ _ _ _
      | exact scrimref2_By.mono _ _ _
      | exact scrimref6_chosen.mono _
      | exact LeO.none _
      | refine LeO.ite ?_ ?_
      | refine LeO.bind ?_ (fun _ => ?_)
    · intro y0 y1 y2 y3 y4
      unfold scrimref6_Keys.j2
      repeat' first
      | (with_reducible exact ih0 _ _ _ _ _)
      | (with_reducible exact ih1 _ _ _ _ _ _)
      | (with_reducible exact ih2 _ _ _ _ _)
      | (with_reducible exact ih3 _ _ _ _ _ _ _)
      | (with_reducible exact scrimref2_By.mono _ _ _)
      | (with_reducible exact scrimref6_chosen.mono _)
      | (with_reducible exact LeO.refl _)
      | (with_reducible exact LeO.none _)
      | (with_reducible refine LeO.ite ?_ ?_)
      | (with_reducible refine LeO.bind ?_ (fun _ => ?_))
      | exact ih0 _ _ _ _ _
      | exact ih1 _ _ _ _ _ _
      | exact ih2 _ _ _ _ _
      | exact ih3 _ _ _ _ _ _ _
      | exact scrimref2_By.mono _ _ _
      | exact scrimref6_chosen.mono _
      | exact LeO.none _
      | refine LeO.ite ?_ ?_
      | refine LeO.bind ?_ (fun _ => ?_)
    · intro y0 y1 y2 y3 y4 y5 y6
      unfold scrimref6_Keys.l1
      repeat' first
      | (with_reducible exact ih0 _ _ _ _ _)
      | (with_reducible exact ih1 _ _ _ _ _ _)
      | (with_reducible exact ih2 _ _ _ _ _)
      | (with_reducible exact ih3 _ _ _ _ _ _ _)
      | (with_reducible exact scrimref2_By.mono _ _ _)
      | (with_reducible exact scrimref6_chosen.mono _)
      | (with_reducible exact LeO.refl _)
      | (with_reducible exact LeO.none _)
      | (with_reducible refine LeO.ite ?_ ?_)
      | (with_reducible refine LeO.bind ?_ (fun _ => ?_))
      | exact ih0 _ _ _ _ _
      | exact ih1 _ _ _ _ _ _
      | exact ih2 _ _ _ _ _
      | exact ih3 _ _ _ _ _ _ _
      | exact scrimref2_By.mono _ _ _
      | exact scrimref6_chosen.mono _
      | exact LeO.none _
      | refine LeO.ite ?_ ?_
      | refine LeO.bind ?_ (fun _ => ?_)
theorem scrimref6_Keys.mono : ∀ a0 k, LeO (scrimref6_Keys.f k a0) (scrimref6_Keys.f (k + 1) a0) := by
  intro a0 k
  obtain ⟨ih0, ih1, ih2, ih3⟩ := scrimref6_Keys.mono_l k
  unfold scrimref6_Keys.f
  repeat' first
      | (with_reducible exact ih0 _ _ _ _ _)
      | (with_reducible exact ih1 _ _ _ _ _ _)
      | (with_reducible exact ih2 _ _ _ _ _)
      | (with_reducible exact ih3 _ _ _ _ _ _ _)
      | (with_reducible exact scrimref2_By.mono _ _ _)
      | (with_reducible exact scrimref6_chosen.mono _)
      | (with_reducible exact LeO.refl _)
      | (with_reducible exact LeO.none _)
      | (with_reducible refine LeO.ite ?_ ?_)
      | (with_reducible refine LeO.bind ?_ (fun _ => ?_))
      | exact ih0 _ _ _ _ _
      | exact ih1 _ _ _ _ _ _
      | exact ih2 _ _ _ _ _
      | exact ih3 _ _ _ _ _ _ _
      | exact scrimref2_By.mono _ _ _
      | exact scrimref6_chosen.mono _
      | exact LeO.none _
      | refine LeO.ite ?_ ?_
      | refine LeO.bind ?_ (fun _ => ?_)
set_option maxHeartbeats 8000000 in
set_option maxRecDepth 100000 in
theorem scrimref6_Keys.calls (k : Nat) (A0 : Option Addr) (c0 : Nat) (l0 : List Int) (r1 : List (List Int)) (r2 : Int) (w : World) (hr0 : Kd.C (Kd.int .u8) w A0 l0.length l0) (hc0 : l0.length ≤ c0) (h : scrimref6_Keys.f k l0 = some (r1, r2)) :
    Calls Try.prog 13 #[.slice A0 l0.length c0] w fun e w' => ∃ v0_ : Value, e = .returned (.tuple #[v0_, .int .i64 r2]) ∧ Kd.S (Kd.slice 5 (Kd.int .u8)) 22 w' w.heap.size (fun _ => True) v0_ r1 ∧ Below w.heap.size w w' := by
  have HR0 := Aside0.mk hr0
  have HC0 := Aside0.mk hc0
  clear hr0 hc0
  have HB := Aside0.mk (Below.refl w.heap.size w)
  have H : (if (l0.length : Int) = 8 then ((scrimref6_chosen.f k).bind fun t351 => (scrimref6_Keys.l0 k l0 t351 0 ([] : List (List Int)) 1)) else (some (([] : List (List Int)), 4))) = some (r1, r2) := h
  clear h
  by_cases c2 : (l0.length : Int) = 8
  · rw [if_pos c2] at H
    have c2b0 : ((l0.length : Int) == 8) = true := beq_iff_eq.mpr c2
    have c2b1 : ((l0.length : Int) != 8) = false := bne_eq_false_iff_eq.mpr c2
    clear c2
    replace H := Option.bind_eq_some_iff.mp H
    obtain ⟨t351, A30, H⟩ := H
    replace H : (scrimref6_Keys.l0 k l0 t351 0 ([] : List (List Int)) 1) = some (r1, r2) := H
    have A3 := Aside0.mk A30
    clear A30
    have H' := Aside0.mk H
    clear H
    go_enter Try.func13, Try.ntmps13
    go_wp2_with (first | ((with_reducible refine gate_callee (f := 27) rfl ?_); refine goesL_ (some 14) rfl rfl Try.func27 (by kernel_rfl) rfl #[] rfl (by (try simp only [List.map_toArray, List.map_cons, List.map_nil]); first | done | rfl | (simp only [List.length_drop, List.length_take]; rfl)) ?_; (with_reducible refine (scrimref6_chosen.calls k  t351 _ A3.out).mono ?_); rintro e w4 ⟨v352, rfl, ho0, hb⟩; refine ⟨_, rfl, ?_⟩; have n0_ := Aside0.mk (Kd.R_lower ho0 (below_size HB.out)); have n1_ := Aside0.mk (below_step HB.out hb); clear HB; have HO353 := n0_; have HB := n1_; clear n0_ n1_; (try clear hb); (try clear hb2); (try clear hk); (try clear hi); (try clear ho0)))
    go_loopg [5, 6, 7] k (fun kq v5 v6 v7 w' => ∃ (x5_1 : Int) (x6_1 : List (List Int)) (x7_1 : Int), v5 = .int .i64 x5_1 ∧ v7 = .int .i64 x7_1 ∧ Aside0 (scrimref6_Keys.l0 kq l0 t351 x5_1 x6_1 x7_1 = some (r1, r2)) ∧ Aside0 (kq ≤ k) ∧ Aside0 (Kd.R (Kd.int .i64) 3 w' w.heap.size (fun _ => True) v352 t351) ∧ Aside0 (Kd.S (Kd.slice 5 (Kd.int .u8)) 22 w' w.heap.size (fun _ => True) v6 x6_1) ∧ Aside0 (Below w.heap.size w w'))
    case atStart => exact ⟨(0), (([] : List (List Int))), (1), (by first | rfl | (simp; done) | (simp [*]; done)), (by first | rfl | (simp; done) | (simp [*]; done)), H', ⟨Nat.le_refl _⟩, ⟨by (with_reducible repeat (first | apply Kd.R_alloc | apply Kd.R_drewN | apply Kd.R_drew)); exact HO353.out⟩, ⟨by first | exact Kd.S_nil _ _ _ _ _ | exact Kd.N_nil _ _ _ _ _ | exact Kd.V_nil _ _ _ _ _ | exact Kd.Q_nil _ _ _ _ _ | exact Kd.R_nil _ _ _ _ _⟩, ⟨by repeat (first | (with_reducible first | exact HB.out | apply below_alloc | apply pw_below_drewN | apply below_drew1) | exact HB.out)⟩⟩
    case round =>
      clear H'
      try clear c1
      try clear c2
      try clear c2b0
      try clear c2b1
      try clear p2
      obtain ⟨x5_1, x6_1, x7_1, rfl, rfl, HA, HK1, HO_4, HO_6, HB⟩ := hrel
      cases gk with
      | zero => exact absurd HA.out (by simp [scrimref6_Keys.l0])
      | succ k1 =>
        have H := HA.out
        clear HA
        simp only [scrimref6_Keys.l0] at H
        by_cases c5 : x7_1 ≤ 16
        · rw [if_pos c5] at H
          have c5b0 : decide (x7_1 ≤ 16) = true := decide_eq_true c5
          clear c5
          have HC6 := Aside0.mk H
          clear H
          go_upto_region 10 with (fail)
          go_cut [34] (fun v34 wc => ∃ (kq : Nat) (x34_5 : Bool), v34 = .bool x34_5 ∧ Aside0 (scrimref6_Keys.j1 kq l0 t351 (wrap64 (x5_1 + 2)) x6_1 x7_1 x34_5 = some (r1, r2)) ∧ Aside0 (kq ≤ k1) ∧ Aside0 (Kd.R (Kd.int .i64) 3 wc w.heap.size (fun _ => True) v352 t351) ∧ Aside0 (Kd.S (Kd.slice 5 (Kd.int .u8)) 22 wc w.heap.size (fun _ => True) u6 x6_1) ∧ Aside0 (Below w.heap.size w wc))
          case first =>
            have H := HC6.out
            clear HC6
            by_cases c7 : x7_1 = 1
            · rw [if_pos c7] at H
              have c7b0 : (x7_1 == 1) = true := beq_iff_eq.mpr c7
              have c7b1 : (x7_1 != 1) = false := bne_eq_false_iff_eq.mpr c7
              clear c7
              (first | rw [c7b0] | (simp only [i64_w, i32_w]; rw [c7b0]) | skip)
              have H' := Aside0.mk H
              clear H
              go_wp2
              go_meet
              case rel => exact ⟨_, (true), (by first | rfl | (simp; done) | (simp [*]; done)), H', ⟨by have := HK1.out; first | omega | exact Nat.le_refl _⟩, ⟨by (with_reducible repeat (first | apply Kd.R_alloc | apply Kd.R_drewN | apply Kd.R_drew)); exact HO_4.out⟩, ⟨by (with_reducible repeat (first | apply Kd.S_alloc | apply Kd.S_drewN | apply Kd.S_drew)); exact HO_6.out⟩, ⟨by repeat (first | (with_reducible first | exact HB.out | apply below_alloc | apply pw_below_drewN | apply below_drew1) | exact HB.out)⟩⟩
            · rw [if_neg c7] at H
              have c7b0 : (x7_1 == 1) = false := beq_eq_false_iff_ne.mpr c7
              have c7b1 : (x7_1 != 1) = true := bne_iff_ne.mpr c7
              (first | rw [c7b0] | (simp only [i64_w, i32_w]; rw [c7b0]) | skip)
              by_cases c8 : x7_1 = 2
              · rw [if_pos c8] at H
                have c8b0 : (x7_1 == 2) = true := beq_iff_eq.mpr c8
                have c8b1 : (x7_1 != 2) = false := bne_eq_false_iff_eq.mpr c8
                clear c8
                have H' := Aside0.mk H
                clear H
                go_wp2
                go_meet
                case rel => exact ⟨_, (true), (by first | rfl | (simp; done) | (simp [*]; done)), H', ⟨by have := HK1.out; first | omega | exact Nat.le_refl _⟩, ⟨by (with_reducible repeat (first | apply Kd.R_alloc | apply Kd.R_drewN | apply Kd.R_drew)); exact HO_4.out⟩, ⟨by (with_reducible repeat (first | apply Kd.S_alloc | apply Kd.S_drewN | apply Kd.S_drew)); exact HO_6.out⟩, ⟨by repeat (first | (with_reducible first | exact HB.out | apply below_alloc | apply pw_below_drewN | apply below_drew1) | exact HB.out)⟩⟩
              · rw [if_neg c8] at H
                have c8b0 : (x7_1 == 2) = false := beq_eq_false_iff_ne.mpr c8
                have c8b1 : (x7_1 != 2) = true := bne_iff_ne.mpr c8
                by_cases c9 : x7_1 = 9
                · rw [if_pos c9] at H
                  have c9b0 : (x7_1 == 9) = true := beq_iff_eq.mpr c9
                  have c9b1 : (x7_1 != 9) = false := bne_eq_false_iff_eq.mpr c9
                  clear c9
                  have H' := Aside0.mk H
                  clear H
                  go_wp2
                  go_meet
                  case rel => exact ⟨_, (true), (by first | rfl | (simp; done) | (simp [*]; done)), H', ⟨by have := HK1.out; first | omega | exact Nat.le_refl _⟩, ⟨by (with_reducible repeat (first | apply Kd.R_alloc | apply Kd.R_drewN | apply Kd.R_drew)); exact HO_4.out⟩, ⟨by (with_reducible repeat (first | apply Kd.S_alloc | apply Kd.S_drewN | apply Kd.S_drew)); exact HO_6.out⟩, ⟨by repeat (first | (with_reducible first | exact HB.out | apply below_alloc | apply pw_below_drewN | apply below_drew1) | exact HB.out)⟩⟩
                · rw [if_neg c9] at H
                  have c9b0 : (x7_1 == 9) = false := beq_eq_false_iff_ne.mpr c9
                  have c9b1 : (x7_1 != 9) = true := bne_iff_ne.mpr c9
                  have H' := Aside0.mk H
                  clear H
                  go_wp2
                  go_meet
                  case rel => exact ⟨_, ((x7_1 == 16)), (by first | rfl | (simp; done) | (simp [*]; done)), H', ⟨by have := HK1.out; first | omega | exact Nat.le_refl _⟩, ⟨by (with_reducible repeat (first | apply Kd.R_alloc | apply Kd.R_drewN | apply Kd.R_drew)); exact HO_4.out⟩, ⟨by (with_reducible repeat (first | apply Kd.S_alloc | apply Kd.S_drewN | apply Kd.S_drew)); exact HO_6.out⟩, ⟨by repeat (first | (with_reducible first | exact HB.out | apply below_alloc | apply pw_below_drewN | apply below_drew1) | exact HB.out)⟩⟩
          case rest =>
            clear HC6
            try clear c1
            try clear c2
            try clear c2b0
            try clear c2b1
            try clear p2
            try clear c5
            try clear c5b0
            try clear p6
            try clear c7
            try clear c7b0
            try clear c7b1
            try clear c8
            try clear c8b0
            try clear c8b1
            try clear c9
            try clear c9b0
            try clear c9b1
            try clear p2
            obtain ⟨kq, x34_5, rfl, HA, HJ5, HO_4, HO_6, HB⟩ := hcut
            cases kq with
            | zero => exact absurd HA.out (by simp [scrimref6_Keys.j1])
            | succ kj5 =>
              have H := HA.out
              clear HA
              simp only [scrimref6_Keys.j1] at H
              have HC10 := Aside0.mk H
              clear H
              go_upto_if 34 with (fail)
              go_cut [5] (fun v5 wc => ∃ (kq : Nat) (x5_9 : Int), v5 = .int .i64 x5_9 ∧ Aside0 (scrimref6_Keys.j2 kq l0 t351 x5_9 x6_1 x7_1 = some (r1, r2)) ∧ Aside0 (kq ≤ kj5) ∧ Aside0 (Kd.R (Kd.int .i64) 3 wc w.heap.size (fun _ => True) v352 t351) ∧ Aside0 (Kd.S (Kd.slice 5 (Kd.int .u8)) 22 wc w.heap.size (fun _ => True) u6 x6_1) ∧ Aside0 (Below w.heap.size w wc))
              case first =>
                have H := HC10.out
                clear HC10
                by_cases c11 : x34_5 = true
                · subst c11
                  have H1 : (scrimref6_Keys.j2 kj5 l0 t351 (wrap64 ((wrap64 (x5_1 + 2)) - 1)) x6_1 x7_1) = some (r1, r2) := by rw [if_pos rfl] at H; exact H
                  clear H
                  have H := H1
                  clear H1
                  have H' := Aside0.mk H
                  clear H
                  go_wp2
                  go_meet
                  case rel => exact ⟨_, (wrap64 ((wrap64 (x5_1 + 2)) - 1)), (by first | rfl | (simp; done) | (simp [*]; done)), H', ⟨by have := HK1.out; have := HJ5.out; first | omega | exact Nat.le_refl _⟩, ⟨by (with_reducible repeat (first | apply Kd.R_alloc | apply Kd.R_drewN | apply Kd.R_drew)); exact HO_4.out⟩, ⟨by (with_reducible repeat (first | apply Kd.S_alloc | apply Kd.S_drewN | apply Kd.S_drew)); exact HO_6.out⟩, ⟨by repeat (first | (with_reducible first | exact HB.out | apply below_alloc | apply pw_below_drewN | apply below_drew1) | exact HB.out)⟩⟩
                · replace c11 := Bool.eq_false_iff.mpr c11
                  subst c11
                  have H1 : (scrimref6_Keys.j2 kj5 l0 t351 (wrap64 (x5_1 + 2)) x6_1 x7_1) = some (r1, r2) := by rw [if_neg (show ¬ (false = true) by decide)] at H; exact H
                  clear H
                  have H := H1
                  clear H1
                  have H' := Aside0.mk H
                  clear H
                  go_wp2
                  go_meet
                  case rel => exact ⟨_, ((wrap64 (x5_1 + 2))), (by first | rfl | (simp; done) | (simp [*]; done)), H', ⟨by have := HK1.out; have := HJ5.out; first | omega | exact Nat.le_refl _⟩, ⟨by (with_reducible repeat (first | apply Kd.R_alloc | apply Kd.R_drewN | apply Kd.R_drew)); exact HO_4.out⟩, ⟨by (with_reducible repeat (first | apply Kd.S_alloc | apply Kd.S_drewN | apply Kd.S_drew)); exact HO_6.out⟩, ⟨by repeat (first | (with_reducible first | exact HB.out | apply below_alloc | apply pw_below_drewN | apply below_drew1) | exact HB.out)⟩⟩
              case rest =>
                clear HC10
                try clear c1
                try clear c2
                try clear c2b0
                try clear c2b1
                try clear p2
                try clear c5
                try clear c5b0
                try clear p6
                try clear c7
                try clear c7b0
                try clear c7b1
                try clear c8
                try clear c8b0
                try clear c8b1
                try clear c9
                try clear c9b0
                try clear c9b1
                try clear c11
                try clear p2
                try clear p6
                obtain ⟨kq, x5_9, rfl, HA, HJ9, HO_4, HO_6, HB⟩ := hcut
                cases kq with
                | zero => exact absurd HA.out (by simp [scrimref6_Keys.j2])
                | succ kj9 =>
                  have H := HA.out
                  clear HA
                  simp only [scrimref6_Keys.j2] at H
                  have H' := Aside0.mk H
                  clear H
                  go_wp2
                  go_loopg [8, 9] kj9 (fun kq v8 v9 w' => ∃ (x8_4 : List Int) (x9_4 : Int), v9 = .int .i64 x9_4 ∧ Aside0 (scrimref6_Keys.l1 kq l0 t351 x5_9 x6_1 x7_1 x8_4 x9_4 = some (r1, r2)) ∧ Aside0 (kq ≤ kj9) ∧ Aside0 (Kd.R (Kd.int .i64) 3 w' w.heap.size (fun k_ => some k_ ≠ (v8 : Value).ownBlock) v352 t351) ∧ Aside0 (Kd.S (Kd.slice 5 (Kd.int .u8)) 22 w' w.heap.size (fun _ => True) u6 x6_1) ∧ Aside0 (Kd.R (Kd.int .i64) 3 w' w.heap.size (fun k_ => some k_ ≠ (v352 : Value).ownBlock) v8 x8_4) ∧ Aside0 (Below w.heap.size w w'))
                  case atStart => exact ⟨(([] : List Int)), (0), (by first | rfl | (simp; done) | (simp [*]; done)), H', ⟨Nat.le_refl _⟩, ⟨by (with_reducible repeat (first | apply Kd.R_alloc | apply Kd.R_drewN | apply Kd.R_drew)); exact Kd.R_mono HO_4.out (fun _ hk => (by simp [Value.ownBlock]))⟩, ⟨by (with_reducible repeat (first | apply Kd.S_alloc | apply Kd.S_drewN | apply Kd.S_drew)); exact HO_6.out⟩, ⟨by first | exact Kd.R_nil _ _ _ _ _ | exact Kd.N_nil _ _ _ _ _ | exact Kd.V_nil _ _ _ _ _ | exact Kd.Q_nil _ _ _ _ _ | exact Kd.S_nil _ _ _ _ _⟩, ⟨by repeat (first | (with_reducible first | exact HB.out | apply below_alloc | apply pw_below_drewN | apply below_drew1) | exact HB.out)⟩⟩
                  case round =>
                    clear H'
                    try clear c1
                    try clear c2
                    try clear c2b0
                    try clear c2b1
                    try clear p2
                    try clear c5
                    try clear c5b0
                    try clear p6
                    try clear c7
                    try clear c7b0
                    try clear c7b1
                    try clear c8
                    try clear c8b0
                    try clear c8b1
                    try clear c9
                    try clear c9b0
                    try clear c9b1
                    try clear c11
                    try clear p2
                    try clear p6
                    obtain ⟨x8_4, x9_4, rfl, HA, HK4, HO_4, HO_6, HO_8, HB⟩ := hrel
                    cases gk with
                    | zero => exact absurd HA.out (by simp [scrimref6_Keys.l1])
                    | succ k4 =>
                      have H := HA.out
                      clear HA
                      simp only [scrimref6_Keys.l1] at H
                      by_cases c12 : x9_4 < 56
                      · rw [if_pos c12] at H
                        have c12b0 : decide (x9_4 < 56) = true := decide_eq_true c12
                        clear c12
                        obtain ⟨ji13, hji13⟩ : ∃ j_ : Int, (wrap64 ((wrap64 ((wrap64 (Int.tdiv x9_4 28)) * 28)) + (Int.tmod (wrap64 ((wrap64 (x9_4 - (wrap64 ((wrap64 (Int.tdiv x9_4 28)) * 28)))) + x5_9)) 28))) = j_ := ⟨_, rfl⟩
                        replace H : (if 0 ≤ (ji13) then (if (ji13) < (t351.length : Int) then (if x8_4.length < 17592186044416 then (scrimref6_Keys.l1 k4 l0 t351 x5_9 x6_1 x7_1 (x8_4 ++ [rd t351 (ji13)]) (wrap64 (x9_4 + 1))) else (none)) else (none)) else (none)) = some (r1, r2) := by first | (rw [hji13] at H; exact H) | (simp only [hji13] at H ⊢; exact H)
                        have hji13w : (IntKind.i64.wrap ((wrap64 ((wrap64 (Int.tdiv x9_4 28)) * 28)) + (Int.tmod (wrap64 ((wrap64 (x9_4 - (wrap64 ((wrap64 (Int.tdiv x9_4 28)) * 28)))) + x5_9)) 28))) = ji13 := (i64_w _).trans hji13
                        by_cases c14 : 0 ≤ (ji13)
                        rotate_left
                        · rw [if_neg c14] at H
                          exact absurd H (by simp)
                        rw [if_pos c14] at H
                        have c14b0 : decide (0 ≤ (ji13)) = true := decide_eq_true c14
                        clear c14
                        by_cases c15 : (ji13) < (t351.length : Int)
                        rotate_left
                        · rw [if_neg c15] at H
                          exact absurd H (by simp)
                        rw [if_pos c15] at H
                        have c15b0 : decide ((ji13) < (t351.length : Int)) = true := decide_eq_true c15
                        clear c15
                        by_cases c16 : x8_4.length < 17592186044416
                        rotate_left
                        · rw [if_neg c16] at H
                          exact absurd H (by simp)
                        rw [if_pos c16] at H
                        have LMc16 := Aside0.mk c16
                        clear c16
                        obtain ⟨y355, hy355⟩ : ∃ y_ : List Int, y_ = (x8_4 ++ [rd t351 (ji13)]) := ⟨_, rfl⟩
                        replace H : (scrimref6_Keys.l1 k4 l0 t351 x5_9 x6_1 x7_1 y355 (wrap64 (x9_4 + 1))) = some (r1, r2) := by first | (rw [hy355]; with_reducible exact H) | (have H2_ := (Option.bind_some _ _).symm.trans H; rw [hy355]; with_reducible exact H2_) | (have H2_ := (Option.bind_some _ _).symm.trans H; with_reducible exact H2_) | with_reducible exact H | (rw [hy355]; exact H) | exact H
                        have Ny355 := Aside0.mk hy355
                        clear hy355
                        have H' := Aside0.mk H
                        clear H
                        obtain ⟨Ao17, co17, eo17⟩ := Kd.R_slice HO_4.out
                        subst eo17
                        have p354 : 0 ≤ ((ji13) : Int) := of_decide_eq_true (by first | (with_reducible assumption) | assumption)
                        have q354 : (ji13) < (t351.length : Int) := of_decide_eq_true (by first | (with_reducible assumption) | assumption)
                        obtain ⟨ad354, e354, hx354_0⟩ := Kd.at_int (Kd.R_reads' HO_4.out).2.2 (ji13) p354 q354
                        cases e354
                        replace p354 := eq_true p354
                        replace q354 := eq_true q354
                        go_wp2_with (first | ((with_reducible refine gate_builtin (b := .append) (xs := #[.tmp 44, .tmp 56]) rfl ?_); at_builtin; refine Kd.R_append (Kd.int .i64) (w0 := w) w.heap.size rfl (.tmp 44) (.tmp 56) 46 3 (.int .i64 0) 8 rfl Try.underlying46 info3 rfl (by decide) (by omega) u8 x8_4 (rd t351 (ji13)) [.int .i64 (rd t351 (ji13))] (fun k_ => some k_ ≠ (.slice (some ad354) t351.length co17 : Value).ownBlock) (fun _ => False) rfl rfl ?aP (fun _ hk => hk.elim) ?aF ?aO ?aB ?aS ?aL ?_; (case aP => exact rfl); (case aB => exact HB.out); (case aF => exact (fun k_ hk => Kd.fresh' (Kd.R_lt HO_4.out) k_ hk)); (case aO => exact HO_8.out); (case aS => exact (below_size HB.out)); (case aL => have := LMc16.out; omega); intro v356 w18 ho hb hg hat; rw [← Ny355.out] at ho; have n0_ := Aside0.mk (Kd.R_after (ok := (fun _ => True)) (Kd.R_mono HO_4.out (fun _ hk => ⟨trivial, hk⟩)) hg hat); have n1_ := Aside0.mk (Kd.S_over' HO_6.out (Kd.R_typed HO_8.out) (by decide) hg); have n2_ := Aside0.mk (hb); have n3_ := Aside0.mk (ho); clear HO_4; clear HO_6; clear HB; clear HO_8; have HO_4 := n0_; have HO_6 := n1_; have HB := n2_; have HO357 := n3_; clear n0_ n1_ n2_ n3_; clear ho hb hg hat))
                        go_roundg k4
                        case measure => have := HK1.out; have := HJ5.out; have := HJ9.out; have := HK4.out; omega
                        case rel => exact ⟨(y355), (wrap64 (x9_4 + 1)), (by first | rfl | (simp; done) | (simp [*]; done)), H', ⟨by have := HK1.out; have := HJ5.out; have := HJ9.out; have := HK4.out; omega⟩, ⟨by (with_reducible repeat (first | apply Kd.R_alloc | apply Kd.R_drewN | apply Kd.R_drew)); exact Kd.R_mono HO_4.out (fun _ hk => hk.2)⟩, ⟨by (with_reducible repeat (first | apply Kd.S_alloc | apply Kd.S_drewN | apply Kd.S_drew)); exact HO_6.out⟩, ⟨by (with_reducible repeat (first | apply Kd.R_alloc | apply Kd.R_drewN | apply Kd.R_drew)); exact HO357.out⟩, ⟨by repeat (first | (with_reducible first | exact HB.out | apply below_alloc | apply pw_below_drewN | apply below_drew1) | exact HB.out)⟩⟩
                      · rw [if_neg c12] at H
                        have c12b0 : decide (x9_4 < 56) = false := decide_eq_false c12
                        clear c12
                        replace H := Option.bind_eq_some_iff.mp H
                        obtain ⟨t358, A190, H⟩ := H
                        replace H : ((scrimref6_last.f).bind fun t361 => ((scrimref2_By.f k4 t358 t361).bind fun t364 => (if x6_1.length < 5864062014805 then (scrimref6_Keys.l0 k4 l0 t351 x5_9 (x6_1 ++ [t364]) (wrap64 (x7_1 + 1))) else (none)))) = some (r1, r2) := H
                        have A19 := Aside0.mk A190
                        clear A190
                        replace H := Option.bind_eq_some_iff.mp H
                        obtain ⟨t361, A200, H⟩ := H
                        replace H : ((scrimref2_By.f k4 t358 t361).bind fun t364 => (if x6_1.length < 5864062014805 then (scrimref6_Keys.l0 k4 l0 t351 x5_9 (x6_1 ++ [t364]) (wrap64 (x7_1 + 1))) else (none))) = some (r1, r2) := H
                        have A20 := Aside0.mk A200
                        clear A200
                        replace H := Option.bind_eq_some_iff.mp H
                        obtain ⟨t364, A210, H⟩ := H
                        replace H : (if x6_1.length < 5864062014805 then (scrimref6_Keys.l0 k4 l0 t351 x5_9 (x6_1 ++ [t364]) (wrap64 (x7_1 + 1))) else (none)) = some (r1, r2) := H
                        have A21 := Aside0.mk A210
                        clear A210
                        by_cases c22 : x6_1.length < 5864062014805
                        rotate_left
                        · rw [if_neg c22] at H
                          exact absurd H (by simp)
                        rw [if_pos c22] at H
                        have LMc22 := Aside0.mk c22
                        clear c22
                        obtain ⟨y367, hy367⟩ : ∃ y_ : List (List Int), y_ = (x6_1 ++ [t364]) := ⟨_, rfl⟩
                        replace H : (scrimref6_Keys.l0 k4 l0 t351 x5_9 y367 (wrap64 (x7_1 + 1))) = some (r1, r2) := by first | (rw [hy367]; with_reducible exact H) | (have H2_ := (Option.bind_some _ _).symm.trans H; rw [hy367]; with_reducible exact H2_) | (have H2_ := (Option.bind_some _ _).symm.trans H; with_reducible exact H2_) | with_reducible exact H | (rw [hy367]; exact H) | exact H
                        have Ny367 := Aside0.mk hy367
                        clear hy367
                        have H' := Aside0.mk H
                        clear H
                        obtain ⟨Ao23, co23, eo23⟩ := Kd.R_slice HO_8.out
                        subst eo23
                        go_wp2_with (first | ((with_reducible refine gate_callee (f := 21) rfl ?_); refine goesL_ (some 61) rfl rfl Try.func21 (by kernel_rfl) rfl #[.slice A0 l0.length c0, .slice Ao23 x8_4.length co23] rfl (by (try simp only [List.map_toArray, List.map_cons, List.map_nil]); first | done | rfl | (simp only [List.length_drop, List.length_take]; rfl)) ?_; (with_reducible refine (scrimref2_By.calls k4 _ _ l0 _ _ x8_4 t358 _ ?side1 ?side2 ?side3 ?side4 A19.out).mono ?_); (case side1 => repeat (first | exact (Kd.C_below HR0.out HB.out) | (with_reducible refine Kd.C_alloc ?_ _) | (with_reducible refine Kd.C_drewN ?_ _) | (with_reducible refine Kd.C_drew ?_))); (case side2 => exact HC0.out); (case side3 => repeat (first | exact (Kd.R_reads' HO_8.out).2.2 | (with_reducible refine Kd.C_alloc ?_ _) | (with_reducible refine Kd.C_drewN ?_ _) | (with_reducible refine Kd.C_drew ?_))); (case side4 => exact (Kd.R_reads' HO_8.out).2.1); rintro e w24 ⟨v359, rfl, ho0, hb⟩; refine ⟨_, rfl, ?_⟩; have n0_ := Aside0.mk (Kd.R_below HO_4.out hb); have n1_ := Aside0.mk (Kd.S_elder' HO_6.out (Kd.R_base ho0) hb); have n2_ := Aside0.mk (Kd.R_below HO_8.out hb); have n3_ := Aside0.mk (Kd.R_lower ho0 (below_size HB.out)); have n4_ := Aside0.mk (below_step HB.out hb); clear HO_4; clear HO_6; clear HO_8; clear HB; have HO_4 := n0_; have HO_6 := n1_; have HO_8 := n2_; have HO360 := n3_; have HB := n4_; clear n0_ n1_ n2_ n3_ n4_; (try clear hb); (try clear hb2); (try clear hk); (try clear hi); (try clear ho0)) | ((with_reducible refine gate_callee (f := 28) rfl ?_); refine goesL_ (some 62) rfl rfl Try.func28 (by kernel_rfl) rfl #[] rfl (by (try simp only [List.map_toArray, List.map_cons, List.map_nil]); first | done | rfl | (simp only [List.length_drop, List.length_take]; rfl)) ?_; (with_reducible refine (scrimref6_last.calls  t361 _ A20.out).mono ?_); rintro e w25 ⟨v362, rfl, ho0, hb⟩; refine ⟨_, rfl, ?_⟩; have n0_ := Aside0.mk (Kd.R_elder' HO_4.out (Kd.R_base ho0) hb); have n1_ := Aside0.mk (Kd.S_below HO_6.out hb); have n2_ := Aside0.mk (Kd.R_elder' HO_8.out (Kd.R_base ho0) hb); have n3_ := Aside0.mk (Kd.R_below HO360.out hb); have n4_ := Aside0.mk (Kd.R_lower (Kd.R_new' (Kd.R_new' ho0 (Kd.R_lt HO_4.out)) (Kd.R_lt HO_8.out)) (below_size HB.out)); have n5_ := Aside0.mk (below_step HB.out hb); clear HO_4; clear HO_6; clear HO_8; clear HO360; clear HB; have HO_4 := n0_; have HO_6 := n1_; have HO_8 := n2_; have HO360 := n3_; have HO363 := n4_; have HB := n5_; clear n0_ n1_ n2_ n3_ n4_ n5_; (try clear hb); (try clear hb2); (try clear hk); (try clear hi); (try clear ho0); obtain ⟨Ao26, co26, eo26⟩ := Kd.R_slice HO360.out; subst eo26; obtain ⟨Ao27, co27, eo27⟩ := Kd.R_slice HO363.out; subst eo27) | ((with_reducible refine gate_callee (f := 21) rfl ?_); refine goesL_ (some 63) rfl rfl Try.func21 (by kernel_rfl) rfl #[.slice Ao26 t358.length co26, .slice Ao27 t361.length co27] rfl (by (try simp only [List.map_toArray, List.map_cons, List.map_nil]); first | done | rfl | (simp only [List.length_drop, List.length_take]; rfl)) ?_; (with_reducible refine (scrimref2_By.calls k4 _ _ t358 _ _ t361 t364 _ ?side1 ?side2 ?side3 ?side4 A21.out).mono ?_); (case side1 => repeat (first | exact (Kd.R_reads' HO360.out).2.2 | (with_reducible refine Kd.C_alloc ?_ _) | (with_reducible refine Kd.C_drewN ?_ _) | (with_reducible refine Kd.C_drew ?_))); (case side2 => exact (Kd.R_reads' HO360.out).2.1); (case side3 => repeat (first | exact (Kd.R_reads' HO363.out).2.2 | (with_reducible refine Kd.C_alloc ?_ _) | (with_reducible refine Kd.C_drewN ?_ _) | (with_reducible refine Kd.C_drew ?_))); (case side4 => exact (Kd.R_reads' HO363.out).2.1); rintro e w28 ⟨v365, rfl, ho0, hb⟩; refine ⟨_, rfl, ?_⟩; have n0_ := Aside0.mk (Kd.R_below HO_4.out hb); have n1_ := Aside0.mk (Kd.S_elder' HO_6.out (Kd.R_base ho0) hb); have n2_ := Aside0.mk (Kd.R_below HO_8.out hb); have n3_ := Aside0.mk (Kd.R_elder' HO360.out (Kd.R_base ho0) hb); have n4_ := Aside0.mk (Kd.R_below HO363.out hb); have n5_ := Aside0.mk (Kd.R_lower (Kd.R_new' ho0 (Kd.R_lt HO360.out)) (below_size HB.out)); have n6_ := Aside0.mk (below_step HB.out hb); clear HO_4; clear HO_6; clear HO_8; clear HO360; clear HO363; clear HB; have HO_4 := n0_; have HO_6 := n1_; have HO_8 := n2_; have HO360 := n3_; have HO363 := n4_; have HO366 := n5_; have HB := n6_; clear n0_ n1_ n2_ n3_ n4_ n5_ n6_; (try clear hb); (try clear hb2); (try clear hk); (try clear hi); (try clear ho0); obtain ⟨Ao30, co30, eo30⟩ := Kd.R_slice HO366.out; subst eo30) | ((with_reducible refine gate_builtin (b := .append) (xs := #[.tmp 58, .tmp 64]) rfl ?_); at_builtin; refine Kd.S_append (Kd.slice 5 (Kd.int .u8)) (w0 := w) w.heap.size rfl (.tmp 58) (.tmp 64) 24 22 (.slice none 0 0) 24 rfl Try.underlying24 info22 rfl (by decide) (by omega) u6 x6_1 t364 [.slice Ao30 t364.length co30] (fun k_ => some k_ ≠ (.slice Ao26 t358.length co26 : Value).ownBlock) (fun k_ => some k_ = (.slice Ao30 t364.length co30 : Value).ownBlock) rfl rfl ?aP (fun k_ hk_ => ((Kd.R_mono (ok' := fun k_ => ((fun k_ => some k_ ≠ (.slice Ao26 t358.length co26 : Value).ownBlock)) k_ ∧ some k_ ≠ (u6 : Value).ownBlock) (Kd.R_apart' (HO366.out) (Kd.S_typed HO_6.out) (by decide)) (fun k_ hk => ⟨hk.1.2, hk.2⟩))).1 k_ hk_.symm) ?aF ?aO ?aB ?aS ?aL ?_; (case aP => exact Kd.M_row (Kd.R_mono (Kd.R_tight rfl (Kd.R_mono (ok' := fun k_ => ((fun k_ => some k_ ≠ (.slice Ao26 t358.length co26 : Value).ownBlock)) k_ ∧ some k_ ≠ (u6 : Value).ownBlock) (Kd.R_apart' (HO366.out) (Kd.S_typed HO_6.out) (by decide)) (fun k_ hk => ⟨hk.1.2, hk.2⟩))) (fun _ h_ => h_))); (case aB => exact HB.out); (case aF => exact (fun k_ hk => Kd.fresh' (Kd.R_lt HO360.out) k_ hk)); (case aO => exact (Kd.S_mono HO_6.out (fun k_ hk => ⟨hk.1.2, fun e_ => hk.2 e_⟩))); (case aS => exact (below_size HB.out)); (case aL => have := LMc22.out; omega); intro v368 w29 ho hb hg hat; rw [← Ny367.out] at ho; have n0_ := Aside0.mk (Kd.R_over' HO_4.out (Kd.S_typed HO_6.out) (by decide) hg); have n1_ := Aside0.mk (Kd.R_over' HO_8.out (Kd.S_typed HO_6.out) (by decide) hg); have n2_ := Aside0.mk (Kd.R_over' HO360.out (Kd.S_typed HO_6.out) (by decide) hg); have n3_ := Aside0.mk (Kd.R_over' HO363.out (Kd.S_typed HO_6.out) (by decide) hg); have n4_ := Aside0.mk (hb); have n5_ := Aside0.mk (ho); clear HO_4; clear HO_8; clear HO360; clear HO363; clear HB; clear HO_6; clear HO366; have HO_4 := n0_; have HO_8 := n1_; have HO360 := n2_; have HO363 := n3_; have HB := n4_; have HO369 := n5_; clear n0_ n1_ n2_ n3_ n4_ n5_; clear ho hb hg hat))
                        go_roundg k4
                        case measure => have := HK1.out; have := HJ5.out; have := HJ9.out; have := HK4.out; omega
                        case rel => exact ⟨(x5_9), (y367), (wrap64 (x7_1 + 1)), (by first | rfl | (simp; done) | (simp [*]; done)), (by first | rfl | (simp; done) | (simp [*]; done)), H', ⟨by have := HK1.out; have := HJ5.out; have := HJ9.out; have := HK4.out; omega⟩, ⟨by (with_reducible repeat (first | apply Kd.R_alloc | apply Kd.R_drewN | apply Kd.R_drew)); exact Kd.R_mono HO_4.out (fun _ hk => trivial)⟩, ⟨by (with_reducible repeat (first | apply Kd.S_alloc | apply Kd.S_drewN | apply Kd.S_drew)); exact Kd.S_mono HO369.out (fun _ hk => trivial)⟩, ⟨by repeat (first | (with_reducible first | exact HB.out | apply below_alloc | apply pw_below_drewN | apply below_drew1) | exact HB.out)⟩⟩
        · rw [if_neg c5] at H
          have c5b0 : decide (x7_1 ≤ 16) = false := decide_eq_false c5
          clear c5
          simp only [Option.some.injEq, Prod.mk.injEq] at H
          obtain ⟨rfl, rfl⟩ := H
          go_wp2
          go_ret2
          exact ⟨_, by first | rfl | (simp [errW_none, errW_some] <;> rfl) | (simp [*, errW_none, errW_some] <;> rfl), by (with_reducible repeat (first | apply Kd.S_alloc | apply Kd.S_drewN | apply Kd.S_drew)); exact HO_6.out, by repeat (first | (with_reducible first | exact HB.out | apply below_alloc | apply pw_below_drewN | apply below_drew1) | exact HB.out)⟩
  · rw [if_neg c2] at H
    have c2b0 : ((l0.length : Int) == 8) = false := beq_eq_false_iff_ne.mpr c2
    have c2b1 : ((l0.length : Int) != 8) = true := bne_iff_ne.mpr c2
    simp only [Option.some.injEq, Prod.mk.injEq] at H
    obtain ⟨rfl, rfl⟩ := H
    go_enter Try.func13, Try.ntmps13
    go_wp2
    go_ret2
    exact ⟨_, by first | rfl | (simp [errW_none, errW_some] <;> rfl) | (simp [*, errW_none, errW_some] <;> rfl), by first | exact Kd.S_nil _ _ _ _ _ | exact Kd.N_nil _ _ _ _ _ | exact Kd.V_nil _ _ _ _ _ | exact Kd.Q_nil _ _ _ _ _ | exact Kd.R_nil _ _ _ _ _, by repeat (first | (with_reducible first | exact HB.out | apply below_alloc | apply pw_below_drewN | apply below_drew1) | exact HB.out)⟩

/-! ### scrimlaw6_rowsOf: function 14 -/
def scrimlaw6_rowsOf.l0 : Nat → List (List Int) → List (List Int) → Int → Option (Bool)
  | 0, _, _, _ => none
  | k + 1, x0, x1, x5 => if x5 < (x0.length : Int) then (if 0 ≤ x5 then (if x5 < (x1.length : Int) then (if (strOfNums (rd_L2 x0 x5)).toList = (strOfNums (rd_L2 x1 x5)).toList then (scrimlaw6_rowsOf.l0 k x0 x1 (wrap64 (x5 + 1))) else (some false)) else (none)) else (none)) else (some true)
def scrimlaw6_rowsOf.f (k : Nat) (l0 : List (List Int)) (l1 : List (List Int)) : Option (Bool) := if (l0.length : Int) = (l1.length : Int) then (scrimlaw6_rowsOf.l0 k l0 l1 0) else (some false)
theorem scrimlaw6_rowsOf.mono_l : ∀ k, (∀ y0 y1 y2, LeO (scrimlaw6_rowsOf.l0 k y0 y1 y2) (scrimlaw6_rowsOf.l0 (k + 1) y0 y1 y2))
  | 0 => fun _ _ _ r h => by simp [scrimlaw6_rowsOf.l0] at h
  | k + 1 => by
    have ih0 := scrimlaw6_rowsOf.mono_l k
    · intro y0 y1 y2
      unfold scrimlaw6_rowsOf.l0
      repeat' first
      | (with_reducible exact ih0 _ _ _)
      | (with_reducible exact LeO.refl _)
      | (with_reducible exact LeO.none _)
      | (with_reducible refine LeO.ite ?_ ?_)
      | (with_reducible refine LeO.bind ?_ (fun _ => ?_))
      | exact ih0 _ _ _
      | exact LeO.none _
      | refine LeO.ite ?_ ?_
      | refine LeO.bind ?_ (fun _ => ?_)
theorem scrimlaw6_rowsOf.mono : ∀ a0 a1 k, LeO (scrimlaw6_rowsOf.f k a0 a1) (scrimlaw6_rowsOf.f (k + 1) a0 a1) := by
  intro a0 a1 k
  have ih0 := scrimlaw6_rowsOf.mono_l k
  unfold scrimlaw6_rowsOf.f
  repeat' first
      | (with_reducible exact ih0 _ _ _)
      | (with_reducible exact LeO.refl _)
      | (with_reducible exact LeO.none _)
      | (with_reducible refine LeO.ite ?_ ?_)
      | (with_reducible refine LeO.bind ?_ (fun _ => ?_))
      | exact ih0 _ _ _
      | exact LeO.none _
      | refine LeO.ite ?_ ?_
      | refine LeO.bind ?_ (fun _ => ?_)
set_option maxHeartbeats 8000000 in
set_option maxRecDepth 100000 in
theorem scrimlaw6_rowsOf.calls (k : Nat) (A0 : Option Addr) (c0 : Nat) (l0 : List (List Int)) (A1 : Option Addr) (c1 : Nat) (l1 : List (List Int)) (r : Bool) (w : World) (hr0 : Kd.C (Kd.slice 5 (Kd.int .u8)) w A0 l0.length l0) (hc0 : l0.length ≤ c0) (hr1 : Kd.C (Kd.slice 5 (Kd.int .u8)) w A1 l1.length l1) (hc1 : l1.length ≤ c1) (h : scrimlaw6_rowsOf.f k l0 l1 = some r) :
    Calls Try.prog 14 #[.slice A0 l0.length c0, .slice A1 l1.length c1] w fun e w' => e = .returned (.bool r) ∧ Drawn0 w w' := by
  have HR0 := Aside0.mk hr0
  have HC0 := Aside0.mk hc0
  clear hr0 hc0
  have HR1 := Aside0.mk hr1
  have HC1 := Aside0.mk hc1
  clear hr1 hc1
  have H : (if (l0.length : Int) = (l1.length : Int) then (scrimlaw6_rowsOf.l0 k l0 l1 0) else (some false)) = some r := h
  clear h
  by_cases c3 : (l0.length : Int) = (l1.length : Int)
  · rw [if_pos c3] at H
    have c3b0 : ((l0.length : Int) == (l1.length : Int)) = true := beq_iff_eq.mpr c3
    have c3b1 : ((l0.length : Int) != (l1.length : Int)) = false := bne_eq_false_iff_eq.mpr c3
    have c3b2 : (l0.length == l1.length) = true := by first | simpa using c3 | (simp at c3 ⊢; omega)
    clear c3
    have H' := Aside0.mk H
    clear H
    go_enter Try.func14, Try.ntmps14
    go_wp2
    repeat (go_quiet (fail); try go_wp2)
    go_loopg [5] k (fun kq v5 w' => ∃ (x5_1 : Int), v5 = .int .i64 x5_1 ∧ Aside0 (scrimlaw6_rowsOf.l0 kq l0 l1 x5_1 = some r) ∧ Aside0 (kq ≤ k) ∧ Drawn0 w w')
    case atStart => exact ⟨(0), (by first | rfl | (simp; done) | (simp [*]; done)), H', ⟨Nat.le_refl _⟩, by repeat (first | exact Drawn0.refl _ | apply Drawn0.step)⟩
    case round =>
      clear H'
      try clear c1
      try clear p2
      try clear c3
      try clear c3b0
      try clear c3b1
      try clear c3b2
      obtain ⟨x5_1, rfl, HA, HK1, ⟨m1, rfl⟩⟩ := hrel
      cases gk with
      | zero => exact absurd HA.out (by simp [scrimlaw6_rowsOf.l0])
      | succ k1 =>
        have H := HA.out
        clear HA
        simp only [scrimlaw6_rowsOf.l0] at H
        by_cases c4 : x5_1 < (l0.length : Int)
        · rw [if_pos c4] at H
          have c4b0 : decide (x5_1 < (l0.length : Int)) = true := decide_eq_true c4
          clear c4
          by_cases c5 : 0 ≤ x5_1
          rotate_left
          · rw [if_neg c5] at H
            exact absurd H (by simp)
          rw [if_pos c5] at H
          have c5b0 : decide (0 ≤ x5_1) = true := decide_eq_true c5
          clear c5
          by_cases c6 : x5_1 < (l1.length : Int)
          rotate_left
          · rw [if_neg c6] at H
            exact absurd H (by simp)
          rw [if_pos c6] at H
          have c6b0 : decide (x5_1 < (l1.length : Int)) = true := decide_eq_true c6
          clear c6
          by_cases c7 : (strOfNums (rd_L2 l0 x5_1)).toList = (strOfNums (rd_L2 l1 x5_1)).toList
          · rw [if_pos c7] at H
            have c7b0 : ((strOfNums (rd_L2 l0 x5_1)).toList == (strOfNums (rd_L2 l1 x5_1)).toList) = true := beq_iff_eq.mpr c7
            have c7b1 : ((strOfNums (rd_L2 l0 x5_1)).toList != (strOfNums (rd_L2 l1 x5_1)).toList) = false := bne_eq_false_iff_eq.mpr c7
            clear c7
            have H' := Aside0.mk H
            clear H
            have p370 : 0 ≤ (x5_1 : Int) := of_decide_eq_true (by first | (with_reducible assumption) | assumption)
            have q370 : x5_1 < (l0.length : Int) := of_decide_eq_true (by first | (with_reducible assumption) | assumption)
            obtain ⟨ad370, A370_0, c370_0, e370, hx370_0, hl370_0, hi370_0⟩ := at_L2 HR0.out x5_1 p370 q370
            cases e370
            have HR370_0 := Aside0.mk hi370_0
            have HC370_0 := Aside0.mk hl370_0
            clear hi370_0 hl370_0
            replace p370 := eq_true p370
            replace q370 := eq_true q370
            have hcv8 := Kd.C_string (P := Try.prog) (A := A370_0) (c := c370_0) Try.underlying22 Try.underlying5 Try.underlying9 HR370_0.out; have hcv8q := fun nq => Kd.C_string (P := Try.prog) (A := A370_0) (c := c370_0) Try.underlying22 Try.underlying5 Try.underlying9 (Kd.C_drewN HR370_0.out nq)
            have p371 : 0 ≤ (x5_1 : Int) := of_decide_eq_true (by first | (with_reducible assumption) | assumption)
            have q371 : x5_1 < (l1.length : Int) := of_decide_eq_true (by first | (with_reducible assumption) | assumption)
            obtain ⟨ad371, A371_0, c371_0, e371, hx371_0, hl371_0, hi371_0⟩ := at_L2 HR1.out x5_1 p371 q371
            cases e371
            have HR371_0 := Aside0.mk hi371_0
            have HC371_0 := Aside0.mk hl371_0
            clear hi371_0 hl371_0
            replace p371 := eq_true p371
            replace q371 := eq_true q371
            have hcv9 := Kd.C_string (P := Try.prog) (A := A371_0) (c := c371_0) Try.underlying22 Try.underlying5 Try.underlying9 HR371_0.out; have hcv9q := fun nq => Kd.C_string (P := Try.prog) (A := A371_0) (c := c371_0) Try.underlying22 Try.underlying5 Try.underlying9 (Kd.C_drewN HR371_0.out nq)
            go_wp2
            repeat (go_quiet (fail); try go_wp2)
            go_roundg k1
            case measure => have := HK1.out; omega
            case rel => exact ⟨(wrap64 (x5_1 + 1)), (by first | rfl | (simp; done) | (simp [*]; done)), H', ⟨by have := HK1.out; omega⟩, by repeat (first | exact Drawn0.refl _ | apply Drawn0.step)⟩
          · rw [if_neg c7] at H
            have c7b0 : ((strOfNums (rd_L2 l0 x5_1)).toList == (strOfNums (rd_L2 l1 x5_1)).toList) = false := beq_eq_false_iff_ne.mpr c7
            have c7b1 : ((strOfNums (rd_L2 l0 x5_1)).toList != (strOfNums (rd_L2 l1 x5_1)).toList) = true := bne_iff_ne.mpr c7
            obtain rfl := Option.some.inj H
            have p370 : 0 ≤ (x5_1 : Int) := of_decide_eq_true (by first | (with_reducible assumption) | assumption)
            have q370 : x5_1 < (l0.length : Int) := of_decide_eq_true (by first | (with_reducible assumption) | assumption)
            obtain ⟨ad370, A370_0, c370_0, e370, hx370_0, hl370_0, hi370_0⟩ := at_L2 HR0.out x5_1 p370 q370
            cases e370
            have HR370_0 := Aside0.mk hi370_0
            have HC370_0 := Aside0.mk hl370_0
            clear hi370_0 hl370_0
            replace p370 := eq_true p370
            replace q370 := eq_true q370
            have hcv10 := Kd.C_string (P := Try.prog) (A := A370_0) (c := c370_0) Try.underlying22 Try.underlying5 Try.underlying9 HR370_0.out; have hcv10q := fun nq => Kd.C_string (P := Try.prog) (A := A370_0) (c := c370_0) Try.underlying22 Try.underlying5 Try.underlying9 (Kd.C_drewN HR370_0.out nq)
            have p371 : 0 ≤ (x5_1 : Int) := of_decide_eq_true (by first | (with_reducible assumption) | assumption)
            have q371 : x5_1 < (l1.length : Int) := of_decide_eq_true (by first | (with_reducible assumption) | assumption)
            obtain ⟨ad371, A371_0, c371_0, e371, hx371_0, hl371_0, hi371_0⟩ := at_L2 HR1.out x5_1 p371 q371
            cases e371
            have HR371_0 := Aside0.mk hi371_0
            have HC371_0 := Aside0.mk hl371_0
            clear hi371_0 hl371_0
            replace p371 := eq_true p371
            replace q371 := eq_true q371
            have hcv11 := Kd.C_string (P := Try.prog) (A := A371_0) (c := c371_0) Try.underlying22 Try.underlying5 Try.underlying9 HR371_0.out; have hcv11q := fun nq => Kd.C_string (P := Try.prog) (A := A371_0) (c := c371_0) Try.underlying22 Try.underlying5 Try.underlying9 (Kd.C_drewN HR371_0.out nq)
            go_wp2
            repeat (go_quiet (fail); try go_wp2)
            go_ret
            exact ⟨by first | rfl | (simp; done) | (simp [*]; done), by repeat (first | exact Drawn0.refl _ | apply Drawn0.step)⟩
        · rw [if_neg c4] at H
          have c4b0 : decide (x5_1 < (l0.length : Int)) = false := decide_eq_false c4
          clear c4
          obtain rfl := Option.some.inj H
          go_wp2
          repeat (go_quiet (fail); try go_wp2)
          go_ret
          exact ⟨by first | rfl | (simp; done) | (simp [*]; done), by repeat (first | exact Drawn0.refl _ | apply Drawn0.step)⟩
  · rw [if_neg c3] at H
    have c3b0 : ((l0.length : Int) == (l1.length : Int)) = false := beq_eq_false_iff_ne.mpr c3
    have c3b1 : ((l0.length : Int) != (l1.length : Int)) = true := bne_iff_ne.mpr c3
    have c3b2 : (l0.length == l1.length) = false := by first | simpa using c3 | (simp at c3 ⊢; omega)
    obtain rfl := Option.some.inj H
    go_enter Try.func14, Try.ntmps14
    go_wp2
    repeat (go_quiet (fail); try go_wp2)
    go_ret
    exact ⟨by first | rfl | (simp; done) | (simp [*]; done), by repeat (first | exact Drawn0.refl _ | apply Drawn0.step)⟩

end Go.Proofs.Ytnbopkmhakfmmaa.MDes
