/- A walk: each Go function that is named here answers what its plain function answers. Conditions: its arguments are read as lists and numbers. -/
import Derived.Test.YtnbopkmhakfmmaaMDesx0
import Derived.Test.YtnbopkmhakfmmaaMDesa
import Derived.Test.YtnbopkmhakfmmaaMDesd
import Derived.Test.YtnbopkmhakfmmaaMDese
namespace Go.Proofs.Ytnbopkmhakfmmaa.MDes
open Go.RowKit Go.Proofs.YtnbopkmhakfmmaaW.PrintWords Go.Proofs.YtnbopkmhakfmmaaW.PrintLast Go.Proofs.YtnbopkmhakfmmaaW.PrintMore
attribute [local go_sem] max2_int min2_int max_two min_two max_three min_three max_four min_four   -- for this text's walks alone
set_option linter.unusedVariables false
set_option linter.unusedSimpArgs false

/-! ### des_first: function 46 -/
def des_first.l0 : Nat → List Int → List Int → Int → Int → Option (List Int)
  | 0, _, _, _, _ => none
  | k + 1, x1, x4, x5, x6 => if x6 < x5 then (if 0 ≤ x6 then (if x6 < (x4.length : Int) then ((des_down.f k x1 (rd x4 x6) 8 0 8).bind fun t239 => (des_first.l0 k t239 x4 x5 (wrap64 (x6 + 1)))) else (none)) else (none)) else (some x1)
def des_first.f (k : Nat)  : Option (List Int) := (some (([58, 60, 62, 64, 57, 59, 61, 63] : List Int) : List Int)).bind fun y235 => (des_first.l0 k ([] : List Int) y235 (y235.length : Int) 0)
theorem des_first.mono_l : ∀ k, (∀ y0 y1 y2 y3, LeO (des_first.l0 k y0 y1 y2 y3) (des_first.l0 (k + 1) y0 y1 y2 y3))
  | 0 => fun _ _ _ _ r h => by simp [des_first.l0] at h
  | k + 1 => by
    have ih0 := des_first.mono_l k
    · intro y0 y1 y2 y3
      unfold des_first.l0
      repeat' first
      | (with_reducible exact ih0 _ _ _ _)
      | (with_reducible exact des_down.mono _ _ _ _ _ _)
      | (with_reducible exact LeO.refl _)
      | (with_reducible exact LeO.none _)
      | (with_reducible refine LeO.ite ?_ ?_)
      | (with_reducible refine LeO.bind ?_ (fun _ => ?_))
      | exact ih0 _ _ _ _
      | exact des_down.mono _ _ _ _ _ _
      | exact LeO.none _
      | refine LeO.ite ?_ ?_
      | refine LeO.bind ?_ (fun _ => ?_)
theorem des_first.mono : ∀ k, LeO (des_first.f k ) (des_first.f (k + 1) ) := by
  intro  k
  have ih0 := des_first.mono_l k
  unfold des_first.f
  repeat' first
      | (with_reducible exact ih0 _ _ _ _)
      | (with_reducible exact des_down.mono _ _ _ _ _ _)
      | (with_reducible exact LeO.refl _)
      | (with_reducible exact LeO.none _)
      | (with_reducible refine LeO.ite ?_ ?_)
      | (with_reducible refine LeO.bind ?_ (fun _ => ?_))
      | exact ih0 _ _ _ _
      | exact des_down.mono _ _ _ _ _ _
      | exact LeO.none _
      | refine LeO.ite ?_ ?_
      | refine LeO.bind ?_ (fun _ => ?_)
set_option maxHeartbeats 8000000 in
set_option maxRecDepth 100000 in
theorem des_first.calls (k : Nat)  (r : List Int) (w : World) (h : des_first.f k  = some r) :
    Calls Try.prog 46 #[] w fun e w' => ∃ v0_ : Value, e = .returned (v0_) ∧ Kd.R (Kd.int .i64) 3 w' w.heap.size (fun _ => True) v0_ r ∧ Below w.heap.size w w' := by
  have HB := Aside0.mk (Below.refl w.heap.size w)
  have H : ((some (([58, 60, 62, 64, 57, 59, 61, 63] : List Int) : List Int)).bind fun y235 => (des_first.l0 k ([] : List Int) y235 (y235.length : Int) 0)) = some r := h
  clear h
  obtain ⟨y235, hy235⟩ : ∃ y_ : List Int, y_ = (([58, 60, 62, 64, 57, 59, 61, 63] : List Int)) := ⟨_, rfl⟩
  replace H : (des_first.l0 k ([] : List Int) y235 (y235.length : Int) 0) = some r := by first | (rw [hy235]; with_reducible exact H) | (have H2_ := (Option.bind_some _ _).symm.trans H; rw [hy235]; with_reducible exact H2_) | (have H2_ := (Option.bind_some _ _).symm.trans H; with_reducible exact H2_) | with_reducible exact H | (rw [hy235]; exact H) | exact H
  have Ny235 := Aside0.mk hy235
  clear hy235
  have H' := Aside0.mk H
  clear H
  go_enter Try.func46, Try.ntmps46
  go_wp2_with (first | ((with_reducible refine gate_dst (N := 4) rfl ?_); refine Kd.R_lit (Kd.int .i64) _ 3 ?hg (N := 4) ?hd (xs := ([58, 60, 62, 64, 57, 59, 61, 63] : List Int)) (inner := [.int .i64 58, .int .i64 60, .int .i64 62, .int .i64 64, .int .i64 57, .int .i64 59, .int .i64 61, .int .i64 63]) (ok := fun _ => True) (okp := fun _ => True) ?hr ?hp (fun _ hk => hk) trivial (Below.refl _ _) (Nat.le_refl _) (by simp) ?_; (case hd => rfl); (case hg => rfl); (case hr => first | (go_simp; done) | (go_simp; rfl)); (case hp => exact (Reps.one (show Kd.M (Kd.int .i64) _ _ _ 58 [.int .i64 58] from rfl) (Reps.one (show Kd.M (Kd.int .i64) _ _ _ 60 [.int .i64 60] from rfl) (Reps.one (show Kd.M (Kd.int .i64) _ _ _ 62 [.int .i64 62] from rfl) (Reps.one (show Kd.M (Kd.int .i64) _ _ _ 64 [.int .i64 64] from rfl) (Reps.one (show Kd.M (Kd.int .i64) _ _ _ 57 [.int .i64 57] from rfl) (Reps.one (show Kd.M (Kd.int .i64) _ _ _ 59 [.int .i64 59] from rfl) (Reps.one (show Kd.M (Kd.int .i64) _ _ _ 61 [.int .i64 61] from rfl) (Reps.one (show Kd.M (Kd.int .i64) _ _ _ 63 [.int .i64 63] from rfl) (Reps.none _ _)))))))))); intro v236 w1 ho2 hb hg_ hnew_; clear hg_ hnew_; (first | rw [← Ny235.out] at ho2 | (simp only [Int.reduceToNat] at ho2; rw [← Ny235.out] at ho2)); have n0_ := Aside0.mk (Kd.R_lower ho2 (below_size HB.out)); have n1_ := Aside0.mk (below_step HB.out hb); clear HB; have HO237 := n0_; have HB := n1_; clear n0_ n1_; clear hb ho2; obtain ⟨Ao3, co3, eo3⟩ := Kd.R_slice HO237.out; subst eo3))
  go_loopg [1, 6] k (fun kq v1 v6 w' => ∃ (x1_1 : List Int) (x6_1 : Int), v6 = .int .i64 x6_1 ∧ Aside0 (des_first.l0 kq x1_1 y235 (y235.length : Int) x6_1 = some r) ∧ Aside0 (kq ≤ k) ∧ Aside0 (Kd.R (Kd.int .i64) 3 w' w.heap.size (fun k_ => some k_ ≠ ((.slice Ao3 y235.length co3) : Value).ownBlock) v1 x1_1) ∧ Aside0 (Kd.R (Kd.int .i64) 3 w' w.heap.size (fun k_ => some k_ ≠ (v1 : Value).ownBlock) (.slice Ao3 y235.length co3) y235) ∧ Aside0 (Below w.heap.size w w'))
  case atStart => exact ⟨(([] : List Int)), (0), (by first | rfl | (simp; done) | (simp [*]; done)), H', ⟨Nat.le_refl _⟩, ⟨by first | exact Kd.R_nil _ _ _ _ _ | exact Kd.N_nil _ _ _ _ _ | exact Kd.V_nil _ _ _ _ _ | exact Kd.Q_nil _ _ _ _ _ | exact Kd.S_nil _ _ _ _ _⟩, ⟨by (with_reducible repeat (first | apply Kd.R_alloc | apply Kd.R_drewN | apply Kd.R_drew)); exact Kd.R_mono HO237.out (fun _ hk => (by simp [Value.ownBlock]))⟩, ⟨by repeat (first | (with_reducible first | exact HB.out | apply below_alloc | apply pw_below_drewN | apply below_drew1) | exact HB.out)⟩⟩
  case round =>
    clear H'
    try clear p2
    obtain ⟨x1_1, x6_1, rfl, HA, HK1, HO_1, HO_4, HB⟩ := hrel
    cases gk with
    | zero => exact absurd HA.out (by simp [des_first.l0])
    | succ k1 =>
      have H := HA.out
      clear HA
      simp only [des_first.l0] at H
      by_cases c4 : x6_1 < (y235.length : Int)
      · rw [if_pos c4] at H
        have c4b0 : decide (x6_1 < (y235.length : Int)) = true := decide_eq_true c4
        clear c4
        by_cases c5 : 0 ≤ x6_1
        rotate_left
        · rw [if_neg c5] at H
          exact absurd H (by simp)
        rw [if_pos c5] at H
        have c5b0 : decide (0 ≤ x6_1) = true := decide_eq_true c5
        clear c5
        by_cases c6 : x6_1 < (y235.length : Int)
        rotate_left
        · rw [if_neg c6] at H
          exact absurd H (by simp)
        rw [if_pos c6] at H
        have c6b0 : decide (x6_1 < (y235.length : Int)) = true := decide_eq_true c6
        clear c6
        replace H := Option.bind_eq_some_iff.mp H
        obtain ⟨t239, A70, H⟩ := H
        replace H : (des_first.l0 k1 t239 y235 (y235.length : Int) (wrap64 (x6_1 + 1))) = some r := H
        have A7 := Aside0.mk A70
        clear A70
        have H' := Aside0.mk H
        clear H
        have p238 : 0 ≤ (x6_1 : Int) := of_decide_eq_true (by first | (with_reducible assumption) | assumption)
        have q238 : x6_1 < (y235.length : Int) := of_decide_eq_true (by first | (with_reducible assumption) | assumption)
        obtain ⟨ad238, e238, hx238_0⟩ := Kd.at_int (Kd.R_reads' HO_4.out).2.2 x6_1 p238 q238
        cases e238
        replace p238 := eq_true p238
        replace q238 := eq_true q238
        obtain ⟨Ao8, co8, eo8⟩ := Kd.R_slice HO_1.out
        subst eo8
        go_wp2_with (first | ((with_reducible refine gate_callee (f := 44) rfl ?_); refine goesL_ (some 12) rfl rfl Try.func44 (by kernel_rfl) rfl #[.slice Ao8 x1_1.length co8, .int .i64 (rd y235 x6_1), .int .i64 8, .int .i64 0, .int .i64 8] rfl (by (try simp only [List.map_toArray, List.map_cons, List.map_nil]); first | done | rfl | (simp only [List.length_drop, List.length_take]; rfl)) ?_; (with_reducible refine (des_down.calls k1 (fun k_ => some k_ = (.slice Ao8 x1_1.length co8 : Value).ownBlock) (.slice Ao8 x1_1.length co8) x1_1 (rd y235 x6_1) 8 0 8 t239 w _ ?side1 ?side2 A7.out).mono ?_); (case side1 => repeat (first | (with_reducible first | exact HB.out | apply below_alloc | apply pw_below_drewN | apply below_drew1) | exact HB.out)); (case side2 => exact Kd.R_tight rfl HO_1.out); rintro e w9 ⟨v240, rfl, ho0, hb, hkp⟩; refine ⟨_, rfl, ?_⟩; have n0_ := Aside0.mk (Kd.R_mono (ok' := fun k_ => some k_ ≠ (v240 : Value).ownBlock) (Kd.R_keptB (HO_4.out) hkp (fun k_ hk_ hs_ => (hk_) hs_)) (fun k_ hk_ => fun e_ => Or.elim (ho0.1 k_ e_.symm) (fun hs_ => hk_.2.1 hs_) (fun hn_ => Nat.not_le.2 hk_.2.2 hn_))); have n1_ := Aside0.mk (Kd.R_mono (ok' := fun k_ => some k_ ≠ (.slice (some ad238) y235.length co3 : Value).ownBlock) ho0 (fun k_ hk_ => Or.elim hk_ (fun hs_ => fun e_ => (((HO_4.out).1 k_ e_.symm)) hs_) (fun hn_ => (Kd.fresh' (Kd.R_lt HO_4.out) k_ hn_)))); have n2_ := Aside0.mk (hb); clear HO_4; clear HB; clear HO_1; have HO_4 := n0_; have HO241 := n1_; have HB := n2_; clear n0_ n1_ n2_; (try clear hb); (try clear hkp); (try clear ho0)))
        go_roundg k1
        case measure => have := HK1.out; omega
        case rel => exact ⟨(t239), (wrap64 (x6_1 + 1)), (by first | rfl | (simp; done) | (simp [*]; done)), H', ⟨by have := HK1.out; omega⟩, ⟨by (with_reducible repeat (first | apply Kd.R_alloc | apply Kd.R_drewN | apply Kd.R_drew)); exact HO241.out⟩, ⟨by (with_reducible repeat (first | apply Kd.R_alloc | apply Kd.R_drewN | apply Kd.R_drew)); exact HO_4.out⟩, ⟨by repeat (first | (with_reducible first | exact HB.out | apply below_alloc | apply pw_below_drewN | apply below_drew1) | exact HB.out)⟩⟩
      · rw [if_neg c4] at H
        have c4b0 : decide (x6_1 < (y235.length : Int)) = false := decide_eq_false c4
        clear c4
        obtain rfl := Option.some.inj H
        go_wp2
        go_ret
        exact ⟨_, by first | rfl | (simp [errW_none, errW_some] <;> rfl) | (simp [*, errW_none, errW_some] <;> rfl), by (with_reducible repeat (first | apply Kd.R_alloc | apply Kd.R_drewN | apply Kd.R_drew)); exact Kd.R_mono HO_1.out (fun _ hk => trivial), by repeat (first | (with_reducible first | exact HB.out | apply below_alloc | apply pw_below_drewN | apply below_drew1) | exact HB.out)⟩

/-! ### bits_Invert: function 47 -/
def bits_Invert.l0 : Nat → List Int → List Int → Int → Int → Option (List Int × Bool)
  | 0, _, _, _, _ => none
  | k + 1, x0, x4, x12, x13 => if x13 < x12 then (if 0 ≤ x13 then (if x13 < (x0.length : Int) then (if (rd x0 x13) < 1 then (some (([] : List Int), false)) else (if (rd x0 x13) > (x0.length : Int) then (some (([] : List Int), false)) else (if 0 ≤ (wrap64 ((rd x0 x13) - 1)) then (if (wrap64 ((rd x0 x13) - 1)) < (x4.length : Int) then (if (rd x4 (wrap64 ((rd x0 x13) - 1))) > 0 then (some (([] : List Int), false)) else (bits_Invert.l0 k x0 (x4.set ((wrap64 ((rd x0 x13) - 1)) : Int).toNat (wrap64 (x13 + 1))) x12 (wrap64 (x13 + 1)))) else (none)) else (none)))) else (none)) else (none)) else (if 0 ≤ (x4.length : Int) then (if ((x4.length : Int) : Int).toNat ≤ 35184372088832 then ((some (List.replicate ((x4.length : Int) : Int).toNat 0 : List Int)).bind fun y248 => (some ((x4.take (min x4.length y248.length) ++ y248.drop (min x4.length y248.length)), true))) else (none)) else (none))
def bits_Invert.f (k : Nat) (l0 : List Int) : Option (List Int × Bool) := if 0 ≤ (l0.length : Int) then (if ((l0.length : Int) : Int).toNat ≤ 35184372088832 then (bits_Invert.l0 k l0 (List.replicate ((l0.length : Int) : Int).toNat 0) (l0.length : Int) 0) else (none)) else (none)
theorem bits_Invert.mono_l : ∀ k, (∀ y0 y1 y2 y3, LeO (bits_Invert.l0 k y0 y1 y2 y3) (bits_Invert.l0 (k + 1) y0 y1 y2 y3))
  | 0 => fun _ _ _ _ r h => by simp [bits_Invert.l0] at h
  | k + 1 => by
    have ih0 := bits_Invert.mono_l k
    · intro y0 y1 y2 y3
      unfold bits_Invert.l0
      repeat' first
      | (with_reducible exact ih0 _ _ _ _)
      | (with_reducible exact LeO.refl _)
      | (with_reducible exact LeO.none _)
      | (with_reducible refine LeO.ite ?_ ?_)
      | (with_reducible refine LeO.bind ?_ (fun _ => ?_))
      | exact ih0 _ _ _ _
      | exact LeO.none _
      | refine LeO.ite ?_ ?_
      | refine LeO.bind ?_ (fun _ => ?_)
theorem bits_Invert.mono : ∀ a0 k, LeO (bits_Invert.f k a0) (bits_Invert.f (k + 1) a0) := by
  intro a0 k
  have ih0 := bits_Invert.mono_l k
  unfold bits_Invert.f
  repeat' first
      | (with_reducible exact ih0 _ _ _ _)
      | (with_reducible exact LeO.refl _)
      | (with_reducible exact LeO.none _)
      | (with_reducible refine LeO.ite ?_ ?_)
      | (with_reducible refine LeO.bind ?_ (fun _ => ?_))
      | exact ih0 _ _ _ _
      | exact LeO.none _
      | refine LeO.ite ?_ ?_
      | refine LeO.bind ?_ (fun _ => ?_)
set_option maxHeartbeats 8000000 in
set_option maxRecDepth 100000 in
theorem bits_Invert.calls (k : Nat) (A0 : Option Addr) (c0 : Nat) (l0 : List Int) (r1 : List Int) (r2 : Bool) (w : World) (hr0 : Kd.C (Kd.int .i64) w A0 l0.length l0) (hc0 : l0.length ≤ c0) (h : bits_Invert.f k l0 = some (r1, r2)) :
    Calls Try.prog 47 #[.slice A0 l0.length c0] w fun e w' => ∃ v0_ : Value, e = .returned (.tuple #[v0_, .bool r2]) ∧ Kd.R (Kd.int .i64) 3 w' w.heap.size (fun _ => True) v0_ r1 ∧ Below w.heap.size w w' := by
  have HR0 := Aside0.mk hr0
  have HC0 := Aside0.mk hc0
  clear hr0 hc0
  have HB := Aside0.mk (Below.refl w.heap.size w)
  have H : (if 0 ≤ (l0.length : Int) then (if ((l0.length : Int) : Int).toNat ≤ 35184372088832 then (bits_Invert.l0 k l0 (List.replicate ((l0.length : Int) : Int).toNat 0) (l0.length : Int) 0) else (none)) else (none)) = some (r1, r2) := h
  clear h
  by_cases c2 : 0 ≤ (l0.length : Int)
  · rw [if_pos c2] at H
    have c2b0 := eq_true c2
    have c2b1 : decide (0 ≤ (l0.length : Int)) = true := decide_eq_true c2
    clear c2
    by_cases c3 : ((l0.length : Int) : Int).toNat ≤ 35184372088832
    rotate_left
    · rw [if_neg c3] at H
      exact absurd H (by simp)
    rw [if_pos c3] at H
    have c3b0 := eq_true c3
    have c3b1 : decide (((l0.length : Int) : Int).toNat ≤ 35184372088832) = true := decide_eq_true c3
    clear c3
    obtain ⟨y242, hy242⟩ : ∃ y_ : List Int, y_ = (List.replicate ((l0.length : Int) : Int).toNat 0) := ⟨_, rfl⟩
    replace H : (bits_Invert.l0 k l0 y242 (l0.length : Int) 0) = some (r1, r2) := by first | (rw [hy242]; with_reducible exact H) | (have H2_ := (Option.bind_some _ _).symm.trans H; rw [hy242]; with_reducible exact H2_) | (have H2_ := (Option.bind_some _ _).symm.trans H; with_reducible exact H2_) | with_reducible exact H | (rw [hy242]; exact H) | exact H
    have Ny242 := Aside0.mk hy242
    clear hy242
    have H' := Aside0.mk H
    clear H
    go_enter Try.func47, Try.ntmps47
    go_wp2_with (first | ((with_reducible refine gate_dst (N := 10) rfl ?_); (try (refine gate_guard (by rfl) ?_; dsimp only)); refine Kd.R_make (Kd.int .i64) _ 3 rfl (N := 10) rfl 46 _ _ rfl (l0.length : Int) rfl rfl Try.underlying46 (.int .i64 0) 8 info3 rfl (by decide) (by omega) 0 (ok := fun _ => True) (okp := fun _ => True) rfl (fun _ hk => hk) trivial (of_decide_eq_true (by first | (with_reducible assumption) | assumption)) (Nat.le_trans (Nat.mul_le_mul_right _ (of_decide_eq_true (by first | (with_reducible assumption) | assumption) : (l0.length : Int).toNat ≤ 35184372088832)) (by omega)) (Below.refl _ _) (Nat.le_refl _) ?_; intro v243 w4 ho5 hb hg_ hnew_; clear hg_ hnew_; (first | rw [← Ny242.out] at ho5 | (simp only [Int.reduceToNat] at ho5; rw [← Ny242.out] at ho5)); have n0_ := Aside0.mk (Kd.R_lower ho5 (below_size HB.out)); have n1_ := Aside0.mk (below_step HB.out hb); clear HB; have HO244 := n0_; have HB := n1_; clear n0_ n1_; clear hb ho5))
    go_loopg [13] k (fun kq v13 w' => ∃ (x4_1 : List Int) (x13_1 : Int), v13 = .int .i64 x13_1 ∧ Aside0 (bits_Invert.l0 kq l0 x4_1 (l0.length : Int) x13_1 = some (r1, r2)) ∧ Aside0 (kq ≤ k) ∧ Aside0 (Kd.R (Kd.int .i64) 3 w' w.heap.size (fun _ => True) v243 x4_1) ∧ Aside0 (Below w.heap.size w w'))
    case atStart => exact ⟨(y242), (0), (by first | rfl | (simp; done) | (simp [*]; done)), H', ⟨Nat.le_refl _⟩, ⟨by (with_reducible repeat (first | apply Kd.R_alloc | apply Kd.R_drewN | apply Kd.R_drew)); exact HO244.out⟩, ⟨by repeat (first | (with_reducible first | exact HB.out | apply below_alloc | apply pw_below_drewN | apply below_drew1) | exact HB.out)⟩⟩
    case round =>
      clear H'
      try clear c2
      try clear c2b0
      try clear c2b1
      try clear p2
      try clear c3
      try clear c3b0
      try clear c3b1
      try clear c4
      obtain ⟨x4_1, x13_1, rfl, HA, HK1, HO_4, HB⟩ := hrel
      cases gk with
      | zero => exact absurd HA.out (by simp [bits_Invert.l0])
      | succ k1 =>
        have H := HA.out
        clear HA
        simp only [bits_Invert.l0] at H
        by_cases c6 : x13_1 < (l0.length : Int)
        · rw [if_pos c6] at H
          have c6b0 : decide (x13_1 < (l0.length : Int)) = true := decide_eq_true c6
          clear c6
          by_cases c7 : 0 ≤ x13_1
          rotate_left
          · rw [if_neg c7] at H
            exact absurd H (by simp)
          rw [if_pos c7] at H
          have c7b0 : decide (0 ≤ x13_1) = true := decide_eq_true c7
          clear c7
          by_cases c8 : x13_1 < (l0.length : Int)
          rotate_left
          · rw [if_neg c8] at H
            exact absurd H (by simp)
          rw [if_pos c8] at H
          have c8b0 : decide (x13_1 < (l0.length : Int)) = true := decide_eq_true c8
          clear c8
          by_cases c9 : (rd l0 x13_1) < 1
          · rw [if_pos c9] at H
            have c9b0 : decide ((rd l0 x13_1) < 1) = true := decide_eq_true c9
            clear c9
            simp only [Option.some.injEq, Prod.mk.injEq] at H
            obtain ⟨rfl, rfl⟩ := H
            have p245 : 0 ≤ (x13_1 : Int) := of_decide_eq_true (by first | (with_reducible assumption) | assumption)
            have q245 : x13_1 < (l0.length : Int) := of_decide_eq_true (by first | (with_reducible assumption) | assumption)
            obtain ⟨ad245, e245, hx245_0⟩ := Kd.at_int HR0.out x13_1 p245 q245
            cases e245
            replace hx245_0 := (HB.out.cell (World.block_lt_of_cell? w _ hx245_0)).trans hx245_0
            replace p245 := eq_true p245
            replace q245 := eq_true q245
            go_wp2
            go_ret2
            exact ⟨_, by first | rfl | (simp [errW_none, errW_some] <;> rfl) | (simp [*, errW_none, errW_some] <;> rfl), by first | exact Kd.R_nil _ _ _ _ _ | exact Kd.N_nil _ _ _ _ _ | exact Kd.V_nil _ _ _ _ _ | exact Kd.Q_nil _ _ _ _ _ | exact Kd.S_nil _ _ _ _ _, by repeat (first | (with_reducible first | exact HB.out | apply below_alloc | apply pw_below_drewN | apply below_drew1) | exact HB.out)⟩
          · rw [if_neg c9] at H
            have c9b0 : decide ((rd l0 x13_1) < 1) = false := decide_eq_false c9
            clear c9
            by_cases c10 : (rd l0 x13_1) > (l0.length : Int)
            · rw [if_pos c10] at H
              have c10b0 : decide ((l0.length : Int) < (rd l0 x13_1)) = true := decide_eq_true c10
              clear c10
              simp only [Option.some.injEq, Prod.mk.injEq] at H
              obtain ⟨rfl, rfl⟩ := H
              have p245 : 0 ≤ (x13_1 : Int) := of_decide_eq_true (by first | (with_reducible assumption) | assumption)
              have q245 : x13_1 < (l0.length : Int) := of_decide_eq_true (by first | (with_reducible assumption) | assumption)
              obtain ⟨ad245, e245, hx245_0⟩ := Kd.at_int HR0.out x13_1 p245 q245
              cases e245
              replace hx245_0 := (HB.out.cell (World.block_lt_of_cell? w _ hx245_0)).trans hx245_0
              replace p245 := eq_true p245
              replace q245 := eq_true q245
              go_wp2
              go_ret2
              exact ⟨_, by first | rfl | (simp [errW_none, errW_some] <;> rfl) | (simp [*, errW_none, errW_some] <;> rfl), by first | exact Kd.R_nil _ _ _ _ _ | exact Kd.N_nil _ _ _ _ _ | exact Kd.V_nil _ _ _ _ _ | exact Kd.Q_nil _ _ _ _ _ | exact Kd.S_nil _ _ _ _ _, by repeat (first | (with_reducible first | exact HB.out | apply below_alloc | apply pw_below_drewN | apply below_drew1) | exact HB.out)⟩
            · rw [if_neg c10] at H
              have c10b0 : decide ((l0.length : Int) < (rd l0 x13_1)) = false := decide_eq_false c10
              clear c10
              obtain ⟨ji11, hji11⟩ : ∃ j_ : Int, (wrap64 ((rd l0 x13_1) - 1)) = j_ := ⟨_, rfl⟩
              replace H : (if 0 ≤ (ji11) then (if (ji11) < (x4_1.length : Int) then (if (rd x4_1 (ji11)) > 0 then (some (([] : List Int), false)) else (bits_Invert.l0 k1 l0 (x4_1.set ((ji11) : Int).toNat (wrap64 (x13_1 + 1))) (l0.length : Int) (wrap64 (x13_1 + 1)))) else (none)) else (none)) = some (r1, r2) := by first | (rw [hji11] at H; exact H) | (simp only [hji11] at H ⊢; exact H)
              have hji11w : (IntKind.i64.wrap ((rd l0 x13_1) - 1)) = ji11 := (i64_w _).trans hji11
              by_cases c12 : 0 ≤ (ji11)
              rotate_left
              · rw [if_neg c12] at H
                exact absurd H (by simp)
              rw [if_pos c12] at H
              have c12b0 : decide (0 ≤ (ji11)) = true := decide_eq_true c12
              clear c12
              by_cases c13 : (ji11) < (x4_1.length : Int)
              rotate_left
              · rw [if_neg c13] at H
                exact absurd H (by simp)
              rw [if_pos c13] at H
              have c13b0 : decide ((ji11) < (x4_1.length : Int)) = true := decide_eq_true c13
              clear c13
              by_cases c14 : (rd x4_1 (ji11)) > 0
              · rw [if_pos c14] at H
                have c14b0 : decide (0 < (rd x4_1 (ji11))) = true := decide_eq_true c14
                clear c14
                simp only [Option.some.injEq, Prod.mk.injEq] at H
                obtain ⟨rfl, rfl⟩ := H
                have p245 : 0 ≤ (x13_1 : Int) := of_decide_eq_true (by first | (with_reducible assumption) | assumption)
                have q245 : x13_1 < (l0.length : Int) := of_decide_eq_true (by first | (with_reducible assumption) | assumption)
                obtain ⟨ad245, e245, hx245_0⟩ := Kd.at_int HR0.out x13_1 p245 q245
                cases e245
                replace hx245_0 := (HB.out.cell (World.block_lt_of_cell? w _ hx245_0)).trans hx245_0
                replace p245 := eq_true p245
                replace q245 := eq_true q245
                obtain ⟨Ao15, co15, eo15⟩ := Kd.R_slice HO_4.out
                subst eo15
                have p246 : 0 ≤ ((ji11) : Int) := of_decide_eq_true (by first | (with_reducible assumption) | assumption)
                have q246 : (ji11) < (x4_1.length : Int) := of_decide_eq_true (by first | (with_reducible assumption) | assumption)
                obtain ⟨ad246, e246, hx246_0⟩ := Kd.at_int (Kd.R_reads' HO_4.out).2.2 (ji11) p246 q246
                cases e246
                replace p246 := eq_true p246
                replace q246 := eq_true q246
                go_wp2
                go_ret2
                exact ⟨_, by first | rfl | (simp [errW_none, errW_some] <;> rfl) | (simp only [← hji11]; first | rfl | (simp [errW_none, errW_some] <;> rfl)) | (simp [*, errW_none, errW_some] <;> rfl), by first | exact Kd.R_nil _ _ _ _ _ | exact Kd.N_nil _ _ _ _ _ | exact Kd.V_nil _ _ _ _ _ | exact Kd.Q_nil _ _ _ _ _ | exact Kd.S_nil _ _ _ _ _, by repeat (first | (with_reducible first | exact HB.out | apply below_alloc | apply pw_below_drewN | apply below_drew1) | exact HB.out)⟩
              · rw [if_neg c14] at H
                have c14b0 : decide (0 < (rd x4_1 (ji11))) = false := decide_eq_false c14
                clear c14
                obtain ⟨y247, hy247⟩ : ∃ y_ : List Int, y_ = (x4_1.set ((ji11) : Int).toNat (wrap64 (x13_1 + 1))) := ⟨_, rfl⟩
                replace H : (bits_Invert.l0 k1 l0 y247 (l0.length : Int) (wrap64 (x13_1 + 1))) = some (r1, r2) := by first | (rw [hy247]; with_reducible exact H) | (have H2_ := (Option.bind_some _ _).symm.trans H; rw [hy247]; with_reducible exact H2_) | (have H2_ := (Option.bind_some _ _).symm.trans H; with_reducible exact H2_) | with_reducible exact H | (rw [hy247]; exact H) | exact H
                have Ny247 := Aside0.mk hy247
                clear hy247
                have H' := Aside0.mk H
                clear H
                have p245 : 0 ≤ (x13_1 : Int) := of_decide_eq_true (by first | (with_reducible assumption) | assumption)
                have q245 : x13_1 < (l0.length : Int) := of_decide_eq_true (by first | (with_reducible assumption) | assumption)
                obtain ⟨ad245, e245, hx245_0⟩ := Kd.at_int HR0.out x13_1 p245 q245
                cases e245
                replace hx245_0 := (HB.out.cell (World.block_lt_of_cell? w _ hx245_0)).trans hx245_0
                replace p245 := eq_true p245
                replace q245 := eq_true q245
                obtain ⟨Ao17, co17, eo17⟩ := Kd.R_slice HO_4.out
                subst eo17
                have p246 : 0 ≤ ((ji11) : Int) := of_decide_eq_true (by first | (with_reducible assumption) | assumption)
                have q246 : (ji11) < (x4_1.length : Int) := of_decide_eq_true (by first | (with_reducible assumption) | assumption)
                obtain ⟨ad246, e246, hx246_0⟩ := Kd.at_int (Kd.R_reads' HO_4.out).2.2 (ji11) p246 q246
                cases e246
                replace p246 := eq_true p246
                replace q246 := eq_true q246
                have p16 : 0 ≤ ((ji11) : Int) := of_decide_eq_true (by first | (with_reducible assumption) | assumption)
                have q16 : ((ji11) : Int) < ((x4_1.length : Int) : Int) := of_decide_eq_true (by first | (with_reducible assumption) | assumption)
                obtain ⟨go16, co16, eo16, gb16, gl16, cl16, HG16⟩ := Kd.R_form HO_4.out (by omega)
                (first | cases eo16 | (injection eo16 with ea_ en_ ec_; (first | subst ea_ | (injection ea_ with ea_; subst ea_)); subst ec_; clear en_))
                have GB16 := Aside0.mk gb16
                have GG16 := Aside0.mk HG16
                clear gb16 gl16 HG16
                (first | simp only [add_plain] at hx246_0 | skip)
                obtain ⟨hx16_0, hf16_0⟩ := Kd.R_celln 0 HO_4.out ((ji11) : Int) p16 q16
                replace p16 := eq_true p16
                replace q16 := eq_true q16
                have HP18 := Kd.R_putg HO_4.out ((ji11) : Int) (wrap64 (x13_1 + 1))
                go_wp2_with (first | ((with_reducible refine gate_store (t := 3) (p := 41) rfl ?_); refine store_event (t := 3) (p := 41) (v := ?vo_w19) (w1 := (wr.setCell ⟨go16, ((ji11) : Int).toNat, none⟩ (.int .i64 (wrap64 (x13_1 + 1))))) ?hg ?ho ?hn ?hr ?_; (case ho => rfl); (case hg => rfl); (case hn => rfl); (case hr => first | (go_simp; done) | (go_simp; rfl)); intro w19 hw; have hg : wr.grownBy w19 (some go16) := (by rw [hw]; exact HP18.2); have hp_ : Kd.R (Kd.int .i64) 3 w19 w.heap.size (fun _ => True) (.slice (some ⟨go16, 0, none⟩) x4_1.length co17) y247 := (by rw [hw, Ny247.out]; exact HP18.1); clear HP18; have n0_ := Aside0.mk (hp_); have n1_ := Aside0.mk ((by rw [hw]; exact below_set (HB.out) GB16.out : Below w.heap.size w w19)); clear HO_4; clear HB; have HO_4 := n0_; have HB := n1_; clear n0_ n1_; clear hg hw hp_))
                go_roundg k1
                case measure => have := HK1.out; omega
                case rel => exact ⟨(y247), (wrap64 (x13_1 + 1)), (by first | rfl | (simp; done) | (simp [*]; done)), H', ⟨by have := HK1.out; omega⟩, ⟨by (with_reducible repeat (first | apply Kd.R_alloc | apply Kd.R_drewN | apply Kd.R_drew)); exact HO_4.out⟩, ⟨by repeat (first | (with_reducible first | exact HB.out | apply below_alloc | apply pw_below_drewN | apply below_drew1) | exact HB.out)⟩⟩
        · rw [if_neg c6] at H
          have c6b0 : decide (x13_1 < (l0.length : Int)) = false := decide_eq_false c6
          clear c6
          by_cases c20 : 0 ≤ (x4_1.length : Int)
          rotate_left
          · rw [if_neg c20] at H
            exact absurd H (by simp)
          rw [if_pos c20] at H
          have c20b0 := eq_true c20
          have c20b1 : decide (0 ≤ (x4_1.length : Int)) = true := decide_eq_true c20
          clear c20
          by_cases c21 : ((x4_1.length : Int) : Int).toNat ≤ 35184372088832
          rotate_left
          · rw [if_neg c21] at H
            exact absurd H (by simp)
          rw [if_pos c21] at H
          have c21b0 := eq_true c21
          have c21b1 : decide (((x4_1.length : Int) : Int).toNat ≤ 35184372088832) = true := decide_eq_true c21
          clear c21
          obtain ⟨y248, hy248⟩ : ∃ y_ : List Int, y_ = (List.replicate ((x4_1.length : Int) : Int).toNat 0) := ⟨_, rfl⟩
          replace H : (some ((x4_1.take (min x4_1.length y248.length) ++ y248.drop (min x4_1.length y248.length)), true)) = some (r1, r2) := by first | (rw [hy248]; with_reducible exact H) | (have H2_ := (Option.bind_some _ _).symm.trans H; rw [hy248]; with_reducible exact H2_) | (have H2_ := (Option.bind_some _ _).symm.trans H; with_reducible exact H2_) | with_reducible exact H | (rw [hy248]; exact H) | exact H
          have Ny248 := Aside0.mk hy248
          clear hy248
          obtain ⟨y251, hy251⟩ : ∃ y_ : List Int, y_ = (x4_1.take (min x4_1.length y248.length) ++ y248.drop (min x4_1.length y248.length)) := ⟨_, rfl⟩
          replace H : (some (y251, true)) = some (r1, r2) := by first | (rw [hy251]; with_reducible exact H) | (have H2_ := (Option.bind_some _ _).symm.trans H; rw [hy251]; with_reducible exact H2_) | (have H2_ := (Option.bind_some _ _).symm.trans H; with_reducible exact H2_) | with_reducible exact H | (rw [hy251]; exact H) | exact H
          have Ny251 := Aside0.mk hy251
          clear hy251
          simp only [Option.some.injEq, Prod.mk.injEq] at H
          obtain ⟨rfl, rfl⟩ := H
          obtain ⟨Ao22, co22, eo22⟩ := Kd.R_slice HO_4.out
          subst eo22
          go_wp2_with (first | ((with_reducible refine gate_dst (N := 45) rfl ?_); (try (refine gate_guard (by rfl) ?_; dsimp only)); refine Kd.R_make (Kd.int .i64) _ 3 rfl (N := 45) rfl 46 _ _ rfl (x4_1.length : Int) rfl rfl Try.underlying46 (.int .i64 0) 8 info3 rfl (by decide) (by omega) 0 (ok := fun _ => True) (okp := fun _ => True) rfl (fun _ hk => hk) trivial (of_decide_eq_true (by first | (with_reducible assumption) | assumption)) (Nat.le_trans (Nat.mul_le_mul_right _ (of_decide_eq_true (by first | (with_reducible assumption) | assumption) : (x4_1.length : Int).toNat ≤ 35184372088832)) (by omega)) (Below.refl _ _) (Nat.le_refl _) ?_; intro v249 w23 ho24 hb hg_ hnew_; clear hg_ hnew_; (first | rw [← Ny248.out] at ho24 | (simp only [Int.reduceToNat] at ho24; rw [← Ny248.out] at ho24)); have n0_ := Aside0.mk (Kd.R_elder' HO_4.out (Kd.R_base ho24) hb); have n1_ := Aside0.mk (Kd.R_lower (Kd.R_new' ho24 (Kd.R_lt HO_4.out)) (below_size HB.out)); have n2_ := Aside0.mk (below_step HB.out hb); clear HO_4; clear HB; have HO_4 := n0_; have HO250 := n1_; have HB := n2_; clear n0_ n1_ n2_; clear hb ho24; have n_ := Aside0.mk (Kd.R_mono (ok' := (fun k_ => some k_ ≠ (.slice Ao22 x4_1.length co22 : Value).ownBlock)) HO250.out (fun k_ hk => hk.2)); clear HO250; have HO250 := n_; clear n_) | ((with_reducible refine gate_builtin (b := .copy) (xs := #[.tmp 46, .tmp 47]) rfl ?_); (try (refine gate_guard (by rfl) ?_; dsimp only)); refine Kd.R_copy 0 (w0 := w) w.heap.size rfl (.tmp 46) (.tmp 47) 46 46 3 rfl Try.underlying46 (by kernel_rfl) v249 y248 x4_1 _ _ _ _ rfl rfl HO250.out ?aR ?aB ?aS ?_; (case aR => repeat (first | exact (Kd.R_reads' HO_4.out).2.2 | (with_reducible refine Kd.C_alloc ?_ _) | (with_reducible refine Kd.C_drewN ?_ _) | (with_reducible refine Kd.C_drew ?_))); (case aB => exact HB.out); (case aS => exact (below_size HB.out)); intro w26 hp_ hb_ hg0_; have hg : w23.grownBy w26 (v249 : Value).ownBlock := hg0_; clear hg0_; rw [← Ny251.out] at hp_; have n0_ := Aside0.mk (Kd.R_after (v := v249) (v1 := v249) (ok := (fun _ => True)) HO_4.out hg (.inl rfl)); have n1_ := Aside0.mk (hp_); have n2_ := Aside0.mk (hb_); clear HO_4; clear HO250; clear HB; have HO_4 := n0_; have HO250 := n1_; have HB := n2_; clear n0_ n1_ n2_; clear hg hb_ hp_))
          go_ret2
          exact ⟨_, by first | rfl | (simp [errW_none, errW_some] <;> rfl) | (simp [*, errW_none, errW_some] <;> rfl), by (with_reducible repeat (first | apply Kd.R_alloc | apply Kd.R_drewN | apply Kd.R_drew)); exact Kd.R_mono HO250.out (fun _ hk => trivial), by repeat (first | (with_reducible first | exact HB.out | apply below_alloc | apply pw_below_drewN | apply below_drew1) | exact HB.out)⟩
  · rw [if_neg c2] at H
    exact absurd H (by simp)

-- NOT PRINTED: function 49 (slices_Grow_byte_byte)

/-! ### slices_Concat_byte_byte: function 48 -/
def rd_B (xs : List (List Int)) (i : Int) : (List Int) := xs.getD i.toNat ([] : List Int)
theorem at_B {w : World} {A : Option Addr} {n : Nat} {xs : List (List Int)} (h : Kd.C (Kd.slice 5 (Kd.int .u8)) w A n xs) (i : Int) (h0 : 0 ≤ i) (h1 : i < n) : ∃ ad A0 c0, A = some ad ∧ w.cell? (ad.add i.toNat) = some (.slice A0 (rd_B xs i).length c0) ∧ (rd_B xs i).length ≤ c0 ∧ (Kd.int .u8).C w A0 (rd_B xs i).length (rd_B xs i) := by
  obtain ⟨ad, c, e, _, hK, hc0⟩ := Kd.C_get h ([] : List Int) i h0 h1
  have hc : ∀ j u, c[j]? = some u → w.cell? (ad.add (i.toNat * 1 + j)) = some u := hc0
  obtain ⟨A0, c0, rfl, l0, g0⟩ := hK
  exact ⟨ad, A0, c0, e, by have hq := hc 0 _ rfl; rwa [Nat.mul_one, Nat.add_zero] at hq, l0, g0⟩

set_option maxHeartbeats 8000000 in
set_option maxRecDepth 100000 in
/-- slices.Grow on nothing: a row with no element. -/
theorem grow_nil (n : Int) (w : World) (h0 : 0 ≤ n) (h1 : n ≤ 1099511627776) :
    Calls Try.prog 49 #[.slice none 0 0, .int .i64 n] w fun e w' => ∃ v0_ : Value, e = .returned (v0_) ∧ Kd.R (Kd.int .u8) 5 w' w.heap.size (fun _ => True) v0_ [] ∧ Below w.heap.size w w' := by
  have HB := Aside0.mk (Below.refl w.heap.size w)
  by_cases hz : n = 0
  · subst hz
    go_enter Try.func49, Try.ntmps49
    go_wp2
    go_ret
    exact ⟨_, by first | rfl | simp, Kd.R_nil _ _ _ _ _, HB.out⟩
  · have hpos : 0 < n := by omega
    obtain ⟨m, rfl⟩ : ∃ m : Nat, n = m := ⟨n.toNat, by omega⟩
    have LM := Aside0.mk h1
    have hd1 : decide ((m : Int) < 0) = false := decide_eq_false (by omega)
    have hd2 : decide (0 < (m : Int)) = true := decide_eq_true hpos
    have hd3 : decide (0 < m) = true := decide_eq_true (by omega)
    have hcuts : (∀ W : World, (Instr.slice 22 (.slice none ([] : List Int).length 0) none (some (.int .i64 0)) none).run Try.prog W = .ok (.slice none (([] : List Int).take (0 : Int).toNat).length 0) W) ∧ (∀ (g cap : Nat), m ≤ cap → ∀ W : World, (Instr.slice 22 (.slice (some ⟨g, 0, none⟩) m cap) none (some (.int .i64 0)) none).run Try.prog W = .ok (.slice (some ⟨g, 0, none⟩) 0 cap) W) := by
      obtain ⟨i0, hi0, _, hsz, _⟩ := info_parts info5
      refine ⟨(print_take_of (P := Try.prog) (Value.int .u8) 0 22 5 .i64 Try.underlying22 hi0 hsz none 0 ([] : List Int) 0 (by omega) (by simp) (Nat.le_refl _)).1, ?_⟩
      intro g cap hc W
      obtain ⟨hcut, _, _⟩ := print_take_of (P := Try.prog) (Value.int .u8) 0 22 5 .i64 Try.underlying22 hi0 hsz (some ⟨g, 0, none⟩) cap (List.replicate m 0) 0 (by omega) (by simp) (by simpa using hc)
      have := hcut W
      simpa using this
    obtain ⟨hcut0, hcut1⟩ := hcuts
    have HCUT := Aside0.mk hcut1
    have HLEN := Aside0.mk (show ([] ++ List.replicate (m : Int).toNat (0 : Int)).length = m from by simp)
    have HPOS := Aside0.mk (show 0 < m from by omega)
    clear hcut1 hz h0
    go_enter Try.func49, Try.ntmps49
    go_wp2_with (((with_reducible refine gate_builtin (b := .append) (xs := #[.tmp 20, .tmp 21]) rfl ?_); at_builtin; refine Kd.R_append_zeros (Kd.int .u8) (w0 := w) w.heap.size rfl (.tmp 20) (.tmp 21) 22 3 5 (.int .u8 0) 1 rfl Try.underlying22 Try.underlying3 info5 rfl (by decide) (by omega) (.slice none 0 0) [] 0 (m : Int) (fun _ => True) rfl rfl rfl (fun _ _ => trivial) (Kd.R_nil _ _ _ _ _) (by omega) ?aB ?aS ?aL ?_; (case aB => exact HB.out); (case aS => exact (below_size HB.out)); (case aL => have := LM.out; have hz_ : ([] : List Int).length = 0 := rfl; rw [hz_, Int.toNat_natCast]; omega); intro v1 w1 ho hb hg hat; obtain ⟨g, cap, hv, _, _, _⟩ := Kd.R_form ho (by rw [HLEN.out]; exact HPOS.out); rw [HLEN.out] at hv; subst hv; have hcap := (Kd.R_reads' ho).2.1; have ho2 := Kd.R_take ho (m := 0) (Nat.zero_le _); have hc_ := HCUT.out g cap hcap; have n0_ := Aside0.mk (hb); have n1_ := Aside0.mk (ho2); clear HB; have HB := n0_; have HO1 := n1_; clear n0_ n1_; clear ho ho2 hb hg hat hcap))
    go_ret
    exact ⟨_, by first | rfl | simp, by (with_reducible repeat (first | apply Kd.R_alloc | apply Kd.R_drewN | apply Kd.R_drew)); exact HO1.out, by repeat (first | (with_reducible first | exact HB.out | apply below_alloc | apply pw_below_drewN | apply below_drew1) | exact HB.out)⟩
mutual
def slices_Concat_byte_byte.l0 : Nat → List (List Int) → Int → List (List Int) → Int → Int → Option (List Int)
  | 0, _, _, _, _, _ => none
  | k + 1, x0, x3, x9, x10, x11 => if x11 < x10 then (if 0 ≤ x11 then (if x11 < (x9.length : Int) then (if (wrap64 (x3 + ((rd_B x9 x11).length : Int))) < 0 then (none) else (slices_Concat_byte_byte.l0 k x0 (wrap64 (x3 + ((rd_B x9 x11).length : Int))) x9 x10 (wrap64 (x11 + 1)))) else (none)) else (none)) else (if 0 ≤ x3 ∧ x3 ≤ 1099511627776 then (slices_Concat_byte_byte.l1 k ([] : List Int) x0 (x0.length : Int) 0) else (none))
def slices_Concat_byte_byte.l1 : Nat → List Int → List (List Int) → Int → Int → Option (List Int)
  | 0, _, _, _, _ => none
  | k + 1, x6, x25, x26, x27 => if x27 < x26 then (if 0 ≤ x27 then (if x27 < (x25.length : Int) then (if x6.length + (rd_B x25 x27).length < 140737488355328 then (slices_Concat_byte_byte.l1 k (x6 ++ (rd_B x25 x27)) x25 x26 (wrap64 (x27 + 1))) else (none)) else (none)) else (none)) else (some x6)
end
def slices_Concat_byte_byte.f (k : Nat) (l0 : List (List Int)) : Option (List Int) := slices_Concat_byte_byte.l0 k l0 0 l0 (l0.length : Int) 0
theorem slices_Concat_byte_byte.mono_l : ∀ k, (∀ y0 y1 y2 y3 y4, LeO (slices_Concat_byte_byte.l0 k y0 y1 y2 y3 y4) (slices_Concat_byte_byte.l0 (k + 1) y0 y1 y2 y3 y4)) ∧ (∀ y0 y1 y2 y3, LeO (slices_Concat_byte_byte.l1 k y0 y1 y2 y3) (slices_Concat_byte_byte.l1 (k + 1) y0 y1 y2 y3))
  | 0 => ⟨fun _ _ _ _ _ r h => by simp [slices_Concat_byte_byte.l0] at h, fun _ _ _ _ r h => by simp [slices_Concat_byte_byte.l1] at h⟩
  | k + 1 => by
    obtain ⟨ih0, ih1⟩ := slices_Concat_byte_byte.mono_l k
    refine ⟨?_, ?_⟩
    · intro y0 y1 y2 y3 y4
      unfold slices_Concat_byte_byte.l0
      repeat' first
      | (with_reducible exact ih0 _ _ _ _ _)
      | (with_reducible exact ih1 _ _ _ _)
      | (with_reducible exact LeO.refl _)
      | (with_reducible exact LeO.none _)
      | (with_reducible refine LeO.ite ?_ ?_)
      | (with_reducible refine LeO.bind ?_ (fun _ => ?_))
      | exact ih0 _ _ _ _ _
      | exact ih1 _ _ _ _
      | exact LeO.none _
      | refine LeO.ite ?_ ?_
      | refine LeO.bind ?_ (fun _ => ?_)
    · intro y0 y1 y2 y3
      unfold slices_Concat_byte_byte.l1
      repeat' first
      | (with_reducible exact ih0 _ _ _ _ _)
      | (with_reducible exact ih1 _ _ _ _)
      | (with_reducible exact LeO.refl _)
      | (with_reducible exact LeO.none _)
      | (with_reducible refine LeO.ite ?_ ?_)
      | (with_reducible refine LeO.bind ?_ (fun _ => ?_))
      | exact ih0 _ _ _ _ _
      | exact ih1 _ _ _ _
      | exact LeO.none _
      | refine LeO.ite ?_ ?_
      | refine LeO.bind ?_ (fun _ => ?_)
theorem slices_Concat_byte_byte.mono : ∀ a0 k, LeO (slices_Concat_byte_byte.f k a0) (slices_Concat_byte_byte.f (k + 1) a0) := by
  intro a0 k
  obtain ⟨ih0, ih1⟩ := slices_Concat_byte_byte.mono_l k
  unfold slices_Concat_byte_byte.f
  repeat' first
      | (with_reducible exact ih0 _ _ _ _ _)
      | (with_reducible exact ih1 _ _ _ _)
      | (with_reducible exact LeO.refl _)
      | (with_reducible exact LeO.none _)
      | (with_reducible refine LeO.ite ?_ ?_)
      | (with_reducible refine LeO.bind ?_ (fun _ => ?_))
      | exact ih0 _ _ _ _ _
      | exact ih1 _ _ _ _
      | exact LeO.none _
      | refine LeO.ite ?_ ?_
      | refine LeO.bind ?_ (fun _ => ?_)
set_option maxHeartbeats 8000000 in
set_option maxRecDepth 100000 in
theorem slices_Concat_byte_byte.calls (k : Nat) (A0 : Option Addr) (c0 : Nat) (l0 : List (List Int)) (r : List Int) (w : World) (hr0 : Kd.C (Kd.slice 5 (Kd.int .u8)) w A0 l0.length l0) (hc0 : l0.length ≤ c0) (h : slices_Concat_byte_byte.f k l0 = some r) :
    Calls Try.prog 48 #[.slice A0 l0.length c0] w fun e w' => ∃ v0_ : Value, e = .returned (v0_) ∧ Kd.R (Kd.int .u8) 5 w' w.heap.size (fun _ => True) v0_ r ∧ Below w.heap.size w w' := by
  have HR0 := Aside0.mk hr0
  have HC0 := Aside0.mk hc0
  clear hr0 hc0
  have HB := Aside0.mk (Below.refl w.heap.size w)
  have H : (slices_Concat_byte_byte.l0 k l0 0 l0 (l0.length : Int) 0) = some r := h
  clear h
  have H' := Aside0.mk H
  clear H
  go_enter Try.func48, Try.ntmps48
  go_wp2
  go_loopg [3, 11] k (fun kq v3 v11 w' => ∃ (x3_1 : Int) (x11_1 : Int), v3 = .int .i64 x3_1 ∧ v11 = .int .i64 x11_1 ∧ Aside0 (slices_Concat_byte_byte.l0 kq l0 x3_1 l0 (l0.length : Int) x11_1 = some r) ∧ Aside0 (kq ≤ k) ∧ Aside0 (Below w.heap.size w w'))
  case atStart => exact ⟨(0), (0), (by first | rfl | (simp; done) | (simp [*]; done)), (by first | rfl | (simp; done) | (simp [*]; done)), H', ⟨Nat.le_refl _⟩, ⟨by repeat (first | (with_reducible first | exact HB.out | apply below_alloc | apply pw_below_drewN | apply below_drew1) | exact HB.out)⟩⟩
  case round =>
    clear H'
    try clear c1
    obtain ⟨x3_1, x11_1, rfl, rfl, HA, HK1, HB⟩ := hrel
    cases gk with
    | zero => exact absurd HA.out (by simp [slices_Concat_byte_byte.l0])
    | succ k1 =>
      have H := HA.out
      clear HA
      simp only [slices_Concat_byte_byte.l0] at H
      by_cases c2 : x11_1 < (l0.length : Int)
      · rw [if_pos c2] at H
        have c2b0 : decide (x11_1 < (l0.length : Int)) = true := decide_eq_true c2
        clear c2
        by_cases c3 : 0 ≤ x11_1
        rotate_left
        · rw [if_neg c3] at H
          exact absurd H (by simp)
        rw [if_pos c3] at H
        have c3b0 : decide (0 ≤ x11_1) = true := decide_eq_true c3
        clear c3
        by_cases c4 : x11_1 < (l0.length : Int)
        rotate_left
        · rw [if_neg c4] at H
          exact absurd H (by simp)
        rw [if_pos c4] at H
        have c4b0 : decide (x11_1 < (l0.length : Int)) = true := decide_eq_true c4
        clear c4
        by_cases c5 : (wrap64 (x3_1 + ((rd_B l0 x11_1).length : Int))) < 0
        · rw [if_pos c5] at H
          exact absurd H (by simp)
        rw [if_neg c5] at H
        have c5b0 : decide ((wrap64 (x3_1 + ((rd_B l0 x11_1).length : Int))) < 0) = false := decide_eq_false c5
        clear c5
        have H' := Aside0.mk H
        clear H
        have p101 : 0 ≤ (x11_1 : Int) := of_decide_eq_true (by first | (with_reducible assumption) | assumption)
        have q101 : x11_1 < (l0.length : Int) := of_decide_eq_true (by first | (with_reducible assumption) | assumption)
        obtain ⟨ad101, A101_0, c101_0, e101, hx101_0, hl101_0, hi101_0⟩ := at_B HR0.out x11_1 p101 q101
        cases e101
        replace hx101_0 := (HB.out.cell (World.block_lt_of_cell? w _ hx101_0)).trans hx101_0
        have HR101_0 := Aside0.mk hi101_0
        have HC101_0 := Aside0.mk hl101_0
        clear hi101_0 hl101_0
        replace p101 := eq_true p101
        replace q101 := eq_true q101
        go_wp2
        go_roundg k1
        case measure => have := HK1.out; omega
        case rel => exact ⟨(wrap64 (x3_1 + ((rd_B l0 x11_1).length : Int))), (wrap64 (x11_1 + 1)), (by first | rfl | (simp; done) | (simp [*]; done)), (by first | rfl | (simp; done) | (simp [*]; done)), H', ⟨by have := HK1.out; omega⟩, ⟨by repeat (first | (with_reducible first | exact HB.out | apply below_alloc | apply pw_below_drewN | apply below_drew1) | exact HB.out)⟩⟩
      · rw [if_neg c2] at H
        have c2b0 : decide (x11_1 < (l0.length : Int)) = false := decide_eq_false c2
        clear c2
        by_cases cg : 0 ≤ x3_1 ∧ x3_1 ≤ 1099511627776
        rotate_left
        · rw [if_neg cg] at H
          exact absurd H (by simp)
        rw [if_pos cg] at H
        have CG := Aside0.mk cg
        clear cg
        have H' := Aside0.mk H
        clear H
        go_wp2_with (((with_reducible refine gate_callee (f := 49) rfl ?_); refine goesL_ (some 24) rfl rfl Try.func49 (by kernel_rfl) rfl #[.slice none 0 0, .int .i64 x3_1] rfl (by (try simp only [List.map_toArray, List.map_cons, List.map_nil]); first | done | rfl) ?_; (with_reducible refine (grow_nil x3_1 _ CG.out.1 CG.out.2).mono ?_); rintro e w9 ⟨v9, rfl, hv9, hb⟩; refine ⟨_, rfl, ?_⟩; have n0_ := Aside0.mk (Kd.R_lower hv9 (below_size HB.out)); have n1_ := Aside0.mk (below_step HB.out hb); clear HB; have HB := n1_; have HOG := n0_; clear n0_ n1_; clear hv9 hb))
        go_loopg [6, 27] k1 (fun kq v6 v27 w' => ∃ (x6_2 : List Int) (x27_2 : Int), v27 = .int .i64 x27_2 ∧ Aside0 (slices_Concat_byte_byte.l1 kq x6_2 l0 (l0.length : Int) x27_2 = some r) ∧ Aside0 (kq ≤ k1) ∧ Aside0 (Kd.R (Kd.int .u8) 5 w' w.heap.size (fun _ => True) v6 x6_2) ∧ Aside0 (Below w.heap.size w w'))
        case atStart => exact ⟨(([] : List Int)), (0), (by first | rfl | (simp; done) | (simp [*]; done)), H', ⟨Nat.le_refl _⟩, ⟨by (with_reducible repeat (first | apply Kd.R_alloc | apply Kd.R_drewN | apply Kd.R_drew)); exact HOG.out⟩, ⟨by repeat (first | (with_reducible first | exact HB.out | apply below_alloc | apply pw_below_drewN | apply below_drew1) | exact HB.out)⟩⟩
        case round =>
          clear H'
          try clear c1
          try clear p1
          try clear q1
          try clear hx1
          try clear c2
          try clear c2b0
          try clear p2
          try clear c3
          try clear c3b0
          try clear c4
          try clear c4b0
          try clear c5
          try clear c5b0
          try clear hx101_0
          try clear p101
          try clear q101
          obtain ⟨x6_2, x27_2, rfl, HA, HK2, HO_6, HB⟩ := hrel
          cases gk with
          | zero => exact absurd HA.out (by simp [slices_Concat_byte_byte.l1])
          | succ k2 =>
            have H := HA.out
            clear HA
            simp only [slices_Concat_byte_byte.l1] at H
            by_cases c6 : x27_2 < (l0.length : Int)
            · rw [if_pos c6] at H
              have c6b0 : decide (x27_2 < (l0.length : Int)) = true := decide_eq_true c6
              clear c6
              by_cases c7 : 0 ≤ x27_2
              rotate_left
              · rw [if_neg c7] at H
                exact absurd H (by simp)
              rw [if_pos c7] at H
              have c7b0 : decide (0 ≤ x27_2) = true := decide_eq_true c7
              clear c7
              by_cases c8 : x27_2 < (l0.length : Int)
              rotate_left
              · rw [if_neg c8] at H
                exact absurd H (by simp)
              rw [if_pos c8] at H
              have c8b0 : decide (x27_2 < (l0.length : Int)) = true := decide_eq_true c8
              clear c8
              by_cases c9 : x6_2.length + (rd_B l0 x27_2).length < 140737488355328
              rotate_left
              · rw [if_neg c9] at H
                exact absurd H (by simp)
              rw [if_pos c9] at H
              have LMc9 := Aside0.mk c9
              clear c9
              obtain ⟨y103, hy103⟩ : ∃ y_ : List Int, y_ = (x6_2 ++ (rd_B l0 x27_2)) := ⟨_, rfl⟩
              replace H : (slices_Concat_byte_byte.l1 k2 y103 l0 (l0.length : Int) (wrap64 (x27_2 + 1))) = some r := by first | (rw [hy103]; with_reducible exact H) | (have H2_ := (Option.bind_some _ _).symm.trans H; rw [hy103]; with_reducible exact H2_) | (have H2_ := (Option.bind_some _ _).symm.trans H; with_reducible exact H2_) | with_reducible exact H | (rw [hy103]; exact H) | exact H
              have Ny103 := Aside0.mk hy103
              clear hy103
              have H' := Aside0.mk H
              clear H
              have p102 : 0 ≤ (x27_2 : Int) := of_decide_eq_true (by first | (with_reducible assumption) | assumption)
              have q102 : x27_2 < (l0.length : Int) := of_decide_eq_true (by first | (with_reducible assumption) | assumption)
              obtain ⟨ad102, A102_0, c102_0, e102, hx102_0, hl102_0, hi102_0⟩ := at_B HR0.out x27_2 p102 q102
              cases e102
              replace hx102_0 := (HB.out.cell (World.block_lt_of_cell? w _ hx102_0)).trans hx102_0
              have HR102_0 := Aside0.mk hi102_0
              have HC102_0 := Aside0.mk hl102_0
              clear hi102_0 hl102_0
              replace p102 := eq_true p102
              replace q102 := eq_true q102
              go_wp2_with (first | ((with_reducible refine gate_builtin (b := .append) (xs := #[.tmp 31, .tmp 32]) rfl ?_); at_builtin; refine Kd.R_append_rows (Kd.int .u8) (w0 := w) w.heap.size rfl (.tmp 31) (.tmp 32) 22 5 (.int .u8 0) 1 rfl Try.underlying22 info5 rfl (by decide) (by omega) u6 x6_2 (rd_B l0 x27_2) _ _ _ (fun _ => True) (fun _ => False) rfl rfl ?aO ?aR (fun _ _ h => h) (fun _ h => h.elim) ?aF ?aB ?aS ?aL ?_; (case aR => repeat (first | exact (Kd.C_below HR102_0.out HB.out) | (with_reducible refine Kd.C_alloc ?_ _) | (with_reducible refine Kd.C_drewN ?_ _) | (with_reducible refine Kd.C_drew ?_))); (case aB => exact HB.out); (case aF => exact (fun _ _ => trivial)); (case aO => exact HO_6.out); (case aS => exact (below_size HB.out)); (case aL => have := LMc9.out; omega); intro v104 w10 ho hb hg hat; rw [← Ny103.out] at ho; have n0_ := Aside0.mk (hb); have n1_ := Aside0.mk (ho); clear HB; clear HO_6; have HB := n0_; have HO105 := n1_; clear n0_ n1_; clear ho hb hg hat))
              go_roundg k2
              case measure => have := HK1.out; have := HK2.out; omega
              case rel => exact ⟨(y103), (wrap64 (x27_2 + 1)), (by first | rfl | (simp; done) | (simp [*]; done)), H', ⟨by have := HK1.out; have := HK2.out; omega⟩, ⟨by (with_reducible repeat (first | apply Kd.R_alloc | apply Kd.R_drewN | apply Kd.R_drew)); exact HO105.out⟩, ⟨by repeat (first | (with_reducible first | exact HB.out | apply below_alloc | apply pw_below_drewN | apply below_drew1) | exact HB.out)⟩⟩
            · rw [if_neg c6] at H
              have c6b0 : decide (x27_2 < (l0.length : Int)) = false := decide_eq_false c6
              clear c6
              obtain rfl := Option.some.inj H
              go_wp2
              go_ret
              exact ⟨_, by first | rfl | (simp [errW_none, errW_some] <;> rfl) | (simp [*, errW_none, errW_some] <;> rfl), by (with_reducible repeat (first | apply Kd.R_alloc | apply Kd.R_drewN | apply Kd.R_drew)); exact HO_6.out, by repeat (first | (with_reducible first | exact HB.out | apply below_alloc | apply pw_below_drewN | apply below_drew1) | exact HB.out)⟩

/-! ### des_once: function 42 -/
def des_once.l0 : Nat → List (List Int) → List Int → List Int → List Int → Int → Option (List Int)
  | 0, _, _, _, _, _ => none
  | k + 1, x1, x5, x6, x7, x8 => if x8 < (x1.length : Int) then (if 0 ≤ x8 then ((des_F.f k x7 (rd_L2 x1 x8)).bind fun bt270 => ((words_Xor.f k x6 bt270.1).bind fun bt274 => (des_once.l0 k x1 x5 x7 bt274.1 (wrap64 (x8 + 1))))) else (none)) else ((bits_Invert.f k x5).bind fun bt278 => ((slices_Concat_byte_byte.f k (([x7, x6] : List (List Int)))).bind fun t285 => ((bits_Permute.f k t285 bt278.1).bind fun bt288 => (some bt288.1))))
def des_once.f (k : Nat) (l0 : List Int) (l1 : List (List Int)) : Option (List Int) := (des_first.f k).bind fun t252 => ((bits_Permute.f k l0 t252).bind fun bt255 => (if 4 ≤ (bt255.1.length : Int) then (des_once.l0 k l1 t252 (bt255.1.take 4) (bt255.1.drop 4) 0) else (none)))
theorem des_once.mono_l : ∀ k, (∀ y0 y1 y2 y3 y4, LeO (des_once.l0 k y0 y1 y2 y3 y4) (des_once.l0 (k + 1) y0 y1 y2 y3 y4))
  | 0 => fun _ _ _ _ _ r h => by simp [des_once.l0] at h
  | k + 1 => by
    have ih0 := des_once.mono_l k
    · intro y0 y1 y2 y3 y4
      unfold des_once.l0
      repeat' first
      | (with_reducible exact ih0 _ _ _ _ _)
      | (with_reducible exact bits_Invert.mono _ _)
      | (with_reducible exact bits_Permute.mono _ _ _)
      | (with_reducible exact des_F.mono _ _ _)
      | (with_reducible exact des_first.mono _)
      | (with_reducible exact slices_Concat_byte_byte.mono _ _)
      | (with_reducible exact words_Xor.mono _ _ _)
      | (with_reducible exact LeO.refl _)
      | (with_reducible exact LeO.none _)
      | (with_reducible refine LeO.ite ?_ ?_)
      | (with_reducible refine LeO.bind ?_ (fun _ => ?_))
      | exact ih0 _ _ _ _ _
      | exact bits_Invert.mono _ _
      | exact bits_Permute.mono _ _ _
      | exact des_F.mono _ _ _
      | exact des_first.mono _
      | exact slices_Concat_byte_byte.mono _ _
      | exact words_Xor.mono _ _ _
      | exact LeO.none _
      | refine LeO.ite ?_ ?_
      | refine LeO.bind ?_ (fun _ => ?_)
theorem des_once.mono : ∀ a0 a1 k, LeO (des_once.f k a0 a1) (des_once.f (k + 1) a0 a1) := by
  intro a0 a1 k
  have ih0 := des_once.mono_l k
  unfold des_once.f
  repeat' first
      | (with_reducible exact ih0 _ _ _ _ _)
      | (with_reducible exact bits_Invert.mono _ _)
      | (with_reducible exact bits_Permute.mono _ _ _)
      | (with_reducible exact des_F.mono _ _ _)
      | (with_reducible exact des_first.mono _)
      | (with_reducible exact slices_Concat_byte_byte.mono _ _)
      | (with_reducible exact words_Xor.mono _ _ _)
      | (with_reducible exact LeO.refl _)
      | (with_reducible exact LeO.none _)
      | (with_reducible refine LeO.ite ?_ ?_)
      | (with_reducible refine LeO.bind ?_ (fun _ => ?_))
      | exact ih0 _ _ _ _ _
      | exact bits_Invert.mono _ _
      | exact bits_Permute.mono _ _ _
      | exact des_F.mono _ _ _
      | exact des_first.mono _
      | exact slices_Concat_byte_byte.mono _ _
      | exact words_Xor.mono _ _ _
      | exact LeO.none _
      | refine LeO.ite ?_ ?_
      | refine LeO.bind ?_ (fun _ => ?_)
set_option maxHeartbeats 8000000 in
set_option maxRecDepth 100000 in
theorem des_once.calls (k : Nat) (A0 : Option Addr) (c0 : Nat) (l0 : List Int) (A1 : Option Addr) (c1 : Nat) (l1 : List (List Int)) (r : List Int) (w : World) (hr0 : Kd.C (Kd.int .u8) w A0 l0.length l0) (hc0 : l0.length ≤ c0) (hr1 : Kd.C (Kd.slice 5 (Kd.int .u8)) w A1 l1.length l1) (hc1 : l1.length ≤ c1) (h : des_once.f k l0 l1 = some r) :
    Calls Try.prog 42 #[.slice A0 l0.length c0, .slice A1 l1.length c1] w fun e w' => ∃ v0_ : Value, e = .returned (v0_) ∧ Kd.V (Kd.int .u8) 5 w' w.heap.size (fun k_ => (w.heap.size ≤ k_)) v0_ r ∧ Below w.heap.size w w' := by
  have HR0 := Aside0.mk hr0
  have HC0 := Aside0.mk hc0
  clear hr0 hc0
  have HR1 := Aside0.mk hr1
  have HC1 := Aside0.mk hc1
  clear hr1 hc1
  have HB := Aside0.mk (Below.refl w.heap.size w)
  have H : ((des_first.f k).bind fun t252 => ((bits_Permute.f k l0 t252).bind fun bt255 => (if 4 ≤ (bt255.1.length : Int) then (des_once.l0 k l1 t252 (bt255.1.take 4) (bt255.1.drop 4) 0) else (none)))) = some r := h
  clear h
  replace H := Option.bind_eq_some_iff.mp H
  obtain ⟨t252, A30, H⟩ := H
  replace H : ((bits_Permute.f k l0 t252).bind fun bt255 => (if 4 ≤ (bt255.1.length : Int) then (des_once.l0 k l1 t252 (bt255.1.take 4) (bt255.1.drop 4) 0) else (none))) = some r := H
  have A3 := Aside0.mk A30
  clear A30
  replace H := Option.bind_eq_some_iff.mp H
  obtain ⟨⟨t255, t256⟩, A40, H⟩ := H
  replace H : (if 4 ≤ (t255.length : Int) then (des_once.l0 k l1 t252 (t255.take 4) (t255.drop 4) 0) else (none)) = some r := H
  have A4 := Aside0.mk A40
  clear A40
  by_cases c5 : 4 ≤ (t255.length : Int)
  · rw [if_pos c5] at H
    have c5b0 := eq_true c5
    have c5b1 : decide (4 ≤ (t255.length : Int)) = true := decide_eq_true c5
    clear c5
    obtain ⟨y259, hy259⟩ : ∃ y_ : List Int, y_ = (t255.take 4) := ⟨_, rfl⟩
    replace H : (des_once.l0 k l1 t252 y259 (t255.drop 4) 0) = some r := by first | (rw [hy259]; with_reducible exact H) | (have H2_ := (Option.bind_some _ _).symm.trans H; rw [hy259]; with_reducible exact H2_) | (have H2_ := (Option.bind_some _ _).symm.trans H; with_reducible exact H2_) | with_reducible exact H | (rw [hy259]; exact H) | exact H
    have Ny259 := Aside0.mk hy259
    clear hy259
    have c6b0 := eq_true (of_decide_eq_true (by first | (with_reducible assumption) | assumption) : 4 ≤ (t255.length : Int))
    obtain ⟨y264, hy264⟩ : ∃ y_ : List Int, y_ = (t255.drop 4) := ⟨_, rfl⟩
    replace H : (des_once.l0 k l1 t252 y259 y264 0) = some r := by first | (rw [hy264]; with_reducible exact H) | (have H2_ := (Option.bind_some _ _).symm.trans H; rw [hy264]; with_reducible exact H2_) | (have H2_ := (Option.bind_some _ _).symm.trans H; with_reducible exact H2_) | with_reducible exact H | (rw [hy264]; exact H) | exact H
    have Ny264 := Aside0.mk hy264
    clear hy264
    have H' := Aside0.mk H
    clear H
    go_enter Try.func42, Try.ntmps42
    go_wp2
    refine Go.Proofs.Ytnbopkmhakfmmaa.Late.scope_late 0 rfl ?_
    intro JA hJA
    go_wp2_with (first | (go_at_call 46; (with_reducible refine (des_first.calls k  t252 _ A3.out).mono ?_); rintro e w7 ⟨v253, rfl, ho0, hb⟩; have n0_ := Aside0.mk (Kd.R_lower (Kd.R_newM (M := fun k_ => (w.heap.size ≤ k_)) ho0 (below_size HB.out) (fun k_ h_ => h_)) (below_size HB.out)); have n1_ := Aside0.mk (below_step HB.out hb); clear HB; have HO254 := n0_; have HB := n1_; clear n0_ n1_; (try clear hb); (try clear hb2); (try clear hk); (try clear hi); (try clear ho0); obtain ⟨Ao8, co8, eo8⟩ := Kd.R_slice HO254.out; subst eo8) | (go_at_call 26; (with_reducible refine (bits_Permute.calls k _ _ l0 _ _ t252 t255 t256 _ ?side1 ?side2 ?side3 ?side4 A4.out).mono ?_); (case side1 => repeat (first | exact (Kd.C_below HR0.out HB.out) | (with_reducible refine Kd.C_alloc ?_ _) | (with_reducible refine Kd.C_drewN ?_ _) | (with_reducible refine Kd.C_drew ?_))); (case side2 => exact HC0.out); (case side3 => repeat (first | exact (Kd.R_reads' HO254.out).2.2 | (with_reducible refine Kd.C_alloc ?_ _) | (with_reducible refine Kd.C_drewN ?_ _) | (with_reducible refine Kd.C_drew ?_))); (case side4 => exact (Kd.R_reads' HO254.out).2.1); rintro e w9 ⟨v257, rfl, ho0, hb⟩; have n0_ := Aside0.mk (Kd.R_below HO254.out hb); have n1_ := Aside0.mk (Kd.V_lower (Kd.V_mono (ok' := fun k_ => (w.heap.size ≤ k_) ∧ some k_ ≠ (.slice Ao8 t252.length co8 : Value).ownBlock) (Kd.R_V (Kd.R_bound ho0)) (fun k_ hk_ => ⟨(Nat.le_trans (below_size HB.out) hk_.2.1), (Kd.fresh' (Kd.R_lt HO254.out) k_ hk_.2.1)⟩)) (below_size HB.out)); have n2_ := Aside0.mk (below_step HB.out hb); clear HO254; clear HB; have HO254 := n0_; have HO258 := n1_; have HB := n2_; clear n0_ n1_ n2_; (try clear hb); (try clear hb2); (try clear hk); (try clear hi); (try clear ho0); obtain ⟨Ao11, co11, eo11⟩ := Kd.V_slice HO258.out; subst eo11; have q10 : (4 : Int) ≤ ((t255.length : Int) : Int) := of_decide_eq_true (by first | (with_reducible assumption) | assumption); obtain ⟨i010, hi010, _, hsz10, _⟩ := info_parts info5; have hroom10 : t255.length ≤ co11 := (Kd.V_reads' HO258.out).2.1; have hC10 : Kd.F (Kd.int .u8) _ _ Ao11 t255.length t255 := (Kd.V_at (base := w.heap.size) HO258.out).2.2; have hcut10 := cut_to (P := Try.prog) 22 5 .i64 Try.underlying22 hi010 Ao11 t255.length co11 4 (by omega) q10 hroom10; have hr10 := Kd.F_take (m := 4) hC10 (by omega); have hy10 : y259.length = (4 : Int).toNat := (by rw [Ny259.out, List.length_take]; omega); rw [← Ny259.out] at hr10; rw [← hy10] at hcut10; have HO263 := Aside0.mk (show Kd.V (Kd.int .u8) 5 _ w.heap.size _ (.slice Ao11 y259.length co11) y259 from Kd.V_mk (by omega) hr10); have HC263 := Aside0.mk (show y259.length ≤ co11 from by omega); clear hr10 hC10 hroom10 hi010 hsz10; have KY10 := Aside0.mk hy10; clear hy10; replace q10 := eq_true q10; have q12 : (4 : Int) ≤ ((t255.length : Int) : Int) := of_decide_eq_true (by first | (with_reducible assumption) | assumption); obtain ⟨i012, hi012, _, hsz12, _⟩ := info_parts info5; have hroom12 : t255.length ≤ co11 := (Kd.V_reads' HO258.out).2.1; have hC12 : Kd.F (Kd.int .u8) _ _ Ao11 t255.length t255 := (Kd.V_at (base := w.heap.size) HO258.out).2.2; have hcut12 := cut_from (P := Try.prog) 22 5 .i64 Try.underlying22 hi012 1 hsz12 Ao11 t255.length co11 4 (by omega) q12; have hr12 := Kd.F_cut (m := (4 : Int).toNat) (c := co11) hC12 (by omega) hroom12; obtain ⟨A12, hA12⟩ : ∃ A1, A1 = (if co11 = (4 : Int).toNat then Ao11 else (Ao11 : Option Addr).map (·.add ((4 : Int).toNat * 1))) := ⟨_, rfl⟩; obtain ⟨c12, hc12⟩ : ∃ c1, c1 = co11 - (4 : Int).toNat := ⟨_, rfl⟩; have hy12 : y264.length = t255.length - (4 : Int).toNat := (by rw [Ny264.out, List.length_drop] <;> omega); rw [show (t255).drop (4 : Int).toNat = y264 from Ny264.out.symm] at hr12; replace hr12 : Kd.F (Kd.int .u8) _ _ A12 y264.length y264 := (by rw [hA12]; exact hr12); rw [← hy12, ← hA12, ← hc12] at hcut12; have HO268 := Aside0.mk (show Kd.V (Kd.int .u8) 5 _ w.heap.size _ (.slice A12 y264.length c12) y264 from Kd.V_mk (by rw [hy12, hc12]; exact Nat.sub_le_sub_right hroom12 _) hr12); have HC268 := Aside0.mk (show y264.length ≤ c12 from by rw [hy12, hc12]; exact Nat.sub_le_sub_right hroom12 _); have KC12 := Aside0.mk hc12; clear hr12 hC12 hroom12 hi012 hsz12 hc12; have KY12 := Aside0.mk hy12; have KA12 := Aside0.mk hA12; clear hy12 hA12; replace q12 := eq_true q12))
    repeat (go_quiet (first | (go_at_call 46; (with_reducible refine (des_first.calls k  t252 _ A3.out).mono ?_); rintro e w7 ⟨v253, rfl, ho0, hb⟩; have n0_ := Aside0.mk (Kd.R_lower (Kd.R_newM (M := fun k_ => (w.heap.size ≤ k_)) ho0 (below_size HB.out) (fun k_ h_ => h_)) (below_size HB.out)); have n1_ := Aside0.mk (below_step HB.out hb); clear HB; have HO254 := n0_; have HB := n1_; clear n0_ n1_; (try clear hb); (try clear hb2); (try clear hk); (try clear hi); (try clear ho0); obtain ⟨Ao8, co8, eo8⟩ := Kd.R_slice HO254.out; subst eo8) | (go_at_call 26; (with_reducible refine (bits_Permute.calls k _ _ l0 _ _ t252 t255 t256 _ ?side1 ?side2 ?side3 ?side4 A4.out).mono ?_); (case side1 => repeat (first | exact (Kd.C_below HR0.out HB.out) | (with_reducible refine Kd.C_alloc ?_ _) | (with_reducible refine Kd.C_drewN ?_ _) | (with_reducible refine Kd.C_drew ?_))); (case side2 => exact HC0.out); (case side3 => repeat (first | exact (Kd.R_reads' HO254.out).2.2 | (with_reducible refine Kd.C_alloc ?_ _) | (with_reducible refine Kd.C_drewN ?_ _) | (with_reducible refine Kd.C_drew ?_))); (case side4 => exact (Kd.R_reads' HO254.out).2.1); rintro e w9 ⟨v257, rfl, ho0, hb⟩; have n0_ := Aside0.mk (Kd.R_below HO254.out hb); have n1_ := Aside0.mk (Kd.V_lower (Kd.V_mono (ok' := fun k_ => (w.heap.size ≤ k_) ∧ some k_ ≠ (.slice Ao8 t252.length co8 : Value).ownBlock) (Kd.R_V (Kd.R_bound ho0)) (fun k_ hk_ => ⟨(Nat.le_trans (below_size HB.out) hk_.2.1), (Kd.fresh' (Kd.R_lt HO254.out) k_ hk_.2.1)⟩)) (below_size HB.out)); have n2_ := Aside0.mk (below_step HB.out hb); clear HO254; clear HB; have HO254 := n0_; have HO258 := n1_; have HB := n2_; clear n0_ n1_ n2_; (try clear hb); (try clear hb2); (try clear hk); (try clear hi); (try clear ho0); obtain ⟨Ao11, co11, eo11⟩ := Kd.V_slice HO258.out; subst eo11; have q10 : (4 : Int) ≤ ((t255.length : Int) : Int) := of_decide_eq_true (by first | (with_reducible assumption) | assumption); obtain ⟨i010, hi010, _, hsz10, _⟩ := info_parts info5; have hroom10 : t255.length ≤ co11 := (Kd.V_reads' HO258.out).2.1; have hC10 : Kd.F (Kd.int .u8) _ _ Ao11 t255.length t255 := (Kd.V_at (base := w.heap.size) HO258.out).2.2; have hcut10 := cut_to (P := Try.prog) 22 5 .i64 Try.underlying22 hi010 Ao11 t255.length co11 4 (by omega) q10 hroom10; have hr10 := Kd.F_take (m := 4) hC10 (by omega); have hy10 : y259.length = (4 : Int).toNat := (by rw [Ny259.out, List.length_take]; omega); rw [← Ny259.out] at hr10; rw [← hy10] at hcut10; have HO263 := Aside0.mk (show Kd.V (Kd.int .u8) 5 _ w.heap.size _ (.slice Ao11 y259.length co11) y259 from Kd.V_mk (by omega) hr10); have HC263 := Aside0.mk (show y259.length ≤ co11 from by omega); clear hr10 hC10 hroom10 hi010 hsz10; have KY10 := Aside0.mk hy10; clear hy10; replace q10 := eq_true q10; have q12 : (4 : Int) ≤ ((t255.length : Int) : Int) := of_decide_eq_true (by first | (with_reducible assumption) | assumption); obtain ⟨i012, hi012, _, hsz12, _⟩ := info_parts info5; have hroom12 : t255.length ≤ co11 := (Kd.V_reads' HO258.out).2.1; have hC12 : Kd.F (Kd.int .u8) _ _ Ao11 t255.length t255 := (Kd.V_at (base := w.heap.size) HO258.out).2.2; have hcut12 := cut_from (P := Try.prog) 22 5 .i64 Try.underlying22 hi012 1 hsz12 Ao11 t255.length co11 4 (by omega) q12; have hr12 := Kd.F_cut (m := (4 : Int).toNat) (c := co11) hC12 (by omega) hroom12; obtain ⟨A12, hA12⟩ : ∃ A1, A1 = (if co11 = (4 : Int).toNat then Ao11 else (Ao11 : Option Addr).map (·.add ((4 : Int).toNat * 1))) := ⟨_, rfl⟩; obtain ⟨c12, hc12⟩ : ∃ c1, c1 = co11 - (4 : Int).toNat := ⟨_, rfl⟩; have hy12 : y264.length = t255.length - (4 : Int).toNat := (by rw [Ny264.out, List.length_drop] <;> omega); rw [show (t255).drop (4 : Int).toNat = y264 from Ny264.out.symm] at hr12; replace hr12 : Kd.F (Kd.int .u8) _ _ A12 y264.length y264 := (by rw [hA12]; exact hr12); rw [← hy12, ← hA12, ← hc12] at hcut12; have HO268 := Aside0.mk (show Kd.V (Kd.int .u8) 5 _ w.heap.size _ (.slice A12 y264.length c12) y264 from Kd.V_mk (by rw [hy12, hc12]; exact Nat.sub_le_sub_right hroom12 _) hr12); have HC268 := Aside0.mk (show y264.length ≤ c12 from by rw [hy12, hc12]; exact Nat.sub_le_sub_right hroom12 _); have KC12 := Aside0.mk hc12; clear hr12 hC12 hroom12 hi012 hsz12 hc12; have KY12 := Aside0.mk hy12; have KA12 := Aside0.mk hA12; clear hy12 hA12; replace q12 := eq_true q12)); try go_wp2_with (first | (go_at_call 46; (with_reducible refine (des_first.calls k  t252 _ A3.out).mono ?_); rintro e w7 ⟨v253, rfl, ho0, hb⟩; have n0_ := Aside0.mk (Kd.R_lower (Kd.R_newM (M := fun k_ => (w.heap.size ≤ k_)) ho0 (below_size HB.out) (fun k_ h_ => h_)) (below_size HB.out)); have n1_ := Aside0.mk (below_step HB.out hb); clear HB; have HO254 := n0_; have HB := n1_; clear n0_ n1_; (try clear hb); (try clear hb2); (try clear hk); (try clear hi); (try clear ho0); obtain ⟨Ao8, co8, eo8⟩ := Kd.R_slice HO254.out; subst eo8) | (go_at_call 26; (with_reducible refine (bits_Permute.calls k _ _ l0 _ _ t252 t255 t256 _ ?side1 ?side2 ?side3 ?side4 A4.out).mono ?_); (case side1 => repeat (first | exact (Kd.C_below HR0.out HB.out) | (with_reducible refine Kd.C_alloc ?_ _) | (with_reducible refine Kd.C_drewN ?_ _) | (with_reducible refine Kd.C_drew ?_))); (case side2 => exact HC0.out); (case side3 => repeat (first | exact (Kd.R_reads' HO254.out).2.2 | (with_reducible refine Kd.C_alloc ?_ _) | (with_reducible refine Kd.C_drewN ?_ _) | (with_reducible refine Kd.C_drew ?_))); (case side4 => exact (Kd.R_reads' HO254.out).2.1); rintro e w9 ⟨v257, rfl, ho0, hb⟩; have n0_ := Aside0.mk (Kd.R_below HO254.out hb); have n1_ := Aside0.mk (Kd.V_lower (Kd.V_mono (ok' := fun k_ => (w.heap.size ≤ k_) ∧ some k_ ≠ (.slice Ao8 t252.length co8 : Value).ownBlock) (Kd.R_V (Kd.R_bound ho0)) (fun k_ hk_ => ⟨(Nat.le_trans (below_size HB.out) hk_.2.1), (Kd.fresh' (Kd.R_lt HO254.out) k_ hk_.2.1)⟩)) (below_size HB.out)); have n2_ := Aside0.mk (below_step HB.out hb); clear HO254; clear HB; have HO254 := n0_; have HO258 := n1_; have HB := n2_; clear n0_ n1_ n2_; (try clear hb); (try clear hb2); (try clear hk); (try clear hi); (try clear ho0); obtain ⟨Ao11, co11, eo11⟩ := Kd.V_slice HO258.out; subst eo11; have q10 : (4 : Int) ≤ ((t255.length : Int) : Int) := of_decide_eq_true (by first | (with_reducible assumption) | assumption); obtain ⟨i010, hi010, _, hsz10, _⟩ := info_parts info5; have hroom10 : t255.length ≤ co11 := (Kd.V_reads' HO258.out).2.1; have hC10 : Kd.F (Kd.int .u8) _ _ Ao11 t255.length t255 := (Kd.V_at (base := w.heap.size) HO258.out).2.2; have hcut10 := cut_to (P := Try.prog) 22 5 .i64 Try.underlying22 hi010 Ao11 t255.length co11 4 (by omega) q10 hroom10; have hr10 := Kd.F_take (m := 4) hC10 (by omega); have hy10 : y259.length = (4 : Int).toNat := (by rw [Ny259.out, List.length_take]; omega); rw [← Ny259.out] at hr10; rw [← hy10] at hcut10; have HO263 := Aside0.mk (show Kd.V (Kd.int .u8) 5 _ w.heap.size _ (.slice Ao11 y259.length co11) y259 from Kd.V_mk (by omega) hr10); have HC263 := Aside0.mk (show y259.length ≤ co11 from by omega); clear hr10 hC10 hroom10 hi010 hsz10; have KY10 := Aside0.mk hy10; clear hy10; replace q10 := eq_true q10; have q12 : (4 : Int) ≤ ((t255.length : Int) : Int) := of_decide_eq_true (by first | (with_reducible assumption) | assumption); obtain ⟨i012, hi012, _, hsz12, _⟩ := info_parts info5; have hroom12 : t255.length ≤ co11 := (Kd.V_reads' HO258.out).2.1; have hC12 : Kd.F (Kd.int .u8) _ _ Ao11 t255.length t255 := (Kd.V_at (base := w.heap.size) HO258.out).2.2; have hcut12 := cut_from (P := Try.prog) 22 5 .i64 Try.underlying22 hi012 1 hsz12 Ao11 t255.length co11 4 (by omega) q12; have hr12 := Kd.F_cut (m := (4 : Int).toNat) (c := co11) hC12 (by omega) hroom12; obtain ⟨A12, hA12⟩ : ∃ A1, A1 = (if co11 = (4 : Int).toNat then Ao11 else (Ao11 : Option Addr).map (·.add ((4 : Int).toNat * 1))) := ⟨_, rfl⟩; obtain ⟨c12, hc12⟩ : ∃ c1, c1 = co11 - (4 : Int).toNat := ⟨_, rfl⟩; have hy12 : y264.length = t255.length - (4 : Int).toNat := (by rw [Ny264.out, List.length_drop] <;> omega); rw [show (t255).drop (4 : Int).toNat = y264 from Ny264.out.symm] at hr12; replace hr12 : Kd.F (Kd.int .u8) _ _ A12 y264.length y264 := (by rw [hA12]; exact hr12); rw [← hy12, ← hA12, ← hc12] at hcut12; have HO268 := Aside0.mk (show Kd.V (Kd.int .u8) 5 _ w.heap.size _ (.slice A12 y264.length c12) y264 from Kd.V_mk (by rw [hy12, hc12]; exact Nat.sub_le_sub_right hroom12 _) hr12); have HC268 := Aside0.mk (show y264.length ≤ c12 from by rw [hy12, hc12]; exact Nat.sub_le_sub_right hroom12 _); have KC12 := Aside0.mk hc12; clear hr12 hC12 hroom12 hi012 hsz12 hc12; have KY12 := Aside0.mk hy12; have KA12 := Aside0.mk hA12; clear hy12 hA12; replace q12 := eq_true q12)))
    go_step3
    (try simp only [Exit.then])
    go_step
    refine hJA [0, 4, 6, 7, 8, 9, 10, 11, 12, 24, 25, 26, 27, 28, 29, 30, 31, 32, 33, 34, 35, 36, 37, 38, 39, 40, 41, 42, 43, 44, 45, 46, 47, 48, 49, 50, 51, 52, 53, 54, 55, 56, 57, 58, 59, 60, 61] (fun kq g_ w' =>  ∃ (x6_1 : List Int) (x7_1 : List Int) (x8_1 : Int), (g_ 8) = .int .i64 x8_1 ∧ Aside0 (des_once.l0 kq l1 t252 x6_1 x7_1 x8_1 = some r) ∧ Aside0 (kq ≤ k) ∧ Aside0 (Kd.R (Kd.int .i64) 3 w' w.heap.size (fun k_ => (w.heap.size ≤ k_)) (.slice Ao8 t252.length co8) t252) ∧ Aside0 (Kd.V (Kd.int .u8) 5 w' w.heap.size (fun k_ => (w.heap.size ≤ k_) ∧ some k_ ≠ ((.slice Ao8 t252.length co8) : Value).ownBlock) (g_ 6) x6_1) ∧ Aside0 (Kd.V (Kd.int .u8) 5 w' w.heap.size (fun k_ => (w.heap.size ≤ k_) ∧ some k_ ≠ ((.slice Ao8 t252.length co8) : Value).ownBlock) (g_ 7) x7_1) ∧ Aside0 (Below w.heap.size w w')) k _ _ ?_ ?_
    · exact ⟨(y259), (y264), (0), (by first | rfl | (simp; done) | (simp [*]; done)), H', ⟨Nat.le_refl _⟩, ⟨by (with_reducible repeat (first | apply Kd.R_alloc | apply Kd.R_drewN | apply Kd.R_drew)); exact Kd.R_mono HO254.out (fun _ hk => hk.1)⟩, ⟨by (with_reducible repeat (first | apply Kd.V_alloc | apply Kd.V_drewN | apply Kd.V_drew)); exact HO263.out⟩, ⟨by (with_reducible repeat (first | apply Kd.V_alloc | apply Kd.V_drewN | apply Kd.V_drew)); exact HO268.out⟩, ⟨by repeat (first | (with_reducible first | exact HB.out | apply below_alloc | apply pw_below_drewN | apply below_drew1) | exact HB.out)⟩⟩
    · intro gk g_ wr hrel JB0 hJB0
      clear H'
      try clear c1
      try clear q1
      try clear p2
      try clear p3
      try clear c4
      try clear c5
      try clear c5b0
      try clear c5b1
      try clear c6
      try clear c6b0
      try clear q10
      try clear c12
      try clear q12
      try clear q10
      try clear q12
      simp only [Go.Proofs.Ytnbopkmhakfmmaa.Late.lay, Go.Proofs.Ytnbopkmhakfmmaa.Late.layT, List.setIfInBounds_toArray, List.set_cons_zero, List.set_cons_succ]
      obtain ⟨v6, hv6_⟩ : ∃ z, z = g_ 6 := ⟨_, rfl⟩
      rw [← hv6_] at hrel ⊢
      clear hv6_
      obtain ⟨v7, hv7_⟩ : ∃ z, z = g_ 7 := ⟨_, rfl⟩
      rw [← hv7_] at hrel ⊢
      clear hv7_
      obtain ⟨v8, hv8_⟩ : ∃ z, z = g_ 8 := ⟨_, rfl⟩
      rw [← hv8_] at hrel ⊢
      clear hv8_
      obtain ⟨x6_1, x7_1, x8_1, rfl, HA, HK1, HO_5, HO_6, HO_7, HB⟩ := hrel
      cases gk with
      | zero => exact absurd HA.out (by simp [des_once.l0])
      | succ k1 =>
        have H := HA.out
        clear HA
        simp only [des_once.l0] at H
        by_cases c13 : x8_1 < (l1.length : Int)
        · rw [if_pos c13] at H
          have c13b0 : decide (x8_1 < (l1.length : Int)) = true := decide_eq_true c13
          clear c13
          by_cases c14 : 0 ≤ x8_1
          rotate_left
          · rw [if_neg c14] at H
            exact absurd H (by simp)
          rw [if_pos c14] at H
          have c14b0 : decide (0 ≤ x8_1) = true := decide_eq_true c14
          clear c14
          replace H := Option.bind_eq_some_iff.mp H
          obtain ⟨⟨t270, t271⟩, A150, H⟩ := H
          replace H : ((words_Xor.f k1 x6_1 t270).bind fun bt274 => (des_once.l0 k1 l1 t252 x7_1 bt274.1 (wrap64 (x8_1 + 1)))) = some r := H
          have A15 := Aside0.mk A150
          clear A150
          replace H := Option.bind_eq_some_iff.mp H
          obtain ⟨⟨t274, t275⟩, A160, H⟩ := H
          replace H : (des_once.l0 k1 l1 t252 x7_1 t274 (wrap64 (x8_1 + 1))) = some r := H
          have A16 := Aside0.mk A160
          clear A160
          have H' := Aside0.mk H
          clear H
          have p269 : 0 ≤ (x8_1 : Int) := of_decide_eq_true (by first | (with_reducible assumption) | assumption)
          have q269 : x8_1 < (l1.length : Int) := of_decide_eq_true (by first | (with_reducible assumption) | assumption)
          obtain ⟨ad269, A269_0, c269_0, e269, hx269_0, hl269_0, hi269_0⟩ := at_L2 HR1.out x8_1 p269 q269
          cases e269
          replace hx269_0 := (HB.out.cell (World.block_lt_of_cell? w _ hx269_0)).trans hx269_0
          have HR269_0 := Aside0.mk hi269_0
          have HC269_0 := Aside0.mk hl269_0
          clear hi269_0 hl269_0
          replace p269 := eq_true p269
          replace q269 := eq_true q269
          obtain ⟨Ao17, co17, eo17⟩ := Kd.V_slice HO_7.out
          subst eo17
          go_wp2_with (first | (go_at_call 15; (with_reducible refine (des_F.calls k1 _ _ x7_1 _ _ (rd_L2 l1 x8_1) t270 t271 _ ?side1 ?side2 ?side3 ?side4 A15.out).mono ?_); (case side1 => repeat (first | exact (Kd.V_reads' HO_7.out).2.2 | (with_reducible refine Kd.C_alloc ?_ _) | (with_reducible refine Kd.C_drewN ?_ _) | (with_reducible refine Kd.C_drew ?_))); (case side2 => exact (Kd.V_reads' HO_7.out).2.1); (case side3 => repeat (first | exact (Kd.C_below HR269_0.out HB.out) | (with_reducible refine Kd.C_alloc ?_ _) | (with_reducible refine Kd.C_drewN ?_ _) | (with_reducible refine Kd.C_drew ?_))); (case side4 => exact HC269_0.out); rintro e w18 ⟨v272, rfl, ho0, hb⟩; have n0_ := Aside0.mk (Kd.R_below HO_5.out hb); have n1_ := Aside0.mk (Kd.V_elder' HO_6.out (Kd.R_base ho0) hb); have n2_ := Aside0.mk (Kd.V_elder' HO_7.out (Kd.R_base ho0) hb); have n3_ := Aside0.mk (Kd.R_lower (Kd.R_newM (M := fun k_ => (w.heap.size ≤ k_)) ho0 (below_size HB.out) (fun k_ h_ => h_)) (below_size HB.out)); have n4_ := Aside0.mk (below_step HB.out hb); clear HO_5; clear HO_6; clear HO_7; clear HB; have HO_5 := n0_; have HO_6 := n1_; have HO_7 := n2_; have HO273 := n3_; have HB := n4_; clear n0_ n1_ n2_ n3_ n4_; (try clear hb); (try clear hb2); (try clear hk); (try clear hi); (try clear ho0); obtain ⟨Ao19, co19, eo19⟩ := Kd.V_slice HO_6.out; subst eo19; obtain ⟨Ao20, co20, eo20⟩ := Kd.R_slice HO273.out; subst eo20) | (go_at_call 30; (with_reducible refine (words_Xor.calls k1 _ _ x6_1 _ _ t270 t274 t275 _ ?side1 ?side2 ?side3 ?side4 A16.out).mono ?_); (case side1 => repeat (first | exact (Kd.V_reads' HO_6.out).2.2 | (with_reducible refine Kd.C_alloc ?_ _) | (with_reducible refine Kd.C_drewN ?_ _) | (with_reducible refine Kd.C_drew ?_))); (case side2 => exact (Kd.V_reads' HO_6.out).2.1); (case side3 => repeat (first | exact (Kd.R_reads' HO273.out).2.2 | (with_reducible refine Kd.C_alloc ?_ _) | (with_reducible refine Kd.C_drewN ?_ _) | (with_reducible refine Kd.C_drew ?_))); (case side4 => exact (Kd.R_reads' HO273.out).2.1); rintro e w21 ⟨v276, rfl, ho0, hb⟩; have n0_ := Aside0.mk (Kd.R_below HO_5.out hb); have n1_ := Aside0.mk (Kd.V_elder' HO_6.out (Kd.R_base ho0) hb); have n2_ := Aside0.mk (Kd.V_elder' HO_7.out (Kd.R_base ho0) hb); have n3_ := Aside0.mk (Kd.R_elder' HO273.out (Kd.R_base ho0) hb); have n4_ := Aside0.mk (Kd.R_lower (Kd.R_new' (Kd.R_newM (M := fun k_ => (w.heap.size ≤ k_)) ho0 (below_size HB.out) (fun k_ h_ => h_)) (Kd.R_lt HO273.out)) (below_size HB.out)); have n5_ := Aside0.mk (below_step HB.out hb); clear HO_5; clear HO_6; clear HO_7; clear HO273; clear HB; have HO_5 := n0_; have HO_6 := n1_; have HO_7 := n2_; have HO273 := n3_; have HO277 := n4_; have HB := n5_; clear n0_ n1_ n2_ n3_ n4_ n5_; (try clear hb); (try clear hb2); (try clear hk); (try clear hi); (try clear ho0)))
          repeat (go_quiet (first | (go_at_call 15; (with_reducible refine (des_F.calls k1 _ _ x7_1 _ _ (rd_L2 l1 x8_1) t270 t271 _ ?side1 ?side2 ?side3 ?side4 A15.out).mono ?_); (case side1 => repeat (first | exact (Kd.V_reads' HO_7.out).2.2 | (with_reducible refine Kd.C_alloc ?_ _) | (with_reducible refine Kd.C_drewN ?_ _) | (with_reducible refine Kd.C_drew ?_))); (case side2 => exact (Kd.V_reads' HO_7.out).2.1); (case side3 => repeat (first | exact (Kd.C_below HR269_0.out HB.out) | (with_reducible refine Kd.C_alloc ?_ _) | (with_reducible refine Kd.C_drewN ?_ _) | (with_reducible refine Kd.C_drew ?_))); (case side4 => exact HC269_0.out); rintro e w18 ⟨v272, rfl, ho0, hb⟩; have n0_ := Aside0.mk (Kd.R_below HO_5.out hb); have n1_ := Aside0.mk (Kd.V_elder' HO_6.out (Kd.R_base ho0) hb); have n2_ := Aside0.mk (Kd.V_elder' HO_7.out (Kd.R_base ho0) hb); have n3_ := Aside0.mk (Kd.R_lower (Kd.R_newM (M := fun k_ => (w.heap.size ≤ k_)) ho0 (below_size HB.out) (fun k_ h_ => h_)) (below_size HB.out)); have n4_ := Aside0.mk (below_step HB.out hb); clear HO_5; clear HO_6; clear HO_7; clear HB; have HO_5 := n0_; have HO_6 := n1_; have HO_7 := n2_; have HO273 := n3_; have HB := n4_; clear n0_ n1_ n2_ n3_ n4_; (try clear hb); (try clear hb2); (try clear hk); (try clear hi); (try clear ho0); obtain ⟨Ao19, co19, eo19⟩ := Kd.V_slice HO_6.out; subst eo19; obtain ⟨Ao20, co20, eo20⟩ := Kd.R_slice HO273.out; subst eo20) | (go_at_call 30; (with_reducible refine (words_Xor.calls k1 _ _ x6_1 _ _ t270 t274 t275 _ ?side1 ?side2 ?side3 ?side4 A16.out).mono ?_); (case side1 => repeat (first | exact (Kd.V_reads' HO_6.out).2.2 | (with_reducible refine Kd.C_alloc ?_ _) | (with_reducible refine Kd.C_drewN ?_ _) | (with_reducible refine Kd.C_drew ?_))); (case side2 => exact (Kd.V_reads' HO_6.out).2.1); (case side3 => repeat (first | exact (Kd.R_reads' HO273.out).2.2 | (with_reducible refine Kd.C_alloc ?_ _) | (with_reducible refine Kd.C_drewN ?_ _) | (with_reducible refine Kd.C_drew ?_))); (case side4 => exact (Kd.R_reads' HO273.out).2.1); rintro e w21 ⟨v276, rfl, ho0, hb⟩; have n0_ := Aside0.mk (Kd.R_below HO_5.out hb); have n1_ := Aside0.mk (Kd.V_elder' HO_6.out (Kd.R_base ho0) hb); have n2_ := Aside0.mk (Kd.V_elder' HO_7.out (Kd.R_base ho0) hb); have n3_ := Aside0.mk (Kd.R_elder' HO273.out (Kd.R_base ho0) hb); have n4_ := Aside0.mk (Kd.R_lower (Kd.R_new' (Kd.R_newM (M := fun k_ => (w.heap.size ≤ k_)) ho0 (below_size HB.out) (fun k_ h_ => h_)) (Kd.R_lt HO273.out)) (below_size HB.out)); have n5_ := Aside0.mk (below_step HB.out hb); clear HO_5; clear HO_6; clear HO_7; clear HO273; clear HB; have HO_5 := n0_; have HO_6 := n1_; have HO_7 := n2_; have HO273 := n3_; have HO277 := n4_; have HB := n5_; clear n0_ n1_ n2_ n3_ n4_ n5_; (try clear hb); (try clear hb2); (try clear hk); (try clear hi); (try clear ho0))); try go_wp2_with (first | (go_at_call 15; (with_reducible refine (des_F.calls k1 _ _ x7_1 _ _ (rd_L2 l1 x8_1) t270 t271 _ ?side1 ?side2 ?side3 ?side4 A15.out).mono ?_); (case side1 => repeat (first | exact (Kd.V_reads' HO_7.out).2.2 | (with_reducible refine Kd.C_alloc ?_ _) | (with_reducible refine Kd.C_drewN ?_ _) | (with_reducible refine Kd.C_drew ?_))); (case side2 => exact (Kd.V_reads' HO_7.out).2.1); (case side3 => repeat (first | exact (Kd.C_below HR269_0.out HB.out) | (with_reducible refine Kd.C_alloc ?_ _) | (with_reducible refine Kd.C_drewN ?_ _) | (with_reducible refine Kd.C_drew ?_))); (case side4 => exact HC269_0.out); rintro e w18 ⟨v272, rfl, ho0, hb⟩; have n0_ := Aside0.mk (Kd.R_below HO_5.out hb); have n1_ := Aside0.mk (Kd.V_elder' HO_6.out (Kd.R_base ho0) hb); have n2_ := Aside0.mk (Kd.V_elder' HO_7.out (Kd.R_base ho0) hb); have n3_ := Aside0.mk (Kd.R_lower (Kd.R_newM (M := fun k_ => (w.heap.size ≤ k_)) ho0 (below_size HB.out) (fun k_ h_ => h_)) (below_size HB.out)); have n4_ := Aside0.mk (below_step HB.out hb); clear HO_5; clear HO_6; clear HO_7; clear HB; have HO_5 := n0_; have HO_6 := n1_; have HO_7 := n2_; have HO273 := n3_; have HB := n4_; clear n0_ n1_ n2_ n3_ n4_; (try clear hb); (try clear hb2); (try clear hk); (try clear hi); (try clear ho0); obtain ⟨Ao19, co19, eo19⟩ := Kd.V_slice HO_6.out; subst eo19; obtain ⟨Ao20, co20, eo20⟩ := Kd.R_slice HO273.out; subst eo20) | (go_at_call 30; (with_reducible refine (words_Xor.calls k1 _ _ x6_1 _ _ t270 t274 t275 _ ?side1 ?side2 ?side3 ?side4 A16.out).mono ?_); (case side1 => repeat (first | exact (Kd.V_reads' HO_6.out).2.2 | (with_reducible refine Kd.C_alloc ?_ _) | (with_reducible refine Kd.C_drewN ?_ _) | (with_reducible refine Kd.C_drew ?_))); (case side2 => exact (Kd.V_reads' HO_6.out).2.1); (case side3 => repeat (first | exact (Kd.R_reads' HO273.out).2.2 | (with_reducible refine Kd.C_alloc ?_ _) | (with_reducible refine Kd.C_drewN ?_ _) | (with_reducible refine Kd.C_drew ?_))); (case side4 => exact (Kd.R_reads' HO273.out).2.1); rintro e w21 ⟨v276, rfl, ho0, hb⟩; have n0_ := Aside0.mk (Kd.R_below HO_5.out hb); have n1_ := Aside0.mk (Kd.V_elder' HO_6.out (Kd.R_base ho0) hb); have n2_ := Aside0.mk (Kd.V_elder' HO_7.out (Kd.R_base ho0) hb); have n3_ := Aside0.mk (Kd.R_elder' HO273.out (Kd.R_base ho0) hb); have n4_ := Aside0.mk (Kd.R_lower (Kd.R_new' (Kd.R_newM (M := fun k_ => (w.heap.size ≤ k_)) ho0 (below_size HB.out) (fun k_ h_ => h_)) (Kd.R_lt HO273.out)) (below_size HB.out)); have n5_ := Aside0.mk (below_step HB.out hb); clear HO_5; clear HO_6; clear HO_7; clear HO273; clear HB; have HO_5 := n0_; have HO_6 := n1_; have HO_7 := n2_; have HO273 := n3_; have HO277 := n4_; have HB := n5_; clear n0_ n1_ n2_ n3_ n4_ n5_; (try clear hb); (try clear hb2); (try clear hk); (try clear hi); (try clear ho0))))
          go_step3
          refine ⟨rfl, ?_⟩
          refine hJB0 _ _ (Go.Proofs.Ytnbopkmhakfmmaa.Late.Again.mk k1 ?measure ?same ?rel)
          case measure => have := HK1.out; omega
          case same => exact Go.Proofs.Ytnbopkmhakfmmaa.Late.lay_of (.turn rfl (.keep (.keep (.keep (.turn rfl (.keep (.turn rfl (.turn rfl (.turn rfl (.turn rfl (.turn rfl (.turn rfl (.turn rfl (.keep (.keep (.keep (.keep (.keep (.keep (.keep (.keep (.keep (.keep (.keep (.turn rfl (.turn rfl (.turn rfl (.turn rfl (.turn rfl (.turn rfl (.turn rfl (.turn rfl (.turn rfl (.turn rfl (.turn rfl (.turn rfl (.turn rfl (.turn rfl (.turn rfl (.turn rfl (.turn rfl (.turn rfl (.turn rfl (.turn rfl (.turn rfl (.turn rfl (.turn rfl (.turn rfl (.turn rfl (.turn rfl (.turn rfl (.turn rfl (.turn rfl (.turn rfl (.turn rfl (.turn rfl (.turn rfl (.turn rfl (.turn rfl (.turn rfl (.turn rfl (.turn rfl .nil))))))))))))))))))))))))))))))))))))))))))))))))))))))))))))))
          case rel => exact ⟨(x7_1), (t274), (wrap64 (x8_1 + 1)), (by first | rfl | (simp; done) | (simp [*]; done)), H', ⟨by have := HK1.out; omega⟩, ⟨by (with_reducible repeat (first | apply Kd.R_alloc | apply Kd.R_drewN | apply Kd.R_drew)); exact HO_5.out⟩, ⟨by (with_reducible repeat (first | apply Kd.V_alloc | apply Kd.V_drewN | apply Kd.V_drew)); exact Kd.V_mono HO_7.out (fun _ hk => ⟨hk.1.1.1, hk.1.1.2⟩)⟩, ⟨Kd.R_V (Kd.R_mono (Kd.R_apart' HO277.out (Kd.R_typed HO_5.out) (by decide)) (fun _ hk => ⟨hk.1.1.1, hk.2⟩))⟩, ⟨by repeat (first | (with_reducible first | exact HB.out | apply below_alloc | apply pw_below_drewN | apply below_drew1) | exact HB.out)⟩⟩
        · rw [if_neg c13] at H
          have c13b0 : decide (x8_1 < (l1.length : Int)) = false := decide_eq_false c13
          clear c13
          replace H := Option.bind_eq_some_iff.mp H
          obtain ⟨⟨t278, t279⟩, A220, H⟩ := H
          replace H : ((slices_Concat_byte_byte.f k1 (([x7_1, x6_1] : List (List Int)))).bind fun t285 => ((bits_Permute.f k1 t285 t278).bind fun bt288 => (some bt288.1))) = some r := H
          have A22 := Aside0.mk A220
          clear A220
          obtain ⟨y282, hy282⟩ : ∃ y_ : List (List Int), y_ = (([x7_1, x6_1] : List (List Int))) := ⟨_, rfl⟩
          replace H : ((slices_Concat_byte_byte.f k1 y282).bind fun t285 => ((bits_Permute.f k1 t285 t278).bind fun bt288 => (some bt288.1))) = some r := by first | (rw [hy282]; with_reducible exact H) | (have H2_ := (Option.bind_some _ _).symm.trans H; rw [hy282]; with_reducible exact H2_) | (have H2_ := (Option.bind_some _ _).symm.trans H; with_reducible exact H2_) | with_reducible exact H | (rw [hy282]; exact H) | exact H
          have Ny282 := Aside0.mk hy282
          clear hy282
          replace H := Option.bind_eq_some_iff.mp H
          obtain ⟨t285, A230, H⟩ := H
          replace H : ((bits_Permute.f k1 t285 t278).bind fun bt288 => (some bt288.1)) = some r := H
          have A23 := Aside0.mk A230
          clear A230
          replace H := Option.bind_eq_some_iff.mp H
          obtain ⟨⟨t288, t289⟩, A240, H⟩ := H
          replace H : (some t288) = some r := H
          have A24 := Aside0.mk A240
          clear A240
          obtain rfl := Option.some.inj H
          go_wp2_with (first | (go_at_call 47; (with_reducible refine (bits_Invert.calls k1 _ _ t252 t278 t279 _ ?side1 ?side2 A22.out).mono ?_); (case side1 => repeat (first | exact (Kd.R_reads' HO_5.out).2.2 | (with_reducible refine Kd.C_alloc ?_ _) | (with_reducible refine Kd.C_drewN ?_ _) | (with_reducible refine Kd.C_drew ?_))); (case side2 => exact (Kd.R_reads' HO_5.out).2.1); rintro e w25 ⟨v280, rfl, ho0, hb⟩; have n0_ := Aside0.mk (Kd.R_elder' HO_5.out (Kd.R_base ho0) hb); have n1_ := Aside0.mk (Kd.V_elder' HO_6.out (Kd.R_base ho0) hb); have n2_ := Aside0.mk (Kd.V_elder' HO_7.out (Kd.R_base ho0) hb); have n3_ := Aside0.mk (Kd.R_lower (Kd.R_new' (Kd.R_newM (M := fun k_ => (w.heap.size ≤ k_)) ho0 (below_size HB.out) (fun k_ h_ => h_)) (Kd.R_lt HO_5.out)) (below_size HB.out)); have n4_ := Aside0.mk (below_step HB.out hb); clear HO_5; clear HO_6; clear HO_7; clear HB; have HO_5 := n0_; have HO_6 := n1_; have HO_7 := n2_; have HO281 := n3_; have HB := n4_; clear n0_ n1_ n2_ n3_ n4_; (try clear hb); (try clear hb2); (try clear hk); (try clear hi); (try clear ho0); obtain ⟨Ao26, co26, eo26⟩ := Kd.V_slice HO_7.out; subst eo26; obtain ⟨Ao27, co27, eo27⟩ := Kd.V_slice HO_6.out; subst eo27) | ((with_reducible refine gate_dst (N := 55) rfl ?_); refine Kd.N_lit (Kd.slice 5 (Kd.int .u8)) _ 22 ?hg (N' := 55) ?hd (xs := ([x7_1, x6_1] : List (List Int))) (inner := [.slice Ao26 x7_1.length co26, .slice Ao27 x6_1.length co27]) (ok := (fun k_ => (w.heap.size ≤ k_) ∧ some k_ ≠ (.slice Ao8 t252.length co8 : Value).ownBlock ∧ some k_ ≠ (v280 : Value).ownBlock)) (okp := (fun k_ => (w.heap.size ≤ k_) ∧ some k_ ≠ (.slice Ao8 t252.length co8 : Value).ownBlock ∧ some k_ ≠ (v280 : Value).ownBlock)) ?hr ?hp (fun _ hk => hk) ((show ∀ k_, w25.heap.size ≤ k_ → (fun k_ => (w.heap.size ≤ k_) ∧ some k_ ≠ (.slice Ao8 t252.length co8 : Value).ownBlock ∧ some k_ ≠ (v280 : Value).ownBlock) k_ from fun k_ hk => ⟨(Nat.le_trans (below_size HB.out) hk), Kd.fresh' (Kd.R_lt HO_5.out) k_ hk, Kd.fresh' (Kd.R_lt HO281.out) k_ hk⟩) _ (Nat.le_refl _)) (Below.refl _ _) (Nat.le_refl _) (by simp) ?_; (case hd => rfl); (case hg => rfl); (case hr => first | (go_simp; done) | (go_simp; rfl)); (case hp => exact (Reps.one (show Kd.FK (Kd.slice 5 (Kd.int .u8)) _ _ x7_1 [.slice Ao26 x7_1.length co26] from (Kd.FK_slice_mk (Kd.V_reads' (Kd.V_mono (ok' := (fun k_ => (w.heap.size ≤ k_) ∧ some k_ ≠ (.slice Ao8 t252.length co8 : Value).ownBlock ∧ some k_ ≠ (v280 : Value).ownBlock)) (HO_7.out) (fun k_ hk => ⟨hk.1.1, ⟨hk.1.2, hk.2⟩⟩))).2.1 (Kd.V_F (Kd.V_mono (ok' := (fun k_ => (w.heap.size ≤ k_) ∧ some k_ ≠ (.slice Ao8 t252.length co8 : Value).ownBlock ∧ some k_ ≠ (v280 : Value).ownBlock)) (HO_7.out) (fun k_ hk => ⟨hk.1.1, ⟨hk.1.2, hk.2⟩⟩))))) (Reps.one (show Kd.FK (Kd.slice 5 (Kd.int .u8)) _ _ x6_1 [.slice Ao27 x6_1.length co27] from (Kd.FK_slice_mk (Kd.V_reads' (Kd.V_mono (ok' := (fun k_ => (w.heap.size ≤ k_) ∧ some k_ ≠ (.slice Ao8 t252.length co8 : Value).ownBlock ∧ some k_ ≠ (v280 : Value).ownBlock)) (HO_6.out) (fun k_ hk => ⟨hk.1.1, ⟨hk.1.2, hk.2⟩⟩))).2.1 (Kd.V_F (Kd.V_mono (ok' := (fun k_ => (w.heap.size ≤ k_) ∧ some k_ ≠ (.slice Ao8 t252.length co8 : Value).ownBlock ∧ some k_ ≠ (v280 : Value).ownBlock)) (HO_6.out) (fun k_ hk => ⟨hk.1.1, ⟨hk.1.2, hk.2⟩⟩))))) (Reps.none _ _)))); intro v283 w28 ho29 hb hg_ hnew_; clear hg_ hnew_; (first | rw [← Ny282.out] at ho29 | (simp only [Int.reduceToNat] at ho29; rw [← Ny282.out] at ho29)); have n0_ := Aside0.mk (Kd.R_below HO_5.out hb); have n1_ := Aside0.mk (Kd.V_elder' HO_6.out (Kd.N_base ho29) hb); have n2_ := Aside0.mk (Kd.V_elder' HO_7.out (Kd.N_base ho29) hb); have n3_ := Aside0.mk (Kd.R_below HO281.out hb); have n4_ := Aside0.mk (Kd.N_lower ho29 (below_size HB.out)); have n5_ := Aside0.mk (below_step HB.out hb); clear HO_5; clear HO_6; clear HO_7; clear HO281; clear HB; have HO_5 := n0_; have HO_6 := n1_; have HO_7 := n2_; have HO281 := n3_; have HO284 := n4_; have HB := n5_; clear n0_ n1_ n2_ n3_ n4_ n5_; clear hb ho29; obtain ⟨Ao30, co30, eo30⟩ := Kd.N_slice HO284.out; subst eo30) | (go_at_call 48; (with_reducible refine (slices_Concat_byte_byte.calls k1 _ _ y282 t285 _ ?side1 ?side2 A23.out).mono ?_); (case side1 => repeat (first | exact (Kd.N_reads' HO284.out).2.2 | (with_reducible refine Kd.C_alloc ?_ _) | (with_reducible refine Kd.C_drewN ?_ _) | (with_reducible refine Kd.C_drew ?_))); (case side2 => exact (Kd.N_reads' HO284.out).2.1); rintro e w31 ⟨v286, rfl, ho0, hb⟩; have n0_ := Aside0.mk (Kd.R_below HO_5.out hb); have n1_ := Aside0.mk (Kd.V_elder' HO_6.out (Kd.R_base ho0) hb); have n2_ := Aside0.mk (Kd.V_elder' HO_7.out (Kd.R_base ho0) hb); have n3_ := Aside0.mk (Kd.R_below HO281.out hb); have n4_ := Aside0.mk (Kd.N_elder' HO284.out (Kd.R_base ho0) hb); have n5_ := Aside0.mk (Kd.R_lower (Kd.R_newM (M := fun k_ => (w.heap.size ≤ k_)) ho0 (below_size HB.out) (fun k_ h_ => h_)) (below_size HB.out)); have n6_ := Aside0.mk (below_step HB.out hb); clear HO_5; clear HO_6; clear HO_7; clear HO281; clear HO284; clear HB; have HO_5 := n0_; have HO_6 := n1_; have HO_7 := n2_; have HO281 := n3_; have HO284 := n4_; have HO287 := n5_; have HB := n6_; clear n0_ n1_ n2_ n3_ n4_ n5_ n6_; (try clear hb); (try clear hb2); (try clear hk); (try clear hi); (try clear ho0); obtain ⟨Ao32, co32, eo32⟩ := Kd.R_slice HO287.out; subst eo32; obtain ⟨Ao33, co33, eo33⟩ := Kd.R_slice HO281.out; subst eo33) | (go_at_call 26; (with_reducible refine (bits_Permute.calls k1 _ _ t285 _ _ t278 t288 t289 _ ?side1 ?side2 ?side3 ?side4 A24.out).mono ?_); (case side1 => repeat (first | exact (Kd.R_reads' HO287.out).2.2 | (with_reducible refine Kd.C_alloc ?_ _) | (with_reducible refine Kd.C_drewN ?_ _) | (with_reducible refine Kd.C_drew ?_))); (case side2 => exact (Kd.R_reads' HO287.out).2.1); (case side3 => repeat (first | exact (Kd.R_reads' HO281.out).2.2 | (with_reducible refine Kd.C_alloc ?_ _) | (with_reducible refine Kd.C_drewN ?_ _) | (with_reducible refine Kd.C_drew ?_))); (case side4 => exact (Kd.R_reads' HO281.out).2.1); rintro e w34 ⟨v290, rfl, ho0, hb⟩; have n0_ := Aside0.mk (Kd.R_below HO_5.out hb); have n1_ := Aside0.mk (Kd.V_below HO_6.out hb); have n2_ := Aside0.mk (Kd.V_below HO_7.out hb); have n3_ := Aside0.mk (Kd.R_below HO281.out hb); have n4_ := Aside0.mk (Kd.N_below HO284.out hb); have n5_ := Aside0.mk (Kd.R_below HO287.out hb); have n6_ := Aside0.mk (Kd.V_lower (Kd.V_mono (ok' := fun k_ => (w.heap.size ≤ k_) ∧ some k_ ≠ (.slice Ao8 t252.length co8 : Value).ownBlock ∧ some k_ ≠ (.slice Ao33 t278.length co33 : Value).ownBlock ∧ some k_ ≠ (.slice Ao30 y282.length co30 : Value).ownBlock ∧ some k_ ≠ (.slice Ao32 t285.length co32 : Value).ownBlock) (Kd.R_V (Kd.R_bound ho0)) (fun k_ hk_ => ⟨(Nat.le_trans (below_size HB.out) hk_.2.1), (Kd.fresh' (Kd.R_lt HO_5.out) k_ hk_.2.1), (Kd.fresh' (Kd.R_lt HO281.out) k_ hk_.2.1), (Kd.fresh' (Kd.N_lt HO284.out) k_ hk_.2.1), (Kd.fresh' (Kd.R_lt HO287.out) k_ hk_.2.1)⟩)) (below_size HB.out)); have n7_ := Aside0.mk (below_step HB.out hb); clear HO_5; clear HO_6; clear HO_7; clear HO281; clear HO284; clear HO287; clear HB; have HO_5 := n0_; have HO_6 := n1_; have HO_7 := n2_; have HO281 := n3_; have HO284 := n4_; have HO287 := n5_; have HO291 := n6_; have HB := n7_; clear n0_ n1_ n2_ n3_ n4_ n5_ n6_ n7_; (try clear hb); (try clear hb2); (try clear hk); (try clear hi); (try clear ho0)))
          repeat (go_quiet (first | (go_at_call 47; (with_reducible refine (bits_Invert.calls k1 _ _ t252 t278 t279 _ ?side1 ?side2 A22.out).mono ?_); (case side1 => repeat (first | exact (Kd.R_reads' HO_5.out).2.2 | (with_reducible refine Kd.C_alloc ?_ _) | (with_reducible refine Kd.C_drewN ?_ _) | (with_reducible refine Kd.C_drew ?_))); (case side2 => exact (Kd.R_reads' HO_5.out).2.1); rintro e w25 ⟨v280, rfl, ho0, hb⟩; have n0_ := Aside0.mk (Kd.R_elder' HO_5.out (Kd.R_base ho0) hb); have n1_ := Aside0.mk (Kd.V_elder' HO_6.out (Kd.R_base ho0) hb); have n2_ := Aside0.mk (Kd.V_elder' HO_7.out (Kd.R_base ho0) hb); have n3_ := Aside0.mk (Kd.R_lower (Kd.R_new' (Kd.R_newM (M := fun k_ => (w.heap.size ≤ k_)) ho0 (below_size HB.out) (fun k_ h_ => h_)) (Kd.R_lt HO_5.out)) (below_size HB.out)); have n4_ := Aside0.mk (below_step HB.out hb); clear HO_5; clear HO_6; clear HO_7; clear HB; have HO_5 := n0_; have HO_6 := n1_; have HO_7 := n2_; have HO281 := n3_; have HB := n4_; clear n0_ n1_ n2_ n3_ n4_; (try clear hb); (try clear hb2); (try clear hk); (try clear hi); (try clear ho0); obtain ⟨Ao26, co26, eo26⟩ := Kd.V_slice HO_7.out; subst eo26; obtain ⟨Ao27, co27, eo27⟩ := Kd.V_slice HO_6.out; subst eo27) | ((with_reducible refine gate_dst (N := 55) rfl ?_); refine Kd.N_lit (Kd.slice 5 (Kd.int .u8)) _ 22 ?hg (N' := 55) ?hd (xs := ([x7_1, x6_1] : List (List Int))) (inner := [.slice Ao26 x7_1.length co26, .slice Ao27 x6_1.length co27]) (ok := (fun k_ => (w.heap.size ≤ k_) ∧ some k_ ≠ (.slice Ao8 t252.length co8 : Value).ownBlock ∧ some k_ ≠ (v280 : Value).ownBlock)) (okp := (fun k_ => (w.heap.size ≤ k_) ∧ some k_ ≠ (.slice Ao8 t252.length co8 : Value).ownBlock ∧ some k_ ≠ (v280 : Value).ownBlock)) ?hr ?hp (fun _ hk => hk) ((show ∀ k_, w25.heap.size ≤ k_ → (fun k_ => (w.heap.size ≤ k_) ∧ some k_ ≠ (.slice Ao8 t252.length co8 : Value).ownBlock ∧ some k_ ≠ (v280 : Value).ownBlock) k_ from fun k_ hk => ⟨(Nat.le_trans (below_size HB.out) hk), Kd.fresh' (Kd.R_lt HO_5.out) k_ hk, Kd.fresh' (Kd.R_lt HO281.out) k_ hk⟩) _ (Nat.le_refl _)) (Below.refl _ _) (Nat.le_refl _) (by simp) ?_; (case hd => rfl); (case hg => rfl); (case hr => first | (go_simp; done) | (go_simp; rfl)); (case hp => exact (Reps.one (show Kd.FK (Kd.slice 5 (Kd.int .u8)) _ _ x7_1 [.slice Ao26 x7_1.length co26] from (Kd.FK_slice_mk (Kd.V_reads' (Kd.V_mono (ok' := (fun k_ => (w.heap.size ≤ k_) ∧ some k_ ≠ (.slice Ao8 t252.length co8 : Value).ownBlock ∧ some k_ ≠ (v280 : Value).ownBlock)) (HO_7.out) (fun k_ hk => ⟨hk.1.1, ⟨hk.1.2, hk.2⟩⟩))).2.1 (Kd.V_F (Kd.V_mono (ok' := (fun k_ => (w.heap.size ≤ k_) ∧ some k_ ≠ (.slice Ao8 t252.length co8 : Value).ownBlock ∧ some k_ ≠ (v280 : Value).ownBlock)) (HO_7.out) (fun k_ hk => ⟨hk.1.1, ⟨hk.1.2, hk.2⟩⟩))))) (Reps.one (show Kd.FK (Kd.slice 5 (Kd.int .u8)) _ _ x6_1 [.slice Ao27 x6_1.length co27] from (Kd.FK_slice_mk (Kd.V_reads' (Kd.V_mono (ok' := (fun k_ => (w.heap.size ≤ k_) ∧ some k_ ≠ (.slice Ao8 t252.length co8 : Value).ownBlock ∧ some k_ ≠ (v280 : Value).ownBlock)) (HO_6.out) (fun k_ hk => ⟨hk.1.1, ⟨hk.1.2, hk.2⟩⟩))).2.1 (Kd.V_F (Kd.V_mono (ok' := (fun k_ => (w.heap.size ≤ k_) ∧ some k_ ≠ (.slice Ao8 t252.length co8 : Value).ownBlock ∧ some k_ ≠ (v280 : Value).ownBlock)) (HO_6.out) (fun k_ hk => ⟨hk.1.1, ⟨hk.1.2, hk.2⟩⟩))))) (Reps.none _ _)))); intro v283 w28 ho29 hb hg_ hnew_; clear hg_ hnew_; (first | rw [← Ny282.out] at ho29 | (simp only [Int.reduceToNat] at ho29; rw [← Ny282.out] at ho29)); have n0_ := Aside0.mk (Kd.R_below HO_5.out hb); have n1_ := Aside0.mk (Kd.V_elder' HO_6.out (Kd.N_base ho29) hb); have n2_ := Aside0.mk (Kd.V_elder' HO_7.out (Kd.N_base ho29) hb); have n3_ := Aside0.mk (Kd.R_below HO281.out hb); have n4_ := Aside0.mk (Kd.N_lower ho29 (below_size HB.out)); have n5_ := Aside0.mk (below_step HB.out hb); clear HO_5; clear HO_6; clear HO_7; clear HO281; clear HB; have HO_5 := n0_; have HO_6 := n1_; have HO_7 := n2_; have HO281 := n3_; have HO284 := n4_; have HB := n5_; clear n0_ n1_ n2_ n3_ n4_ n5_; clear hb ho29; obtain ⟨Ao30, co30, eo30⟩ := Kd.N_slice HO284.out; subst eo30) | (go_at_call 48; (with_reducible refine (slices_Concat_byte_byte.calls k1 _ _ y282 t285 _ ?side1 ?side2 A23.out).mono ?_); (case side1 => repeat (first | exact (Kd.N_reads' HO284.out).2.2 | (with_reducible refine Kd.C_alloc ?_ _) | (with_reducible refine Kd.C_drewN ?_ _) | (with_reducible refine Kd.C_drew ?_))); (case side2 => exact (Kd.N_reads' HO284.out).2.1); rintro e w31 ⟨v286, rfl, ho0, hb⟩; have n0_ := Aside0.mk (Kd.R_below HO_5.out hb); have n1_ := Aside0.mk (Kd.V_elder' HO_6.out (Kd.R_base ho0) hb); have n2_ := Aside0.mk (Kd.V_elder' HO_7.out (Kd.R_base ho0) hb); have n3_ := Aside0.mk (Kd.R_below HO281.out hb); have n4_ := Aside0.mk (Kd.N_elder' HO284.out (Kd.R_base ho0) hb); have n5_ := Aside0.mk (Kd.R_lower (Kd.R_newM (M := fun k_ => (w.heap.size ≤ k_)) ho0 (below_size HB.out) (fun k_ h_ => h_)) (below_size HB.out)); have n6_ := Aside0.mk (below_step HB.out hb); clear HO_5; clear HO_6; clear HO_7; clear HO281; clear HO284; clear HB; have HO_5 := n0_; have HO_6 := n1_; have HO_7 := n2_; have HO281 := n3_; have HO284 := n4_; have HO287 := n5_; have HB := n6_; clear n0_ n1_ n2_ n3_ n4_ n5_ n6_; (try clear hb); (try clear hb2); (try clear hk); (try clear hi); (try clear ho0); obtain ⟨Ao32, co32, eo32⟩ := Kd.R_slice HO287.out; subst eo32; obtain ⟨Ao33, co33, eo33⟩ := Kd.R_slice HO281.out; subst eo33) | (go_at_call 26; (with_reducible refine (bits_Permute.calls k1 _ _ t285 _ _ t278 t288 t289 _ ?side1 ?side2 ?side3 ?side4 A24.out).mono ?_); (case side1 => repeat (first | exact (Kd.R_reads' HO287.out).2.2 | (with_reducible refine Kd.C_alloc ?_ _) | (with_reducible refine Kd.C_drewN ?_ _) | (with_reducible refine Kd.C_drew ?_))); (case side2 => exact (Kd.R_reads' HO287.out).2.1); (case side3 => repeat (first | exact (Kd.R_reads' HO281.out).2.2 | (with_reducible refine Kd.C_alloc ?_ _) | (with_reducible refine Kd.C_drewN ?_ _) | (with_reducible refine Kd.C_drew ?_))); (case side4 => exact (Kd.R_reads' HO281.out).2.1); rintro e w34 ⟨v290, rfl, ho0, hb⟩; have n0_ := Aside0.mk (Kd.R_below HO_5.out hb); have n1_ := Aside0.mk (Kd.V_below HO_6.out hb); have n2_ := Aside0.mk (Kd.V_below HO_7.out hb); have n3_ := Aside0.mk (Kd.R_below HO281.out hb); have n4_ := Aside0.mk (Kd.N_below HO284.out hb); have n5_ := Aside0.mk (Kd.R_below HO287.out hb); have n6_ := Aside0.mk (Kd.V_lower (Kd.V_mono (ok' := fun k_ => (w.heap.size ≤ k_) ∧ some k_ ≠ (.slice Ao8 t252.length co8 : Value).ownBlock ∧ some k_ ≠ (.slice Ao33 t278.length co33 : Value).ownBlock ∧ some k_ ≠ (.slice Ao30 y282.length co30 : Value).ownBlock ∧ some k_ ≠ (.slice Ao32 t285.length co32 : Value).ownBlock) (Kd.R_V (Kd.R_bound ho0)) (fun k_ hk_ => ⟨(Nat.le_trans (below_size HB.out) hk_.2.1), (Kd.fresh' (Kd.R_lt HO_5.out) k_ hk_.2.1), (Kd.fresh' (Kd.R_lt HO281.out) k_ hk_.2.1), (Kd.fresh' (Kd.N_lt HO284.out) k_ hk_.2.1), (Kd.fresh' (Kd.R_lt HO287.out) k_ hk_.2.1)⟩)) (below_size HB.out)); have n7_ := Aside0.mk (below_step HB.out hb); clear HO_5; clear HO_6; clear HO_7; clear HO281; clear HO284; clear HO287; clear HB; have HO_5 := n0_; have HO_6 := n1_; have HO_7 := n2_; have HO281 := n3_; have HO284 := n4_; have HO287 := n5_; have HO291 := n6_; have HB := n7_; clear n0_ n1_ n2_ n3_ n4_ n5_ n6_ n7_; (try clear hb); (try clear hb2); (try clear hk); (try clear hi); (try clear ho0))); try go_wp2_with (first | (go_at_call 47; (with_reducible refine (bits_Invert.calls k1 _ _ t252 t278 t279 _ ?side1 ?side2 A22.out).mono ?_); (case side1 => repeat (first | exact (Kd.R_reads' HO_5.out).2.2 | (with_reducible refine Kd.C_alloc ?_ _) | (with_reducible refine Kd.C_drewN ?_ _) | (with_reducible refine Kd.C_drew ?_))); (case side2 => exact (Kd.R_reads' HO_5.out).2.1); rintro e w25 ⟨v280, rfl, ho0, hb⟩; have n0_ := Aside0.mk (Kd.R_elder' HO_5.out (Kd.R_base ho0) hb); have n1_ := Aside0.mk (Kd.V_elder' HO_6.out (Kd.R_base ho0) hb); have n2_ := Aside0.mk (Kd.V_elder' HO_7.out (Kd.R_base ho0) hb); have n3_ := Aside0.mk (Kd.R_lower (Kd.R_new' (Kd.R_newM (M := fun k_ => (w.heap.size ≤ k_)) ho0 (below_size HB.out) (fun k_ h_ => h_)) (Kd.R_lt HO_5.out)) (below_size HB.out)); have n4_ := Aside0.mk (below_step HB.out hb); clear HO_5; clear HO_6; clear HO_7; clear HB; have HO_5 := n0_; have HO_6 := n1_; have HO_7 := n2_; have HO281 := n3_; have HB := n4_; clear n0_ n1_ n2_ n3_ n4_; (try clear hb); (try clear hb2); (try clear hk); (try clear hi); (try clear ho0); obtain ⟨Ao26, co26, eo26⟩ := Kd.V_slice HO_7.out; subst eo26; obtain ⟨Ao27, co27, eo27⟩ := Kd.V_slice HO_6.out; subst eo27) | ((with_reducible refine gate_dst (N := 55) rfl ?_); refine Kd.N_lit (Kd.slice 5 (Kd.int .u8)) _ 22 ?hg (N' := 55) ?hd (xs := ([x7_1, x6_1] : List (List Int))) (inner := [.slice Ao26 x7_1.length co26, .slice Ao27 x6_1.length co27]) (ok := (fun k_ => (w.heap.size ≤ k_) ∧ some k_ ≠ (.slice Ao8 t252.length co8 : Value).ownBlock ∧ some k_ ≠ (v280 : Value).ownBlock)) (okp := (fun k_ => (w.heap.size ≤ k_) ∧ some k_ ≠ (.slice Ao8 t252.length co8 : Value).ownBlock ∧ some k_ ≠ (v280 : Value).ownBlock)) ?hr ?hp (fun _ hk => hk) ((show ∀ k_, w25.heap.size ≤ k_ → (fun k_ => (w.heap.size ≤ k_) ∧ some k_ ≠ (.slice Ao8 t252.length co8 : Value).ownBlock ∧ some k_ ≠ (v280 : Value).ownBlock) k_ from fun k_ hk => ⟨(Nat.le_trans (below_size HB.out) hk), Kd.fresh' (Kd.R_lt HO_5.out) k_ hk, Kd.fresh' (Kd.R_lt HO281.out) k_ hk⟩) _ (Nat.le_refl _)) (Below.refl _ _) (Nat.le_refl _) (by simp) ?_; (case hd => rfl); (case hg => rfl); (case hr => first | (go_simp; done) | (go_simp; rfl)); (case hp => exact (Reps.one (show Kd.FK (Kd.slice 5 (Kd.int .u8)) _ _ x7_1 [.slice Ao26 x7_1.length co26] from (Kd.FK_slice_mk (Kd.V_reads' (Kd.V_mono (ok' := (fun k_ => (w.heap.size ≤ k_) ∧ some k_ ≠ (.slice Ao8 t252.length co8 : Value).ownBlock ∧ some k_ ≠ (v280 : Value).ownBlock)) (HO_7.out) (fun k_ hk => ⟨hk.1.1, ⟨hk.1.2, hk.2⟩⟩))).2.1 (Kd.V_F (Kd.V_mono (ok' := (fun k_ => (w.heap.size ≤ k_) ∧ some k_ ≠ (.slice Ao8 t252.length co8 : Value).ownBlock ∧ some k_ ≠ (v280 : Value).ownBlock)) (HO_7.out) (fun k_ hk => ⟨hk.1.1, ⟨hk.1.2, hk.2⟩⟩))))) (Reps.one (show Kd.FK (Kd.slice 5 (Kd.int .u8)) _ _ x6_1 [.slice Ao27 x6_1.length co27] from (Kd.FK_slice_mk (Kd.V_reads' (Kd.V_mono (ok' := (fun k_ => (w.heap.size ≤ k_) ∧ some k_ ≠ (.slice Ao8 t252.length co8 : Value).ownBlock ∧ some k_ ≠ (v280 : Value).ownBlock)) (HO_6.out) (fun k_ hk => ⟨hk.1.1, ⟨hk.1.2, hk.2⟩⟩))).2.1 (Kd.V_F (Kd.V_mono (ok' := (fun k_ => (w.heap.size ≤ k_) ∧ some k_ ≠ (.slice Ao8 t252.length co8 : Value).ownBlock ∧ some k_ ≠ (v280 : Value).ownBlock)) (HO_6.out) (fun k_ hk => ⟨hk.1.1, ⟨hk.1.2, hk.2⟩⟩))))) (Reps.none _ _)))); intro v283 w28 ho29 hb hg_ hnew_; clear hg_ hnew_; (first | rw [← Ny282.out] at ho29 | (simp only [Int.reduceToNat] at ho29; rw [← Ny282.out] at ho29)); have n0_ := Aside0.mk (Kd.R_below HO_5.out hb); have n1_ := Aside0.mk (Kd.V_elder' HO_6.out (Kd.N_base ho29) hb); have n2_ := Aside0.mk (Kd.V_elder' HO_7.out (Kd.N_base ho29) hb); have n3_ := Aside0.mk (Kd.R_below HO281.out hb); have n4_ := Aside0.mk (Kd.N_lower ho29 (below_size HB.out)); have n5_ := Aside0.mk (below_step HB.out hb); clear HO_5; clear HO_6; clear HO_7; clear HO281; clear HB; have HO_5 := n0_; have HO_6 := n1_; have HO_7 := n2_; have HO281 := n3_; have HO284 := n4_; have HB := n5_; clear n0_ n1_ n2_ n3_ n4_ n5_; clear hb ho29; obtain ⟨Ao30, co30, eo30⟩ := Kd.N_slice HO284.out; subst eo30) | (go_at_call 48; (with_reducible refine (slices_Concat_byte_byte.calls k1 _ _ y282 t285 _ ?side1 ?side2 A23.out).mono ?_); (case side1 => repeat (first | exact (Kd.N_reads' HO284.out).2.2 | (with_reducible refine Kd.C_alloc ?_ _) | (with_reducible refine Kd.C_drewN ?_ _) | (with_reducible refine Kd.C_drew ?_))); (case side2 => exact (Kd.N_reads' HO284.out).2.1); rintro e w31 ⟨v286, rfl, ho0, hb⟩; have n0_ := Aside0.mk (Kd.R_below HO_5.out hb); have n1_ := Aside0.mk (Kd.V_elder' HO_6.out (Kd.R_base ho0) hb); have n2_ := Aside0.mk (Kd.V_elder' HO_7.out (Kd.R_base ho0) hb); have n3_ := Aside0.mk (Kd.R_below HO281.out hb); have n4_ := Aside0.mk (Kd.N_elder' HO284.out (Kd.R_base ho0) hb); have n5_ := Aside0.mk (Kd.R_lower (Kd.R_newM (M := fun k_ => (w.heap.size ≤ k_)) ho0 (below_size HB.out) (fun k_ h_ => h_)) (below_size HB.out)); have n6_ := Aside0.mk (below_step HB.out hb); clear HO_5; clear HO_6; clear HO_7; clear HO281; clear HO284; clear HB; have HO_5 := n0_; have HO_6 := n1_; have HO_7 := n2_; have HO281 := n3_; have HO284 := n4_; have HO287 := n5_; have HB := n6_; clear n0_ n1_ n2_ n3_ n4_ n5_ n6_; (try clear hb); (try clear hb2); (try clear hk); (try clear hi); (try clear ho0); obtain ⟨Ao32, co32, eo32⟩ := Kd.R_slice HO287.out; subst eo32; obtain ⟨Ao33, co33, eo33⟩ := Kd.R_slice HO281.out; subst eo33) | (go_at_call 26; (with_reducible refine (bits_Permute.calls k1 _ _ t285 _ _ t278 t288 t289 _ ?side1 ?side2 ?side3 ?side4 A24.out).mono ?_); (case side1 => repeat (first | exact (Kd.R_reads' HO287.out).2.2 | (with_reducible refine Kd.C_alloc ?_ _) | (with_reducible refine Kd.C_drewN ?_ _) | (with_reducible refine Kd.C_drew ?_))); (case side2 => exact (Kd.R_reads' HO287.out).2.1); (case side3 => repeat (first | exact (Kd.R_reads' HO281.out).2.2 | (with_reducible refine Kd.C_alloc ?_ _) | (with_reducible refine Kd.C_drewN ?_ _) | (with_reducible refine Kd.C_drew ?_))); (case side4 => exact (Kd.R_reads' HO281.out).2.1); rintro e w34 ⟨v290, rfl, ho0, hb⟩; have n0_ := Aside0.mk (Kd.R_below HO_5.out hb); have n1_ := Aside0.mk (Kd.V_below HO_6.out hb); have n2_ := Aside0.mk (Kd.V_below HO_7.out hb); have n3_ := Aside0.mk (Kd.R_below HO281.out hb); have n4_ := Aside0.mk (Kd.N_below HO284.out hb); have n5_ := Aside0.mk (Kd.R_below HO287.out hb); have n6_ := Aside0.mk (Kd.V_lower (Kd.V_mono (ok' := fun k_ => (w.heap.size ≤ k_) ∧ some k_ ≠ (.slice Ao8 t252.length co8 : Value).ownBlock ∧ some k_ ≠ (.slice Ao33 t278.length co33 : Value).ownBlock ∧ some k_ ≠ (.slice Ao30 y282.length co30 : Value).ownBlock ∧ some k_ ≠ (.slice Ao32 t285.length co32 : Value).ownBlock) (Kd.R_V (Kd.R_bound ho0)) (fun k_ hk_ => ⟨(Nat.le_trans (below_size HB.out) hk_.2.1), (Kd.fresh' (Kd.R_lt HO_5.out) k_ hk_.2.1), (Kd.fresh' (Kd.R_lt HO281.out) k_ hk_.2.1), (Kd.fresh' (Kd.N_lt HO284.out) k_ hk_.2.1), (Kd.fresh' (Kd.R_lt HO287.out) k_ hk_.2.1)⟩)) (below_size HB.out)); have n7_ := Aside0.mk (below_step HB.out hb); clear HO_5; clear HO_6; clear HO_7; clear HO281; clear HO284; clear HO287; clear HB; have HO_5 := n0_; have HO_6 := n1_; have HO_7 := n2_; have HO281 := n3_; have HO284 := n4_; have HO287 := n5_; have HO291 := n6_; have HB := n7_; clear n0_ n1_ n2_ n3_ n4_ n5_ n6_ n7_; (try clear hb); (try clear hb2); (try clear hk); (try clear hi); (try clear ho0))))
          (try simp only [Exit.jump])
          go_ret
          exact ⟨_, by first | rfl | (simp [errW_none, errW_some] <;> rfl) | (simp [*, errW_none, errW_some] <;> rfl), by (with_reducible repeat (first | apply Kd.V_alloc | apply Kd.V_drewN | apply Kd.V_drew)); exact Kd.V_mono HO291.out (fun _ hk => hk.1), by repeat (first | (with_reducible first | exact HB.out | apply below_alloc | apply pw_below_drewN | apply below_drew1) | exact HB.out)⟩
  · rw [if_neg c5] at H
    exact absurd H (by simp)

end Go.Proofs.Ytnbopkmhakfmmaa.MDes
