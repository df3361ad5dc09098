/- A walk: each Go function that is named here answers what its plain function answers. Conditions: its arguments are read as lists and numbers. -/
import Derived.Test.YtnbopkmhakfmmaaMDesx0
import Derived.Test.YtnbopkmhakfmmaaMDesc
import Derived.Test.YtnbopkmhakfmmaaMDesg
import Derived.Test.YtnbopkmhakfmmaaMDesh
import Derived.Test.YtnbopkmhakfmmaaMDesi
namespace Go.Proofs.Ytnbopkmhakfmmaa.MDes
open Go.RowKit Go.Proofs.YtnbopkmhakfmmaaW.PrintWords Go.Proofs.YtnbopkmhakfmmaaW.PrintLast Go.Proofs.YtnbopkmhakfmmaaW.PrintMore
attribute [local go_sem] max2_int min2_int max_two min_two max_three min_three max_four min_four   -- for this text's walks alone
set_option linter.unusedVariables false
set_option linter.unusedSimpArgs false

/-! ### scrimlaw6_DesParity: function 4 -/
def scrimlaw6_DesParity.l0 : Nat → List Int → Int → List Int → List Int → Int → Option (Bool)
  | 0, _, _, _, _, _ => none
  | k + 1, x2, x3, x9, x10, x11 => if x11 < (x10.length : Int) then (if 0 ≤ x11 then (if 0 ≤ (IntKind.u64.wrap (Int.tmod x11 8)) then (scrimlaw6_DesParity.l0 k x2 x3 x9 (x10.set (x11 : Int).toNat (Go.bits .xor .u8 (rd x10 x11) (Go.bits .and .u8 (shr .u8 x3 (IntKind.u64.wrap (Int.tmod x11 8))) 1))) (wrap64 (x11 + 1))) else (none)) else (none)) else ((des_New.f k x9).bind fun bt508 => ((des_New.f k x10).bind fun bt512 => (if bt508.2 = 0 then (if bt512.2 = 0 then (if bt508.1 = [] then (none) else (if bt512.1 = [] then (none) else ((scrimlaw6_Bytes.f k 8 x2).bind fun t516 => ((des_Des_Block.f k bt508.1 t516 false).bind fun bt519 => ((scrimlaw6_Bytes.f k 8 x2).bind fun t523 => ((des_Des_Block.f k bt512.1 t523 false).bind fun bt526 => (if (bt519.1.length : Int) = 8 then (some ((strOfNums bt519.1).toList == (strOfNums bt526.1).toList)) else (none)))))))) else (none)) else (none))))
def scrimlaw6_DesParity.f (k : Nat) (l0 : List Int) (a1 : Int) (l2 : List Int) (a3 : Int) : Option (Bool) := (scrimlaw6_known.f k).bind fun t496 => (if t496 = true then ((scrimlaw6_key.f k l0 a1).bind fun t497 => ((some (([] : List Int) : List Int)).bind fun y500 => (if y500.length + t497.length < 140737488355328 then (scrimlaw6_DesParity.l0 k l2 a3 t497 (y500 ++ t497) 0) else (none)))) else (none))
theorem scrimlaw6_DesParity.mono_l : ∀ k, (∀ y0 y1 y2 y3 y4, LeO (scrimlaw6_DesParity.l0 k y0 y1 y2 y3 y4) (scrimlaw6_DesParity.l0 (k + 1) y0 y1 y2 y3 y4))
  | 0 => fun _ _ _ _ _ r h => by simp [scrimlaw6_DesParity.l0] at h
  | k + 1 => by
    have ih0 := scrimlaw6_DesParity.mono_l k
    · intro y0 y1 y2 y3 y4
      unfold scrimlaw6_DesParity.l0
      repeat' first
      | (with_reducible exact ih0 _ _ _ _ _)
      | (with_reducible exact des_Des_Block.mono _ _ _ _)
      | (with_reducible exact des_New.mono _ _)
      | (with_reducible exact scrimlaw6_Bytes.mono _ _ _)
      | (with_reducible exact scrimlaw6_key.mono _ _ _)
      | (with_reducible exact scrimlaw6_known.mono _)
      | (with_reducible exact LeO.refl _)
      | (with_reducible exact LeO.none _)
      | (with_reducible refine LeO.ite ?_ ?_)
      | (with_reducible refine LeO.bind ?_ (fun _ => ?_))
      | exact ih0 _ _ _ _ _
      | exact des_Des_Block.mono _ _ _ _
      | exact des_New.mono _ _
      | exact scrimlaw6_Bytes.mono _ _ _
      | exact scrimlaw6_key.mono _ _ _
      | exact scrimlaw6_known.mono _
      | exact LeO.none _
      | refine LeO.ite ?_ ?_
      | refine LeO.bind ?_ (fun _ => ?_)
theorem scrimlaw6_DesParity.mono : ∀ a0 a1 a2 a3 k, LeO (scrimlaw6_DesParity.f k a0 a1 a2 a3) (scrimlaw6_DesParity.f (k + 1) a0 a1 a2 a3) := by
  intro a0 a1 a2 a3 k
  have ih0 := scrimlaw6_DesParity.mono_l k
  unfold scrimlaw6_DesParity.f
  repeat' first
      | (with_reducible exact ih0 _ _ _ _ _)
      | (with_reducible exact des_Des_Block.mono _ _ _ _)
      | (with_reducible exact des_New.mono _ _)
      | (with_reducible exact scrimlaw6_Bytes.mono _ _ _)
      | (with_reducible exact scrimlaw6_key.mono _ _ _)
      | (with_reducible exact scrimlaw6_known.mono _)
      | (with_reducible exact LeO.refl _)
      | (with_reducible exact LeO.none _)
      | (with_reducible refine LeO.ite ?_ ?_)
      | (with_reducible refine LeO.bind ?_ (fun _ => ?_))
      | exact ih0 _ _ _ _ _
      | exact des_Des_Block.mono _ _ _ _
      | exact des_New.mono _ _
      | exact scrimlaw6_Bytes.mono _ _ _
      | exact scrimlaw6_key.mono _ _ _
      | exact scrimlaw6_known.mono _
      | exact LeO.none _
      | refine LeO.ite ?_ ?_
      | refine LeO.bind ?_ (fun _ => ?_)
set_option maxHeartbeats 8000000 in
set_option maxRecDepth 100000 in
theorem scrimlaw6_DesParity.calls (k : Nat) (A0 : Option Addr) (c0 : Nat) (l0 : List Int) (a1 : Int) (A2 : Option Addr) (c2 : Nat) (l2 : List Int) (a3 : Int) (r : Bool) (w : World) (hr0 : Kd.C (Kd.int .u8) w A0 l0.length l0) (hc0 : l0.length ≤ c0) (hr2 : Kd.C (Kd.int .u8) w A2 l2.length l2) (hc2 : l2.length ≤ c2) (h : scrimlaw6_DesParity.f k l0 a1 l2 a3 = some r) :
    Calls Try.prog 4 #[.slice A0 l0.length c0, .int .i64 a1, .slice A2 l2.length c2, .int .u8 a3] w fun e w' => e = .returned (.bool r) ∧ Below w.heap.size w w' := by
  have HR0 := Aside0.mk hr0
  have HC0 := Aside0.mk hc0
  clear hr0 hc0
  have HR2 := Aside0.mk hr2
  have HC2 := Aside0.mk hc2
  clear hr2 hc2
  have HB := Aside0.mk (Below.refl w.heap.size w)
  have H : ((scrimlaw6_known.f k).bind fun t496 => (if t496 = true then ((scrimlaw6_key.f k l0 a1).bind fun t497 => ((some (([] : List Int) : List Int)).bind fun y500 => (if y500.length + t497.length < 140737488355328 then (scrimlaw6_DesParity.l0 k l2 a3 t497 (y500 ++ t497) 0) else (none)))) else (none))) = some r := h
  clear h
  replace H := Option.bind_eq_some_iff.mp H
  obtain ⟨t496, A50, H⟩ := H
  replace H : (if t496 = true then ((scrimlaw6_key.f k l0 a1).bind fun t497 => ((some (([] : List Int) : List Int)).bind fun y500 => (if y500.length + t497.length < 140737488355328 then (scrimlaw6_DesParity.l0 k l2 a3 t497 (y500 ++ t497) 0) else (none)))) else (none)) = some r := H
  have A5 := Aside0.mk A50
  clear A50
  by_cases c6 : t496 = true
  · subst c6
    have H1 : ((scrimlaw6_key.f k l0 a1).bind fun t497 => ((some (([] : List Int) : List Int)).bind fun y500 => (if y500.length + t497.length < 140737488355328 then (scrimlaw6_DesParity.l0 k l2 a3 t497 (y500 ++ t497) 0) else (none)))) = some r := by rw [if_pos rfl] at H; exact H
    clear H
    have H := H1
    clear H1
    replace H := Option.bind_eq_some_iff.mp H
    obtain ⟨t497, A70, H⟩ := H
    replace H : ((some (([] : List Int) : List Int)).bind fun y500 => (if y500.length + t497.length < 140737488355328 then (scrimlaw6_DesParity.l0 k l2 a3 t497 (y500 ++ t497) 0) else (none))) = some r := H
    have A7 := Aside0.mk A70
    clear A70
    obtain ⟨y500, hy500⟩ : ∃ y_ : List Int, y_ = (([] : List Int)) := ⟨_, rfl⟩
    replace H : (if y500.length + t497.length < 140737488355328 then (scrimlaw6_DesParity.l0 k l2 a3 t497 (y500 ++ t497) 0) else (none)) = some r := by first | (rw [hy500]; with_reducible exact H) | (have H2_ := (Option.bind_some _ _).symm.trans H; rw [hy500]; with_reducible exact H2_) | (have H2_ := (Option.bind_some _ _).symm.trans H; with_reducible exact H2_) | with_reducible exact H | (rw [hy500]; exact H) | exact H
    have Ny500 := Aside0.mk hy500
    clear hy500
    by_cases c8 : y500.length + t497.length < 140737488355328
    · rw [if_pos c8] at H
      have LMc8 := Aside0.mk c8
      clear c8
      obtain ⟨y503, hy503⟩ : ∃ y_ : List Int, y_ = (y500 ++ t497) := ⟨_, rfl⟩
      replace H : (scrimlaw6_DesParity.l0 k l2 a3 t497 y503 0) = some r := by first | (rw [hy503]; with_reducible exact H) | (have H2_ := (Option.bind_some _ _).symm.trans H; rw [hy503]; with_reducible exact H2_) | (have H2_ := (Option.bind_some _ _).symm.trans H; with_reducible exact H2_) | with_reducible exact H | (rw [hy503]; exact H) | exact H
      have Ny503 := Aside0.mk hy503
      clear hy503
      have H' := Aside0.mk H
      clear H
      go_enter Try.func4, Try.ntmps4
      go_wp2_with (first | ((with_reducible refine gate_callee (f := 10) rfl ?_); refine goesL_ (some 20) rfl rfl Try.func10 (by kernel_rfl) rfl #[] rfl (by (try simp only [List.map_toArray, List.map_cons, List.map_nil]); first | done | rfl | (simp only [List.length_drop, List.length_take]; rfl)) ?_; (with_reducible refine (scrimlaw6_known.calls k  true _ A5.out).mono ?_); rintro e w9 ⟨rfl, hb⟩; refine ⟨_, rfl, ?_⟩; have n0_ := Aside0.mk (below_step (by repeat (first | (with_reducible first | exact HB.out | apply below_alloc | apply pw_below_drewN | apply below_drew1) | exact HB.out)) hb); clear HB; have HB := n0_; clear n0_; (try clear hb); (try clear hb2); (try clear hk); (try clear hi)) | ((with_reducible refine gate_callee (f := 17) rfl ?_); refine goesL_ (some 24) rfl rfl Try.func17 (by kernel_rfl) rfl #[.slice A0 l0.length c0, .int .i64 a1] rfl (by (try simp only [List.map_toArray, List.map_cons, List.map_nil]); first | done | rfl | (simp only [List.length_drop, List.length_take]; rfl)) ?_; (with_reducible refine (scrimlaw6_key.calls k _ _ l0 a1 t497 _ ?side1 ?side2 A7.out).mono ?_); (case side1 => repeat (first | exact (Kd.C_below HR0.out HB.out) | (with_reducible refine Kd.C_alloc ?_ _) | (with_reducible refine Kd.C_drewN ?_ _) | (with_reducible refine Kd.C_drew ?_))); (case side2 => exact HC0.out); rintro e w10 ⟨v498, rfl, ho0, hb⟩; refine ⟨_, rfl, ?_⟩; have n0_ := Aside0.mk (Kd.R_lower ho0 (below_size (by repeat (first | (with_reducible first | exact HB.out | apply below_alloc | apply pw_below_drewN | apply below_drew1) | exact HB.out)))); have n1_ := Aside0.mk (below_step (by repeat (first | (with_reducible first | exact HB.out | apply below_alloc | apply pw_below_drewN | apply below_drew1) | exact HB.out)) hb); clear HB; have HO499 := n0_; have HB := n1_; clear n0_ n1_; (try clear hb); (try clear hb2); (try clear hk); (try clear hi); (try clear ho0)) | ((with_reducible refine gate_dst (N := 25) rfl ?_); refine Kd.R_lit (Kd.int .u8) _ 5 ?hg (N := 25) ?hd (xs := ([] : List Int)) (inner := []) (ok := fun _ => True) (okp := fun _ => True) ?hr ?hp (fun _ hk => hk) trivial (Below.refl _ _) (Nat.le_refl _) (by simp) ?_; (case hd => rfl); (case hg => rfl); (case hr => first | (go_simp; done) | (go_simp; rfl)); (case hp => exact (Reps.none _ _)); intro v501 w11 ho12 hb hg_ hnew_; clear hg_ hnew_; (first | rw [← Ny500.out] at ho12 | (simp only [Int.reduceToNat] at ho12; rw [← Ny500.out] at ho12)); have n0_ := Aside0.mk (Kd.R_elder' (by (with_reducible repeat (first | apply Kd.R_alloc | apply Kd.R_drewN | apply Kd.R_drew)); exact HO499.out) (Kd.R_base ho12) hb); have n1_ := Aside0.mk (Kd.R_lower (Kd.R_new' ho12 (Kd.R_lt (by (with_reducible repeat (first | apply Kd.R_alloc | apply Kd.R_drewN | apply Kd.R_drew)); exact HO499.out))) (below_size (by repeat (first | (with_reducible first | exact HB.out | apply below_alloc | apply pw_below_drewN | apply below_drew1) | exact HB.out)))); have n2_ := Aside0.mk (below_step (by repeat (first | (with_reducible first | exact HB.out | apply below_alloc | apply pw_below_drewN | apply below_drew1) | exact HB.out)) hb); clear HO499; clear HB; have HO499 := n0_; have HO502 := n1_; have HB := n2_; clear n0_ n1_ n2_; clear hb ho12; obtain ⟨Ao14, co14, eo14⟩ := Kd.R_slice HO499.out; subst eo14) | ((with_reducible refine gate_builtin (b := .append) (xs := #[.tmp 25, .tmp 26]) rfl ?_); at_builtin; refine Kd.R_append_rows (Kd.int .u8) (w0 := w) w.heap.size rfl (.tmp 25) (.tmp 26) 22 5 (.int .u8 0) 1 rfl Try.underlying22 info5 rfl (by decide) (by omega) v501 y500 t497 _ _ _ (fun k_ => some k_ ≠ (.slice Ao14 t497.length co14 : Value).ownBlock) (fun _ => False) rfl rfl ?aO ?aR (fun _ _ h => h) (fun _ h => h.elim) ?aF ?aB ?aS ?aL ?_; (case aR => repeat (first | exact (Kd.R_reads' HO499.out).2.2 | (with_reducible refine Kd.C_alloc ?_ _) | (with_reducible refine Kd.C_drewN ?_ _) | (with_reducible refine Kd.C_drew ?_))); (case aB => exact (by repeat (first | (with_reducible first | exact HB.out | apply below_alloc | apply pw_below_drewN | apply below_drew1) | exact HB.out))); (case aF => exact (fun k_ hk => Kd.fresh' (Kd.R_lt (by (with_reducible repeat (first | apply Kd.R_alloc | apply Kd.R_drewN | apply Kd.R_drew)); exact HO499.out)) k_ hk)); (case aO => exact (by (with_reducible repeat (first | apply Kd.R_alloc | apply Kd.R_drewN | apply Kd.R_drew)); exact Kd.R_mono HO502.out (fun _ hk => hk.2))); (case aS => exact (below_size (by repeat (first | (with_reducible first | exact HB.out | apply below_alloc | apply pw_below_drewN | apply below_drew1) | exact HB.out)))); (case aL => have := LMc8.out; omega); intro v504 w13 ho hb hg hat; rw [← Ny503.out] at ho; have n0_ := Aside0.mk (Kd.R_after (ok := (fun _ => True)) (by (with_reducible repeat (first | apply Kd.R_alloc | apply Kd.R_drewN | apply Kd.R_drew)); exact HO499.out) hg hat); have n1_ := Aside0.mk (hb); have n2_ := Aside0.mk (ho); clear HO499; clear HB; clear HO502; have HO499 := n0_; have HB := n1_; have HO505 := n2_; clear n0_ n1_ n2_; clear ho hb hg hat))
      go_loopg [11] k (fun kq v11 w' => ∃ (x10_1 : List Int) (x11_1 : Int), v11 = .int .i64 x11_1 ∧ Aside0 (scrimlaw6_DesParity.l0 kq l2 a3 t497 x10_1 x11_1 = some r) ∧ Aside0 (kq ≤ k) ∧ Aside0 (Kd.R (Kd.int .u8) 5 w' w.heap.size (fun k_ => some k_ ≠ (v504 : Value).ownBlock) (.slice Ao14 t497.length co14) t497) ∧ Aside0 (Kd.R (Kd.int .u8) 5 w' w.heap.size (fun k_ => some k_ ≠ ((.slice Ao14 t497.length co14) : Value).ownBlock) v504 x10_1) ∧ Aside0 (Below w.heap.size w w'))
      case atStart => exact ⟨(y503), (0), (by first | rfl | (simp; done) | (simp [*]; done)), H', ⟨Nat.le_refl _⟩, ⟨by (with_reducible repeat (first | apply Kd.R_alloc | apply Kd.R_drewN | apply Kd.R_drew)); exact Kd.R_mono HO499.out (fun _ hk => hk.2)⟩, ⟨by (with_reducible repeat (first | apply Kd.R_alloc | apply Kd.R_drewN | apply Kd.R_drew)); exact HO505.out⟩, ⟨by repeat (first | (with_reducible first | exact HB.out | apply below_alloc | apply pw_below_drewN | apply below_drew1) | exact HB.out)⟩⟩
      case round =>
        clear H'
        try clear c1
        try clear c2
        try clear p2
        try clear c4
        try clear c6
        try clear c8
        try clear c10
        obtain ⟨x10_1, x11_1, rfl, HA, HK1, HO_9, HO_10, HB⟩ := hrel
        cases gk with
        | zero => exact absurd HA.out (by simp [scrimlaw6_DesParity.l0])
        | succ k1 =>
          have H := HA.out
          clear HA
          simp only [scrimlaw6_DesParity.l0] at H
          by_cases c15 : x11_1 < (x10_1.length : Int)
          · rw [if_pos c15] at H
            have c15b0 : decide (x11_1 < (x10_1.length : Int)) = true := decide_eq_true c15
            clear c15
            by_cases c16 : 0 ≤ x11_1
            · rw [if_pos c16] at H
              have c16b0 : decide (0 ≤ x11_1) = true := decide_eq_true c16
              clear c16
              obtain ⟨ji17, hji17⟩ : ∃ j_ : Int, (IntKind.u64.wrap (Int.tmod x11_1 8)) = j_ := ⟨_, rfl⟩
              replace H : (if 0 ≤ (ji17) then (scrimlaw6_DesParity.l0 k1 l2 a3 t497 (x10_1.set (x11_1 : Int).toNat (Go.bits .xor .u8 (rd x10_1 x11_1) (Go.bits .and .u8 (shr .u8 a3 (ji17)) 1))) (wrap64 (x11_1 + 1))) else (none)) = some r := by first | (rw [hji17] at H; exact H) | (simp only [hji17] at H ⊢; exact H)
              by_cases c18 : 0 ≤ (ji17)
              · rw [if_pos c18] at H
                have c18b0 := eq_true c18
                have c18b1 : decide (0 ≤ (ji17)) = true := decide_eq_true c18
                clear c18
                obtain ⟨ji19, hji19⟩ : ∃ j_ : Int, (shr .u8 a3 (ji17)) = j_ := ⟨_, rfl⟩
                replace H : (scrimlaw6_DesParity.l0 k1 l2 a3 t497 (x10_1.set (x11_1 : Int).toNat (Go.bits .xor .u8 (rd x10_1 x11_1) (Go.bits .and .u8 (ji19) 1))) (wrap64 (x11_1 + 1))) = some r := by first | (rw [hji19] at H; exact H) | (simp only [hji19] at H ⊢; exact H)
                have hji19_ : (a3 / 2 ^ min (ji17).toNat 8) = ji19 := hji19
                have hji19z : (ji17) ≤ 8 → (a3 / 2 ^ (ji17).toNat) = ji19 := shr_small hji19
                obtain ⟨y507, hy507⟩ : ∃ y_ : List Int, y_ = (x10_1.set (x11_1 : Int).toNat (Go.bits .xor .u8 (rd x10_1 x11_1) (Go.bits .and .u8 (ji19) 1))) := ⟨_, rfl⟩
                replace H : (scrimlaw6_DesParity.l0 k1 l2 a3 t497 y507 (wrap64 (x11_1 + 1))) = some r := by first | (rw [hy507]; with_reducible exact H) | (have H2_ := (Option.bind_some _ _).symm.trans H; rw [hy507]; with_reducible exact H2_) | (have H2_ := (Option.bind_some _ _).symm.trans H; with_reducible exact H2_) | with_reducible exact H | (rw [hy507]; exact H) | exact H
                have Ny507 := Aside0.mk hy507
                clear hy507
                have H' := Aside0.mk H
                clear H
                obtain ⟨Ao21, co21, eo21⟩ := Kd.R_slice HO_10.out
                subst eo21
                have p506 : 0 ≤ (x11_1 : Int) := of_decide_eq_true (by first | (with_reducible assumption) | assumption)
                have q506 : x11_1 < (x10_1.length : Int) := of_decide_eq_true (by first | (with_reducible assumption) | assumption)
                obtain ⟨ad506, e506, hx506_0⟩ := Kd.at_int (Kd.R_reads' HO_10.out).2.2 x11_1 p506 q506
                cases e506
                replace p506 := eq_true p506
                replace q506 := eq_true q506
                have p20 : 0 ≤ (x11_1 : Int) := of_decide_eq_true (by first | (with_reducible assumption) | assumption)
                have q20 : (x11_1 : Int) < ((x10_1.length : Int) : Int) := of_decide_eq_true (by first | (with_reducible assumption) | assumption)
                obtain ⟨go20, co20, eo20, gb20, gl20, cl20, HG20⟩ := Kd.R_form HO_10.out (by omega)
                (first | cases eo20 | (injection eo20 with ea_ en_ ec_; (first | subst ea_ | (injection ea_ with ea_; subst ea_)); subst ec_; clear en_))
                have GB20 := Aside0.mk gb20
                have GG20 := Aside0.mk HG20
                clear gb20 gl20 HG20
                (first | simp only [add_plain] at hx506_0 | skip)
                obtain ⟨hx20_0, hf20_0⟩ := Kd.R_celln 0 HO_10.out (x11_1 : Int) p20 q20
                replace p20 := eq_true p20
                replace q20 := eq_true q20
                have HP22 := Kd.R_putg HO_10.out (x11_1 : Int) (Go.bits .xor .u8 (rd x10_1 x11_1) (Go.bits .and .u8 (ji19) 1))
                go_wp2_with (first | ((with_reducible refine gate_store (t := 5) (p := 47) rfl ?_); refine store_event (t := 5) (p := 47) (v := ?vo_w23) (w1 := (wr.setCell ⟨go20, (x11_1 : Int).toNat, none⟩ (.int .u8 (Go.bits .xor .u8 (rd x10_1 x11_1) (Go.bits .and .u8 (ji19) 1))))) ?hg ?ho ?hn ?hr ?_; (case ho => rfl); (case hg => rfl); (case hn => rfl); (case hr => first | (go_simp; done) | (go_simp; rfl)); intro w23 hw; have hg : wr.grownBy w23 (some go20) := (by rw [hw]; exact HP22.2); have hp_ : Kd.R (Kd.int .u8) 5 w23 w.heap.size (fun k_ => some k_ ≠ (.slice Ao14 t497.length co14 : Value).ownBlock) (.slice (some ⟨go20, 0, none⟩) x10_1.length co21) y507 := (by rw [hw, Ny507.out]; exact HP22.1); clear HP22; have n0_ := Aside0.mk (Kd.R_after (v := (.slice (some ⟨go20, 0, none⟩) x10_1.length co21)) (v1 := (.slice (some ⟨go20, 0, none⟩) x10_1.length co21)) (ok := (fun _ => True)) (by (with_reducible repeat (first | apply Kd.R_alloc | apply Kd.R_drewN | apply Kd.R_drew)); exact Kd.R_mono HO_9.out (fun _ hk => ⟨trivial, hk⟩)) hg (.inl rfl)); have n1_ := Aside0.mk (hp_); have n2_ := Aside0.mk ((by rw [hw]; exact below_set (HB.out) GB20.out : Below w.heap.size w w23)); clear HO_9; clear HO_10; clear HB; have HO_9 := n0_; have HO_10 := n1_; have HB := n2_; clear n0_ n1_ n2_; clear hg hw hp_))
                go_roundg k1
                case measure => have := HK1.out; omega
                case rel => exact ⟨(y507), (wrap64 (x11_1 + 1)), (by first | rfl | (simp; done) | (simp [*]; done)), H', ⟨by have := HK1.out; omega⟩, ⟨by (with_reducible repeat (first | apply Kd.R_alloc | apply Kd.R_drewN | apply Kd.R_drew)); exact Kd.R_mono HO_9.out (fun _ hk => hk.2)⟩, ⟨by (with_reducible repeat (first | apply Kd.R_alloc | apply Kd.R_drewN | apply Kd.R_drew)); exact HO_10.out⟩, ⟨by repeat (first | (with_reducible first | exact HB.out | apply below_alloc | apply pw_below_drewN | apply below_drew1) | exact HB.out)⟩⟩
              · rw [if_neg c18] at H
                exact absurd H (by simp)
            · rw [if_neg c16] at H
              exact absurd H (by simp)
          · rw [if_neg c15] at H
            have c15b0 : decide (x11_1 < (x10_1.length : Int)) = false := decide_eq_false c15
            clear c15
            replace H := Option.bind_eq_some_iff.mp H
            obtain ⟨⟨t508, t509⟩, A240, H⟩ := H
            replace H : ((des_New.f k1 x10_1).bind fun bt512 => (if t509 = 0 then (if bt512.2 = 0 then (if t508 = [] then (none) else (if bt512.1 = [] then (none) else ((scrimlaw6_Bytes.f k1 8 l2).bind fun t516 => ((des_Des_Block.f k1 t508 t516 false).bind fun bt519 => ((scrimlaw6_Bytes.f k1 8 l2).bind fun t523 => ((des_Des_Block.f k1 bt512.1 t523 false).bind fun bt526 => (if (bt519.1.length : Int) = 8 then (some ((strOfNums bt519.1).toList == (strOfNums bt526.1).toList)) else (none)))))))) else (none)) else (none))) = some r := H
            have A24 := Aside0.mk A240
            clear A240
            replace H := Option.bind_eq_some_iff.mp H
            obtain ⟨⟨t512, t513⟩, A250, H⟩ := H
            replace H : (if t509 = 0 then (if t513 = 0 then (if t508 = [] then (none) else (if t512 = [] then (none) else ((scrimlaw6_Bytes.f k1 8 l2).bind fun t516 => ((des_Des_Block.f k1 t508 t516 false).bind fun bt519 => ((scrimlaw6_Bytes.f k1 8 l2).bind fun t523 => ((des_Des_Block.f k1 t512 t523 false).bind fun bt526 => (if (bt519.1.length : Int) = 8 then (some ((strOfNums bt519.1).toList == (strOfNums bt526.1).toList)) else (none)))))))) else (none)) else (none)) = some r := H
            have A25 := Aside0.mk A250
            clear A250
            by_cases c26 : t509 = 0
            · rw [if_pos c26] at H
              have c26b0 : (t509 == 0) = true := beq_iff_eq.mpr c26
              have c26b1 : (t509 != 0) = false := bne_eq_false_iff_eq.mpr c26
              clear c26
              by_cases c27 : t513 = 0
              · rw [if_pos c27] at H
                have c27b0 : (t513 == 0) = true := beq_iff_eq.mpr c27
                have c27b1 : (t513 != 0) = false := bne_eq_false_iff_eq.mpr c27
                clear c27
                by_cases c28 : t508 = []
                · rw [if_pos c28] at H
                  exact absurd H (by simp)
                · rw [if_neg c28] at H
                  have NN508 := Aside0.mk c28
                  clear c28
                  by_cases c29 : t512 = []
                  · rw [if_pos c29] at H
                    exact absurd H (by simp)
                  · rw [if_neg c29] at H
                    have NN512 := Aside0.mk c29
                    clear c29
                    replace H := Option.bind_eq_some_iff.mp H
                    obtain ⟨t516, A300, H⟩ := H
                    replace H : ((des_Des_Block.f k1 t508 t516 false).bind fun bt519 => ((scrimlaw6_Bytes.f k1 8 l2).bind fun t523 => ((des_Des_Block.f k1 t512 t523 false).bind fun bt526 => (if (bt519.1.length : Int) = 8 then (some ((strOfNums bt519.1).toList == (strOfNums bt526.1).toList)) else (none))))) = some r := H
                    have A30 := Aside0.mk A300
                    clear A300
                    replace H := Option.bind_eq_some_iff.mp H
                    obtain ⟨⟨t519, t520⟩, A310, H⟩ := H
                    replace H : ((scrimlaw6_Bytes.f k1 8 l2).bind fun t523 => ((des_Des_Block.f k1 t512 t523 false).bind fun bt526 => (if (t519.length : Int) = 8 then (some ((strOfNums t519).toList == (strOfNums bt526.1).toList)) else (none)))) = some r := H
                    have A31 := Aside0.mk A310
                    clear A310
                    replace H := Option.bind_eq_some_iff.mp H
                    obtain ⟨t523, A320, H⟩ := H
                    replace H : ((des_Des_Block.f k1 t512 t523 false).bind fun bt526 => (if (t519.length : Int) = 8 then (some ((strOfNums t519).toList == (strOfNums bt526.1).toList)) else (none))) = some r := H
                    have A32 := Aside0.mk A320
                    clear A320
                    replace H := Option.bind_eq_some_iff.mp H
                    obtain ⟨⟨t526, t527⟩, A330, H⟩ := H
                    replace H : (if (t519.length : Int) = 8 then (some ((strOfNums t519).toList == (strOfNums t526).toList)) else (none)) = some r := H
                    have A33 := Aside0.mk A330
                    clear A330
                    by_cases c34 : (t519.length : Int) = 8
                    · rw [if_pos c34] at H
                      have c34b0 : ((t519.length : Int) == 8) = true := beq_iff_eq.mpr c34
                      have c34b1 : ((t519.length : Int) != 8) = false := bne_eq_false_iff_eq.mpr c34
                      clear c34
                      obtain rfl := Option.some.inj H
                      obtain ⟨Ao35, co35, eo35⟩ := Kd.R_slice HO_10.out
                      subst eo35
                      go_wp2_with (first | ((with_reducible refine gate_callee (f := 18) rfl ?_); refine goesL_ (some 50) rfl rfl Try.func18 (by kernel_rfl) rfl #[.slice Ao14 t497.length co14] rfl (by (try simp only [List.map_toArray, List.map_cons, List.map_nil]); first | done | rfl | (simp only [List.length_drop, List.length_take]; rfl)) ?_; (with_reducible refine (des_New.calls k1 _ _ t497 t508 t509 _ ?side1 ?side2 A24.out).mono ?_); (case side1 => repeat (first | exact (Kd.R_reads' HO_9.out).2.2 | (with_reducible refine Kd.C_alloc ?_ _) | (with_reducible refine Kd.C_drewN ?_ _) | (with_reducible refine Kd.C_drew ?_))); (case side2 => exact (Kd.R_reads' HO_9.out).2.1); rintro e w36 ⟨v510, rfl, ho0, hb⟩; refine ⟨_, rfl, ?_⟩; have n0_ := Aside0.mk (Kd.R_below (by (with_reducible repeat (first | apply Kd.R_alloc | apply Kd.R_drewN | apply Kd.R_drew)); exact HO_9.out) hb); have n1_ := Aside0.mk (Kd.R_below (by (with_reducible repeat (first | apply Kd.R_alloc | apply Kd.R_drewN | apply Kd.R_drew)); exact HO_10.out) hb); have n2_ := Aside0.mk (Ptr.D_lower (Ptr.D_mono (ok' := fun k_ => some k_ ≠ (.slice Ao14 t497.length co14 : Value).ownBlock ∧ some k_ ≠ (.slice Ao35 x10_1.length co35 : Value).ownBlock) ho0 (fun k_ hk0_ => by have hk_ := And.intro trivial (And.intro hk0_ trivial); exact ⟨(Kd.fresh' (Kd.R_lt (by (with_reducible repeat (first | apply Kd.R_alloc | apply Kd.R_drewN | apply Kd.R_drew)); exact HO_9.out)) k_ hk_.2.1), (Kd.fresh' (Kd.R_lt (by (with_reducible repeat (first | apply Kd.R_alloc | apply Kd.R_drewN | apply Kd.R_drew)); exact HO_10.out)) k_ hk_.2.1)⟩)) (below_size (by repeat (first | (with_reducible first | exact HB.out | apply below_alloc | apply pw_below_drewN | apply below_drew1) | exact HB.out)))); have n3_ := Aside0.mk (below_step (by repeat (first | (with_reducible first | exact HB.out | apply below_alloc | apply pw_below_drewN | apply below_drew1) | exact HB.out)) hb); clear HO_9; clear HO_10; clear HB; have HO_9 := n0_; have HO_10 := n1_; have HO511 := n2_; have HB := n3_; clear n0_ n1_ n2_ n3_; (try clear hb); (try clear hb2); (try clear hk); (try clear hi); (try clear ho0); obtain ⟨gN508, AN508, cN508, eN508, _, _⟩ := Ptr.D_open HO511.out NN508.out; subst eN508) | ((with_reducible refine gate_callee (f := 18) rfl ?_); refine goesL_ (some 55) rfl rfl Try.func18 (by kernel_rfl) rfl #[.slice Ao35 x10_1.length co35] rfl (by (try simp only [List.map_toArray, List.map_cons, List.map_nil]); first | done | rfl | (simp only [List.length_drop, List.length_take]; rfl)) ?_; (with_reducible refine (des_New.calls k1 _ _ x10_1 t512 t513 _ ?side1 ?side2 A25.out).mono ?_); (case side1 => repeat (first | exact (Kd.R_reads' HO_10.out).2.2 | (with_reducible refine Kd.C_alloc ?_ _) | (with_reducible refine Kd.C_drewN ?_ _) | (with_reducible refine Kd.C_drew ?_))); (case side2 => exact (Kd.R_reads' HO_10.out).2.1); rintro e w37 ⟨v514, rfl, ho0, hb⟩; refine ⟨_, rfl, ?_⟩; have n0_ := Aside0.mk (Kd.R_below (by (with_reducible repeat (first | apply Kd.R_alloc | apply Kd.R_drewN | apply Kd.R_drew)); exact HO_9.out) hb); have n1_ := Aside0.mk (Kd.R_below (by (with_reducible repeat (first | apply Kd.R_alloc | apply Kd.R_drewN | apply Kd.R_drew)); exact HO_10.out) hb); have n2_ := Aside0.mk (Ptr.D_below (by (with_reducible repeat (first | apply Ptr.D_alloc | apply Ptr.D_drewN | apply Ptr.D_drew)); exact HO511.out) hb); have n3_ := Aside0.mk (Ptr.D_lower (Ptr.D_mono (ok' := fun k_ => some k_ ≠ (.slice Ao14 t497.length co14 : Value).ownBlock ∧ some k_ ≠ (.slice Ao35 x10_1.length co35 : Value).ownBlock) ho0 (fun k_ hk0_ => by have hk_ := And.intro trivial (And.intro hk0_ trivial); exact ⟨(Kd.fresh' (Kd.R_lt (by (with_reducible repeat (first | apply Kd.R_alloc | apply Kd.R_drewN | apply Kd.R_drew)); exact HO_9.out)) k_ hk_.2.1), (Kd.fresh' (Kd.R_lt (by (with_reducible repeat (first | apply Kd.R_alloc | apply Kd.R_drewN | apply Kd.R_drew)); exact HO_10.out)) k_ hk_.2.1)⟩)) (below_size (by repeat (first | (with_reducible first | exact HB.out | apply below_alloc | apply pw_below_drewN | apply below_drew1) | exact HB.out)))); have n4_ := Aside0.mk (below_step (by repeat (first | (with_reducible first | exact HB.out | apply below_alloc | apply pw_below_drewN | apply below_drew1) | exact HB.out)) hb); clear HO_9; clear HO_10; clear HO511; clear HB; have HO_9 := n0_; have HO_10 := n1_; have HO511 := n2_; have HO515 := n3_; have HB := n4_; clear n0_ n1_ n2_ n3_ n4_; (try clear hb); (try clear hb2); (try clear hk); (try clear hi); (try clear ho0); obtain ⟨gN512, AN512, cN512, eN512, _, _⟩ := Ptr.D_open HO515.out NN512.out; subst eN512) | ((with_reducible refine gate_callee (f := 12) rfl ?_); refine goesL_ (some 75) rfl rfl Try.func12 (by kernel_rfl) rfl #[.int .i64 8, .slice A2 l2.length c2] rfl (by (try simp only [List.map_toArray, List.map_cons, List.map_nil]); first | done | rfl | (simp only [List.length_drop, List.length_take]; rfl)) ?_; (with_reducible refine (scrimlaw6_Bytes.calls k1 8 _ _ l2 t516 _ ?side1 ?side2 A30.out).mono ?_); (case side1 => repeat (first | exact (Kd.C_below HR2.out HB.out) | (with_reducible refine Kd.C_alloc ?_ _) | (with_reducible refine Kd.C_drewN ?_ _) | (with_reducible refine Kd.C_drew ?_))); (case side2 => exact HC2.out); rintro e w38 ⟨v517, rfl, ho0, hb⟩; refine ⟨_, rfl, ?_⟩; have n0_ := Aside0.mk (Kd.R_elder' (by (with_reducible repeat (first | apply Kd.R_alloc | apply Kd.R_drewN | apply Kd.R_drew)); exact HO_9.out) (Kd.R_base ho0) hb); have n1_ := Aside0.mk (Kd.R_elder' (by (with_reducible repeat (first | apply Kd.R_alloc | apply Kd.R_drewN | apply Kd.R_drew)); exact HO_10.out) (Kd.R_base ho0) hb); have n2_ := Aside0.mk (Ptr.D_elder' (by (with_reducible repeat (first | apply Ptr.D_alloc | apply Ptr.D_drewN | apply Ptr.D_drew)); exact HO511.out) (Kd.R_base ho0) hb); have n3_ := Aside0.mk (Ptr.D_elder' (by (with_reducible repeat (first | apply Ptr.D_alloc | apply Ptr.D_drewN | apply Ptr.D_drew)); exact HO515.out) (Kd.R_base ho0) hb); have n4_ := Aside0.mk (Kd.R_lower (Kd.R_new' (Kd.R_new' ho0 (Kd.R_lt (by (with_reducible repeat (first | apply Kd.R_alloc | apply Kd.R_drewN | apply Kd.R_drew)); exact HO_9.out))) (Kd.R_lt (by (with_reducible repeat (first | apply Kd.R_alloc | apply Kd.R_drewN | apply Kd.R_drew)); exact HO_10.out))) (below_size (by repeat (first | (with_reducible first | exact HB.out | apply below_alloc | apply pw_below_drewN | apply below_drew1) | exact HB.out)))); have n5_ := Aside0.mk (below_step (by repeat (first | (with_reducible first | exact HB.out | apply below_alloc | apply pw_below_drewN | apply below_drew1) | exact HB.out)) hb); clear HO_9; clear HO_10; clear HO511; clear HO515; clear HB; have HO_9 := n0_; have HO_10 := n1_; have HO511 := n2_; have HO515 := n3_; have HO518 := n4_; have HB := n5_; clear n0_ n1_ n2_ n3_ n4_ n5_; (try clear hb); (try clear hb2); (try clear hk); (try clear hi); (try clear ho0); obtain ⟨Ao40, co40, eo40⟩ := Kd.R_slice HO518.out; subst eo40) | ((with_reducible refine gate_callee (f := 19) rfl ?_); refine goesL_ (some 76) rfl rfl Try.func19 (by kernel_rfl) rfl #[.pointer (some ⟨gN508, 0, none⟩), .slice Ao40 t516.length co40, .bool false] rfl (by (try simp only [List.map_toArray, List.map_cons, List.map_nil]); first | done | rfl | (simp only [List.length_drop, List.length_take]; rfl)) ?_; (with_reducible refine (des_Des_Block.calls k1 _ t508 _ _ t516 false t519 t520 _ ?side1 ?side3 ?side4 A31.out).mono ?_); (case side1 => apply Exists.intro; apply Exists.intro; (with_reducible repeat (first | apply Ptr.D_alloc | apply Ptr.D_drewN | apply Ptr.D_drew)); exact HO511.out); (case side3 => repeat (first | exact (Kd.R_reads' HO518.out).2.2 | (with_reducible refine Kd.C_alloc ?_ _) | (with_reducible refine Kd.C_drewN ?_ _) | (with_reducible refine Kd.C_drew ?_))); (case side4 => exact (Kd.R_reads' HO518.out).2.1); rintro e w41 ⟨v521, rfl, ho0, hb⟩; refine ⟨_, rfl, ?_⟩; have n0_ := Aside0.mk (Kd.R_below (by (with_reducible repeat (first | apply Kd.R_alloc | apply Kd.R_drewN | apply Kd.R_drew)); exact HO_9.out) hb); have n1_ := Aside0.mk (Kd.R_below (by (with_reducible repeat (first | apply Kd.R_alloc | apply Kd.R_drewN | apply Kd.R_drew)); exact HO_10.out) hb); have n2_ := Aside0.mk (Ptr.D_below (by (with_reducible repeat (first | apply Ptr.D_alloc | apply Ptr.D_drewN | apply Ptr.D_drew)); exact HO511.out) hb); have n3_ := Aside0.mk (Ptr.D_below (by (with_reducible repeat (first | apply Ptr.D_alloc | apply Ptr.D_drewN | apply Ptr.D_drew)); exact HO515.out) hb); have n4_ := Aside0.mk (Kd.R_below (by (with_reducible repeat (first | apply Kd.R_alloc | apply Kd.R_drewN | apply Kd.R_drew)); exact HO518.out) hb); have n5_ := Aside0.mk (Kd.V_lower (Kd.V_mono (ok' := fun k_ => some k_ ≠ (.slice Ao14 t497.length co14 : Value).ownBlock ∧ some k_ ≠ (.slice Ao35 x10_1.length co35 : Value).ownBlock ∧ some k_ ≠ (.slice Ao40 t516.length co40 : Value).ownBlock) ho0 (fun k_ hk0_ => by have hk_ := And.intro trivial (And.intro hk0_ trivial); exact ⟨(Kd.fresh' (Kd.R_lt (by (with_reducible repeat (first | apply Kd.R_alloc | apply Kd.R_drewN | apply Kd.R_drew)); exact HO_9.out)) k_ hk_.2.1), (Kd.fresh' (Kd.R_lt (by (with_reducible repeat (first | apply Kd.R_alloc | apply Kd.R_drewN | apply Kd.R_drew)); exact HO_10.out)) k_ hk_.2.1), (Kd.fresh' (Kd.R_lt (by (with_reducible repeat (first | apply Kd.R_alloc | apply Kd.R_drewN | apply Kd.R_drew)); exact HO518.out)) k_ hk_.2.1)⟩)) (below_size (by repeat (first | (with_reducible first | exact HB.out | apply below_alloc | apply pw_below_drewN | apply below_drew1) | exact HB.out)))); have n6_ := Aside0.mk (below_step (by repeat (first | (with_reducible first | exact HB.out | apply below_alloc | apply pw_below_drewN | apply below_drew1) | exact HB.out)) hb); clear HO_9; clear HO_10; clear HO511; clear HO515; clear HO518; clear HB; have HO_9 := n0_; have HO_10 := n1_; have HO511 := n2_; have HO515 := n3_; have HO518 := n4_; have HO522 := n5_; have HB := n6_; clear n0_ n1_ n2_ n3_ n4_ n5_ n6_; (try clear hb); (try clear hb2); (try clear hk); (try clear hi); (try clear ho0)) | ((with_reducible refine gate_callee (f := 12) rfl ?_); refine goesL_ (some 82) rfl rfl Try.func12 (by kernel_rfl) rfl #[.int .i64 8, .slice A2 l2.length c2] rfl (by (try simp only [List.map_toArray, List.map_cons, List.map_nil]); first | done | rfl | (simp only [List.length_drop, List.length_take]; rfl)) ?_; (with_reducible refine (scrimlaw6_Bytes.calls k1 8 _ _ l2 t523 _ ?side1 ?side2 A32.out).mono ?_); (case side1 => repeat (first | exact (Kd.C_below HR2.out HB.out) | (with_reducible refine Kd.C_alloc ?_ _) | (with_reducible refine Kd.C_drewN ?_ _) | (with_reducible refine Kd.C_drew ?_))); (case side2 => exact HC2.out); rintro e w42 ⟨v524, rfl, ho0, hb⟩; refine ⟨_, rfl, ?_⟩; have n0_ := Aside0.mk (Kd.R_elder' (by (with_reducible repeat (first | apply Kd.R_alloc | apply Kd.R_drewN | apply Kd.R_drew)); exact HO_9.out) (Kd.R_base ho0) hb); have n1_ := Aside0.mk (Kd.R_elder' (by (with_reducible repeat (first | apply Kd.R_alloc | apply Kd.R_drewN | apply Kd.R_drew)); exact HO_10.out) (Kd.R_base ho0) hb); have n2_ := Aside0.mk (Ptr.D_elder' (by (with_reducible repeat (first | apply Ptr.D_alloc | apply Ptr.D_drewN | apply Ptr.D_drew)); exact HO511.out) (Kd.R_base ho0) hb); have n3_ := Aside0.mk (Ptr.D_elder' (by (with_reducible repeat (first | apply Ptr.D_alloc | apply Ptr.D_drewN | apply Ptr.D_drew)); exact HO515.out) (Kd.R_base ho0) hb); have n4_ := Aside0.mk (Kd.R_elder' (by (with_reducible repeat (first | apply Kd.R_alloc | apply Kd.R_drewN | apply Kd.R_drew)); exact HO518.out) (Kd.R_base ho0) hb); have n5_ := Aside0.mk (Kd.V_elder' (by (with_reducible repeat (first | apply Kd.V_alloc | apply Kd.V_drewN | apply Kd.V_drew)); exact HO522.out) (Kd.R_base ho0) hb); have n6_ := Aside0.mk (Kd.R_lower (Kd.R_new' (Kd.R_new' (Kd.R_new' ho0 (Kd.R_lt (by (with_reducible repeat (first | apply Kd.R_alloc | apply Kd.R_drewN | apply Kd.R_drew)); exact HO_9.out))) (Kd.R_lt (by (with_reducible repeat (first | apply Kd.R_alloc | apply Kd.R_drewN | apply Kd.R_drew)); exact HO_10.out))) (Kd.R_lt (by (with_reducible repeat (first | apply Kd.R_alloc | apply Kd.R_drewN | apply Kd.R_drew)); exact HO518.out))) (below_size (by repeat (first | (with_reducible first | exact HB.out | apply below_alloc | apply pw_below_drewN | apply below_drew1) | exact HB.out)))); have n7_ := Aside0.mk (below_step (by repeat (first | (with_reducible first | exact HB.out | apply below_alloc | apply pw_below_drewN | apply below_drew1) | exact HB.out)) hb); clear HO_9; clear HO_10; clear HO511; clear HO515; clear HO518; clear HO522; clear HB; have HO_9 := n0_; have HO_10 := n1_; have HO511 := n2_; have HO515 := n3_; have HO518 := n4_; have HO522 := n5_; have HO525 := n6_; have HB := n7_; clear n0_ n1_ n2_ n3_ n4_ n5_ n6_ n7_; (try clear hb); (try clear hb2); (try clear hk); (try clear hi); (try clear ho0); obtain ⟨Ao44, co44, eo44⟩ := Kd.R_slice HO525.out; subst eo44) | ((with_reducible refine gate_callee (f := 19) rfl ?_); refine goesL_ (some 83) rfl rfl Try.func19 (by kernel_rfl) rfl #[.pointer (some ⟨gN512, 0, none⟩), .slice Ao44 t523.length co44, .bool false] rfl (by (try simp only [List.map_toArray, List.map_cons, List.map_nil]); first | done | rfl | (simp only [List.length_drop, List.length_take]; rfl)) ?_; (with_reducible refine (des_Des_Block.calls k1 _ t512 _ _ t523 false t526 t527 _ ?side1 ?side3 ?side4 A33.out).mono ?_); (case side1 => apply Exists.intro; apply Exists.intro; (with_reducible repeat (first | apply Ptr.D_alloc | apply Ptr.D_drewN | apply Ptr.D_drew)); exact HO515.out); (case side3 => repeat (first | exact (Kd.R_reads' HO525.out).2.2 | (with_reducible refine Kd.C_alloc ?_ _) | (with_reducible refine Kd.C_drewN ?_ _) | (with_reducible refine Kd.C_drew ?_))); (case side4 => exact (Kd.R_reads' HO525.out).2.1); rintro e w45 ⟨v528, rfl, ho0, hb⟩; refine ⟨_, rfl, ?_⟩; have n0_ := Aside0.mk (Kd.R_below (by (with_reducible repeat (first | apply Kd.R_alloc | apply Kd.R_drewN | apply Kd.R_drew)); exact HO_9.out) hb); have n1_ := Aside0.mk (Kd.R_below (by (with_reducible repeat (first | apply Kd.R_alloc | apply Kd.R_drewN | apply Kd.R_drew)); exact HO_10.out) hb); have n2_ := Aside0.mk (Ptr.D_below (by (with_reducible repeat (first | apply Ptr.D_alloc | apply Ptr.D_drewN | apply Ptr.D_drew)); exact HO511.out) hb); have n3_ := Aside0.mk (Ptr.D_below (by (with_reducible repeat (first | apply Ptr.D_alloc | apply Ptr.D_drewN | apply Ptr.D_drew)); exact HO515.out) hb); have n4_ := Aside0.mk (Kd.R_below (by (with_reducible repeat (first | apply Kd.R_alloc | apply Kd.R_drewN | apply Kd.R_drew)); exact HO518.out) hb); have n5_ := Aside0.mk (Kd.V_below (by (with_reducible repeat (first | apply Kd.V_alloc | apply Kd.V_drewN | apply Kd.V_drew)); exact HO522.out) hb); have n6_ := Aside0.mk (Kd.R_below (by (with_reducible repeat (first | apply Kd.R_alloc | apply Kd.R_drewN | apply Kd.R_drew)); exact HO525.out) hb); have n7_ := Aside0.mk (Kd.V_lower (Kd.V_mono (ok' := fun k_ => some k_ ≠ (.slice Ao14 t497.length co14 : Value).ownBlock ∧ some k_ ≠ (.slice Ao35 x10_1.length co35 : Value).ownBlock ∧ some k_ ≠ (.slice Ao40 t516.length co40 : Value).ownBlock ∧ some k_ ≠ (.slice Ao44 t523.length co44 : Value).ownBlock) ho0 (fun k_ hk0_ => by have hk_ := And.intro trivial (And.intro hk0_ trivial); exact ⟨(Kd.fresh' (Kd.R_lt (by (with_reducible repeat (first | apply Kd.R_alloc | apply Kd.R_drewN | apply Kd.R_drew)); exact HO_9.out)) k_ hk_.2.1), (Kd.fresh' (Kd.R_lt (by (with_reducible repeat (first | apply Kd.R_alloc | apply Kd.R_drewN | apply Kd.R_drew)); exact HO_10.out)) k_ hk_.2.1), (Kd.fresh' (Kd.R_lt (by (with_reducible repeat (first | apply Kd.R_alloc | apply Kd.R_drewN | apply Kd.R_drew)); exact HO518.out)) k_ hk_.2.1), (Kd.fresh' (Kd.R_lt (by (with_reducible repeat (first | apply Kd.R_alloc | apply Kd.R_drewN | apply Kd.R_drew)); exact HO525.out)) k_ hk_.2.1)⟩)) (below_size (by repeat (first | (with_reducible first | exact HB.out | apply below_alloc | apply pw_below_drewN | apply below_drew1) | exact HB.out)))); have n8_ := Aside0.mk (below_step (by repeat (first | (with_reducible first | exact HB.out | apply below_alloc | apply pw_below_drewN | apply below_drew1) | exact HB.out)) hb); clear HO_9; clear HO_10; clear HO511; clear HO515; clear HO518; clear HO522; clear HO525; clear HB; have HO_9 := n0_; have HO_10 := n1_; have HO511 := n2_; have HO515 := n3_; have HO518 := n4_; have HO522 := n5_; have HO525 := n6_; have HO529 := n7_; have HB := n8_; clear n0_ n1_ n2_ n3_ n4_ n5_ n6_ n7_ n8_; (try clear hb); (try clear hb2); (try clear hk); (try clear hi); (try clear ho0); obtain ⟨Ao46, co46, eo46⟩ := Kd.V_slice HO522.out; subst eo46; have hcv47 := Kd.C_string (P := Try.prog) (A := Ao46) (c := co46) Try.underlying22 Try.underlying5 Try.underlying9 (Kd.V_reads' HO522.out).2.2; obtain ⟨Ax529, cx529, ex529⟩ := Kd.V_slice HO529.out; subst ex529; have hcv48 := Kd.C_string (P := Try.prog) (A := Ax529) (c := cx529) Try.underlying22 Try.underlying5 Try.underlying9 (Kd.V_reads' HO529.out).2.2))
                      go_ret
                      exact ⟨by first | rfl | (simp [errW_none, errW_some] <;> rfl) | (simp [*, errW_none, errW_some] <;> rfl), by repeat (first | (with_reducible first | exact HB.out | apply below_alloc | apply pw_below_drewN | apply below_drew1) | exact HB.out)⟩
                    · rw [if_neg c34] at H
                      exact absurd H (by simp)
              · rw [if_neg c27] at H
                exact absurd H (by simp)
            · rw [if_neg c26] at H
              exact absurd H (by simp)
    · rw [if_neg c8] at H
      exact absurd H (by simp)
  · replace c6 := Bool.eq_false_iff.mpr c6
    subst c6
    have H1 : (none) = some r := by rw [if_neg (show ¬ (false = true) by decide)] at H; exact H
    clear H
    have H := H1
    clear H1
    exact absurd H (by simp)

/-- THE ONE PURE STATEMENT of scrimlaw6_DesParity: yours. -/
def scrimlaw6_DesParity.Pure : Prop := ∀ (l0 : List Int) (a1 : Int) (l2 : List Int) (a3 : Int), l0.length ≤ maxLen → l0.length * 1 ≤ 140737488351232 → (∀ x ∈ l0, (Lit.int .u8 x).wf = true) → (Lit.int .i64 a1).wf = true → l2.length ≤ maxLen → l2.length * 1 ≤ 140737488351232 → (∀ x ∈ l2, (Lit.int .u8 x).wf = true) → (Lit.int .u8 a3).wf = true → ∃ k, scrimlaw6_DesParity.f k l0 a1 l2 a3 = some true
theorem scrimlaw6_DesParity.walk (P : scrimlaw6_DesParity.Pure) (a0 : Option Addr) (len0 cap0 : Nat) (z0 : List Int) (a1 : Int) (a2 : Option Addr) (len2 cap2 : Nat) (z2 : List Int) (a3 : Int) (w : World) (w0 : (a0 = none ∧ len0 = 0 ∧ cap0 = 0 ∧ z0 = []) ∨ ∃ x, a0 = some x ∧ len0 ≤ cap0 ∧ cap0 ≤ maxLen ∧ z0.length = cap0 ∧ (∀ i, i < z0.length → w.cell? (x.add i) = some (.int .u8 (z0.getD i 0))) ∧ ∀ n ∈ z0, (Lit.int .u8 n).wf = true) (y0 : len0 * 1 ≤ 140737488351232) (w1 : (Lit.int .i64 a1).wf = true) (w2 : (a2 = none ∧ len2 = 0 ∧ cap2 = 0 ∧ z2 = []) ∨ ∃ x, a2 = some x ∧ len2 ≤ cap2 ∧ cap2 ≤ maxLen ∧ z2.length = cap2 ∧ (∀ i, i < z2.length → w.cell? (x.add i) = some (.int .u8 (z2.getD i 0))) ∧ ∀ n ∈ z2, (Lit.int .u8 n).wf = true) (y2 : len2 * 1 ≤ 140737488351232) (w3 : (Lit.int .u8 a3).wf = true) :
    Calls Try.prog 4 #[.slice a0 len0 cap0, .int .i64 a1, .slice a2 len2 cap2, .int .u8 a3] w fun e w' => e = .returned (.bool true) ∧ Below w.heap.size w w' := by
  obtain ⟨l0, rfl, hr0, hm0, hw0, hc0⟩ := ReadsInt.ofRowC w0
  obtain ⟨l2, rfl, hr2, hm2, hw2, hc2⟩ := ReadsInt.ofRowC w2
  obtain ⟨k, h⟩ := P l0 a1 l2 a3 hm0 y0 hw0 w1 hm2 y2 hw2 w3
  refine (scrimlaw6_DesParity.calls k _ _ l0 a1 _ _ l2 a3 true w (Kd.C_of_reads (d := (0 : Int)) (h1 := fun _ => rfl) hr0) hc0 (Kd.C_of_reads (d := (0 : Int)) (h1 := fun _ => rfl) hr2) hc2 h).mono ?_
  rintro e w' ⟨rfl, hd⟩
  exact ⟨rfl, hd⟩

end Go.Proofs.Ytnbopkmhakfmmaa.MDes
