/- A walk: each Go function that is named here answers what its plain function answers. Conditions: its arguments are read as lists and numbers. -/
import Derived.Test.YtnbopkmhakfmmaaMDesx0
import Derived.Test.YtnbopkmhakfmmaaMDesc
import Derived.Test.YtnbopkmhakfmmaaMDesf
namespace Go.Proofs.Ytnbopkmhakfmmaa.MDes
open Go.RowKit Go.Proofs.YtnbopkmhakfmmaaW.PrintWords Go.Proofs.YtnbopkmhakfmmaaW.PrintLast Go.Proofs.YtnbopkmhakfmmaaW.PrintMore
attribute [local go_sem] max2_int min2_int max_two min_two max_three min_three max_four min_four   -- for this text's walks alone
set_option linter.unusedVariables false
set_option linter.unusedSimpArgs false

/-! ### des_Des_Block: function 19 -/
/-- The keys of the i-th time. -/
def des_Des_Block.key (x0 : List (List (List Int))) (back : Bool) (i : Nat) : Option (List (List Int)) :=
  let ks := if back = true then x0.getD (x0.length - 1 - i) [] else x0.getD i []
  if ks = [] then none else if ks.length < 5864062014805 then some (if back != decide (i = 1) then ks.reverse else ks) else none
def des_Des_Block.go (k : Nat) (x0 : List (List (List Int))) (back : Bool) : Nat → Nat → List Int → Option (List Int)
  | 0, _, b => some b
  | d + 1, i, b => (des_Des_Block.key x0 back i).bind fun ks => (des_once.f k b ks).bind fun b' => des_Des_Block.go k x0 back d (i + 1) b'
def des_Des_Block.f (k : Nat) (l0 : List (List (List Int))) (l1 : List Int) (a2 : Bool) : Option (List Int × Int) :=
  if l1.length = 8 then (if l0 = [] then none else (des_Des_Block.go k l0 a2 l0.length 0 l1).bind fun b => some (b, 0)) else some ([], 1)
theorem des_Des_Block.mono_l (k : Nat) (x0 : List (List (List Int))) (back : Bool) : ∀ d i b, LeO (des_Des_Block.go k x0 back d i b) (des_Des_Block.go (k + 1) x0 back d i b)
  | 0, _, _ => LeO.refl _
  | d + 1, i, b => by
    unfold des_Des_Block.go
    exact LeO.bind (LeO.refl _) (fun _ => LeO.bind (des_once.mono _ _ _) (fun _ => des_Des_Block.mono_l k x0 back d _ _))
theorem des_Des_Block.mono : ∀ a0 a1 a2 k, LeO (des_Des_Block.f k a0 a1 a2) (des_Des_Block.f (k + 1) a0 a1 a2) := by
  intro a0 a1 a2 k
  unfold des_Des_Block.f
  split
  · split
    · exact LeO.refl _
    · exact LeO.bind (des_Des_Block.mono_l k a0 a2 _ _ _) (fun _ => LeO.refl _)
  · exact LeO.refl _
theorem des_Des_Block.opened {w : World} {base : Nat} {ok : Nat → Prop} {v : Value} {l0 : List (List (List Int))} (h : Ptr.D (Kd.slice 22 (Kd.slice 5 (Kd.int .u8))) 24 w base ok v l0) (hne : l0 ≠ []) :
    ∃ (g : Nat) (ad : Addr) (c : Nat), v = .pointer (some ⟨g, 0, none⟩) ∧ l0.length ≤ 9223372036854775807 ∧ ∀ wr, Below w.heap.size w wr → wr.cell? ⟨g, 0, none⟩ = some (.slice (some ad) l0.length c) ∧
      ∀ i, i < l0.length → ∃ Ai ci, wr.cell? (ad.add i) = some (.slice Ai (l0.getD i []).length ci) ∧ (l0.getD i []).length ≤ ci ∧ Kd.F (Kd.slice 5 (Kd.int .u8)) wr ok Ai (l0.getD i []).length (l0.getD i []) := by
  obtain ⟨g, A, c, hv, hb, hV⟩ := Ptr.D_open h hne
  have hpos : 0 < l0.length := List.length_pos_iff.2 hne
  obtain ⟨_, _, hC⟩ := Kd.V_reads' hV
  obtain ⟨ad, rfl, _⟩ := hC.2.2 hpos
  refine ⟨g, ad, c, hv, hC.2.1, fun wr hB => ⟨?_, fun i hi => ?_⟩⟩
  · exact (blk_cell (blk_below hb hB) 0).trans rfl
  · have hV' := Kd.V_below hV hB
    obtain ⟨cc, hl, hf, hcell⟩ := Kd.V_get hV' [] (i : Int) (by omega) (by omega)
    obtain ⟨ua, uc, e, ul, hF⟩ := Kd.FK_slice_open hf
    subst e
    have hq := hcell 0 _ rfl
    rw [show (Kd.slice 22 (Kd.slice 5 (Kd.int .u8))).sz = 1 from rfl, Int.toNat_natCast, Nat.mul_one, Nat.add_zero] at hq
    (try rw [Int.toNat_natCast] at ul)
    (try rw [Int.toNat_natCast] at hF)
    exact ⟨ua, uc, hq, ul, hF⟩
theorem des_Des_Block.after0 {w w1 w2 : World} {g : Nat} (hb : Below w.heap.size w w1) (hg : w1.grownBy w2 (some g)) (hge : w.heap.size ≤ g) : Below w.heap.size w w2 :=
  hb.grown hg (below_size hb) (fun k hk => by injection hk with hk; omega)
theorem des_Des_Block.after2 {w0 w w1 w2 : World} {g : Nat} (h0 : Below w0.heap.size w0 w) (hb : Below w.heap.size w w1) (hg : w1.grownBy w2 (some g)) (hge : w.heap.size ≤ g) : Below w0.heap.size w0 w2 :=
  below_step h0 (des_Des_Block.after0 hb hg hge)
theorem des_Des_Block.after {w w1 w2 : World} {g n : Nat} {A : Option Addr} {b : List Int} (h : Kd.C (Kd.int .u8) w A n b) (hb : Below w.heap.size w w1) (hg : w1.grownBy w2 (some g)) (hge : w.heap.size ≤ g) : Kd.C (Kd.int .u8) w2 A n b :=
  Kd.C_below h (des_Des_Block.after0 hb hg hge)
theorem des_Des_Block.head {e base n c : Nat} {ok : Nat → Prop} {w : World} {A : Option Addr} {xs : List (List Int)} (h : Kd.N (Kd.slice 5 (Kd.int .u8)) e w base ok (.slice A n c) xs) (hp : xs ≠ []) : ∃ g, A = some ⟨g, 0, none⟩ ∧ base ≤ g := by
  have hl := List.length_pos_iff.2 hp
  obtain ⟨ad, rfl, _⟩ := (Kd.N_reads' h).2.2.2.2 hl
  have hb := Kd.N_base h
  obtain ⟨_, rows, _, hR, _⟩ := h
  obtain ⟨g, rfl⟩ := Kd.R_head hR
  exact ⟨g, rfl, hb g (by simp [Value.ownBlock])⟩
set_option maxHeartbeats 8000000 in
set_option maxRecDepth 100000 in
theorem des_Des_Block.calls (k : Nat) (v0 : Value) (l0 : List (List (List Int))) (A1 : Option Addr) (c1 : Nat) (l1 : List Int) (a2 : Bool) (r1 : List Int) (r2 : Int) (w : World) (hD : ∃ (base : Nat) (ok : Nat → Prop), Ptr.D (Kd.slice 22 (Kd.slice 5 (Kd.int .u8))) 24 w base ok v0 l0) (hr1 : Kd.C (Kd.int .u8) w A1 l1.length l1) (hc1 : l1.length ≤ c1) (h : des_Des_Block.f k l0 l1 a2 = some (r1, r2)) :
    Calls Try.prog 19 #[v0, .slice A1 l1.length c1, .bool a2] w fun e w' => ∃ v0_ : Value, e = .returned (.tuple #[v0_, .int .i64 r2]) ∧ Kd.V (Kd.int .u8) 5 w' w.heap.size (fun k_ => (w.heap.size ≤ k_)) v0_ r1 ∧ Below w.heap.size w w' := by
  obtain ⟨base, ok, hD⟩ := hD
  have HR1 := Aside0.mk hr1
  have HC1 := Aside0.mk hc1
  have hm1 := hr1.2.1
  clear hr1 hc1
  have HB := Aside0.mk (Below.refl w.heap.size w)
  unfold des_Des_Block.f at h
  by_cases h8 : l1.length = 8
  · rw [if_pos h8] at h
    have h8b : ((l1.length : Int) != 8) = false := by rw [h8]; rfl
    have H8 := Aside0.mk h8
    clear h8
    by_cases hne : l0 = []
    · rw [if_pos hne] at h; cases h
    rw [if_neg hne] at h
    obtain ⟨g, ad, c, rfl, hm0, hO⟩ := des_Des_Block.opened hD hne
    have HO := Aside0.mk hO
    have hpos : 0 < l0.length := List.length_pos_iff.2 hne
    have HH := Aside0.mk h
    clear hO hD h hne
    obtain ⟨hcell0, _⟩ := HO.out w HB.out
    go_enter Try.func19, Try.ntmps19
    go_wp2
    clear hcell0
    go_loopg [1, 19] l0.length (fun kq v1 v19 wr => ∃ (i : Nat) (b : List Int) (A : Option Addr) (cb : Nat), v1 = .slice A b.length cb ∧ v19 = .int .i64 i ∧ i ≤ l0.length ∧ l0.length - i ≤ kq ∧ Aside0 (b.length ≤ cb) ∧ Aside0 (Kd.C (Kd.int .u8) wr A b.length b) ∧
      Aside0 (i = 0 ∨ Kd.V (Kd.int .u8) 5 wr w.heap.size (fun k_ => (w.heap.size ≤ k_)) (.slice A b.length cb) b) ∧ Aside0 (Below w.heap.size w wr) ∧ Aside0 (des_Des_Block.go k l0 a2 (l0.length - i) i b = some r1 ∧ r2 = 0))
    case atStart =>
      refine ⟨0, l1, A1, c1, rfl, rfl, by omega, by omega, HC1, HR1, ⟨.inl rfl⟩, HB, ⟨?_⟩⟩
      have h := HH.out
      cases e : des_Des_Block.go k l0 a2 l0.length 0 l1 with
      | none => rw [e] at h; cases h
      | some b => rw [e] at h; simp only [Option.bind_some, Option.some.injEq, Prod.mk.injEq] at h; exact ⟨congrArg some h.1, h.2.symm⟩
    case round =>
      obtain ⟨i, b, A, cb, rfl, rfl, hi, hk, HCB, HRB, HVB, HB1, HGO⟩ := hrel
      by_cases hlt : i < l0.length
      · have hd : l0.length - i = (l0.length - (i + 1)) + 1 := by omega
        have hgo := HGO.out
        rw [hd] at hgo
        unfold des_Des_Block.go at hgo
        obtain ⟨ks, hks, hgo1⟩ : ∃ ks, des_Des_Block.key l0 a2 i = some ks ∧ ((des_once.f k b ks).bind fun b' => des_Des_Block.go k l0 a2 (l0.length - (i + 1)) (i + 1) b') = some r1 := by
          cases e : des_Des_Block.key l0 a2 i with
          | none => rw [e] at hgo; cases hgo.1
          | some ks => rw [e] at hgo; exact ⟨ks, rfl, hgo.1⟩
        obtain ⟨b', hb', hgo2⟩ : ∃ b', des_once.f k b ks = some b' ∧ des_Des_Block.go k l0 a2 (l0.length - (i + 1)) (i + 1) b' = some r1 := by
          cases e : des_once.f k b ks with
          | none => rw [e] at hgo1; cases hgo1
          | some b' => rw [e] at hgo1; exact ⟨b', rfl, hgo1⟩
        obtain ⟨hcell, hrow⟩ := HO.out wr HB1.out
        have HKS := Aside0.mk hks
        have HONCE := Aside0.mk hb'
        have HGO2 := Aside0.mk (And.intro hgo2 hgo.2)
        have HROW := Aside0.mk hrow
        have HK := Aside0.mk hk
        clear hks hb' hgo2 hgo1 hgo HGO hd hrow hk
        have hil : (i : Int) < (l0.length : Int) := by omega
        cases a2 with
        | false =>
          have hks := HKS.out
          unfold des_Des_Block.key at hks
          simp only [Bool.false_eq_true, if_false] at hks

          obtain ⟨ks0, e0⟩ : ∃ z, z = l0.getD i [] := ⟨_, rfl⟩
          rw [← e0] at hks
          obtain ⟨Ai, ci, hci, hli, hFi⟩ := HROW.out i hlt
          rw [← e0] at hci hli hFi
          have HE0 := Aside0.mk e0
          clear e0
          have HFI := Aside0.mk hFi
          have HLI := Aside0.mk hli
          have HM0 := Aside0.mk (Kd.F_max hFi)
          have HCI := Aside0.mk (Kd.F_now hFi)
          clear hFi hli
          by_cases hnil : ks0 = []
          · rw [if_pos hnil] at hks; cases hks
          rw [if_neg hnil] at hks
          by_cases hlim : ks0.length < 5864062014805
          rotate_left
          · rw [if_neg hlim] at hks; cases hks
          rw [if_pos hlim] at hks
          have HNE := Aside0.mk hnil
          have HF0 := Aside0.mk (show slices_Clone_byte_byte.f ks0 = some ks0 by unfold slices_Clone_byte_byte.f; rw [if_pos hlim])
          have HRV := Aside0.mk (show slices_Reverse_byte_byte.f ks0 = some ks0.reverse by unfold slices_Reverse_byte_byte.f; rw [if_neg hnil])
          clear hnil hlim
          have hks := Option.some.inj hks
          by_cases h1 : i = 1
          · have h1b : (((i : Nat) : Int) == 1) = true := by rw [h1]; rfl
            have H1 := Aside0.mk h1
            rw [if_pos (by rw [h1]; rfl)] at hks
            subst hks
            clear h1
            go_wp2_with (first | (go_at_call 40; (with_reducible refine (slices_Clone_byte_byte.calls Ai ci ks0 ks0 _ HFI.out HLI.out HF0.out).mono ?_); rintro e w1 ⟨vC, rfl, hoC, hbC⟩; have HN := Aside0.mk hoC; have HR2 := Aside0.mk (Kd.C_below HRB.out hbC); have HB2 := Aside0.mk (below_step HB1.out hbC); have HBC := Aside0.mk hbC; clear hoC hbC; obtain ⟨AC, cC, eC⟩ := Kd.N_slice HN.out; subst eC; obtain ⟨gC, eg, hgC⟩ := des_Des_Block.head HN.out HNE.out; subst eg; have HGC := Aside0.mk hgC; clear hgC) | (go_at_call 41; (with_reducible refine (slices_Reverse_byte_byte.calls gC cC ks0 ks0.reverse _ HN.out HM0.out HRV.out).mono ?_); rintro e w2 ⟨rfl, hoR, hgR⟩; have HR3 := Aside0.mk (des_Des_Block.after HRB.out HBC.out hgR HGC.out); have HB3 := Aside0.mk (des_Des_Block.after2 HB1.out HBC.out hgR HGC.out); have HC3 := Aside0.mk (Kd.N_reads' hoR); clear hoR hgR) | (go_at_call 42; refine calls_of_args (args' := #[.slice A b.length cb, .slice (some ⟨gC, 0, none⟩) ks0.reverse.length cC]) (by rw [List.length_reverse]) ?_; (with_reducible refine (des_once.calls k A cb b (some ⟨gC, 0, none⟩) cC ks0.reverse b' _ HR3.out HCB.out ?c1 ?c2 HONCE.out).mono ?_); (case c1 => exact HC3.out.2.2); (case c2 => have hq := HC3.out; rw [List.length_reverse]; exact hq.2.1); rintro e w4 ⟨vO, rfl, hoO, hbO⟩; have HV4 := Aside0.mk (Kd.V_mono hoO (ok' := fun k_ => w.heap.size ≤ k_) (fun k_ hk => Nat.le_trans (below_size HB3.out) hk)); have HB4 := Aside0.mk (below_step HB3.out hbO); clear hoO hbO; obtain ⟨AO, cO, eO⟩ := Kd.V_slice HV4.out; subst eO))
            have hr4 := Kd.V_reads' HV4.out
            have HR4 := Aside0.mk hr4.2.2
            have HL4 := Aside0.mk hr4.2.1
            clear hr4
            have HK' := HK.out
            go_roundg (l0.length - (i + 1))
            case measure => omega
            case rel => exact ⟨i + 1, b', AO, cO, rfl, by simp, by omega, by omega, HL4, HR4, ⟨.inr HV4.out⟩, HB4, HGO2⟩
          · have h1b : (((i : Nat) : Int) == 1) = false := beq_eq_false_iff_ne.2 (by omega)
            rw [if_neg (by simp [h1])] at hks
            subst hks
            have H1 := Aside0.mk h1
            clear h1
            go_wp2_with (first | (go_at_call 42; (with_reducible refine (des_once.calls k A cb b Ai ci ks0 b' _ HRB.out HCB.out ?c1 ?c2 HONCE.out).mono ?_); (case c1 => exact HCI.out); (case c2 => exact HLI.out); rintro e w4 ⟨vO, rfl, hoO, hbO⟩; have HV4 := Aside0.mk (Kd.V_mono hoO (ok' := fun k_ => w.heap.size ≤ k_) (fun k_ hk => Nat.le_trans (below_size HB1.out) hk)); have HB4 := Aside0.mk (below_step HB1.out hbO); clear hoO hbO; obtain ⟨AO, cO, eO⟩ := Kd.V_slice HV4.out; subst eO))
            have hr4 := Kd.V_reads' HV4.out
            have HR4 := Aside0.mk hr4.2.2
            have HL4 := Aside0.mk hr4.2.1
            clear hr4
            have HK' := HK.out
            go_roundg (l0.length - (i + 1))
            case measure => omega
            case rel => exact ⟨i + 1, b', AO, cO, rfl, by simp, by omega, by omega, HL4, HR4, ⟨.inr HV4.out⟩, HB4, HGO2⟩
        | true =>
          have hks := HKS.out
          unfold des_Des_Block.key at hks
          simp only [if_true] at hks

          obtain ⟨j, hjn⟩ : ∃ j : Nat, j = l0.length - 1 - i := ⟨_, rfl⟩
          have hj : (l0.length : Int) - 1 - (i : Int) = (j : Int) := by omega
          have hjl : (j : Int) < (l0.length : Int) := by omega
          obtain ⟨ks0, e0⟩ : ∃ z, z = l0.getD j [] := ⟨_, rfl⟩
          obtain ⟨Bi, di, hbi, _, _⟩ := HROW.out i hlt
          rw [← hjn, ← e0] at hks
          obtain ⟨Ai, ci, hci, hli, hFi⟩ := HROW.out j (by omega)
          rw [← e0] at hci hli hFi
          have HE0 := Aside0.mk e0
          clear e0
          have HFI := Aside0.mk hFi
          have HLI := Aside0.mk hli
          have HM0 := Aside0.mk (Kd.F_max hFi)
          have HCI := Aside0.mk (Kd.F_now hFi)
          clear hFi hli
          by_cases hnil : ks0 = []
          · rw [if_pos hnil] at hks; cases hks
          rw [if_neg hnil] at hks
          by_cases hlim : ks0.length < 5864062014805
          rotate_left
          · rw [if_neg hlim] at hks; cases hks
          rw [if_pos hlim] at hks
          have HNE := Aside0.mk hnil
          have HF0 := Aside0.mk (show slices_Clone_byte_byte.f ks0 = some ks0 by unfold slices_Clone_byte_byte.f; rw [if_pos hlim])
          have HRV := Aside0.mk (show slices_Reverse_byte_byte.f ks0 = some ks0.reverse by unfold slices_Reverse_byte_byte.f; rw [if_neg hnil])
          clear hnil hlim
          have hks := Option.some.inj hks
          by_cases h1 : i = 1
          · have h1b : (((i : Nat) : Int) == 1) = true := by rw [h1]; rfl
            have H1 := Aside0.mk h1
            rw [if_neg (by rw [h1]; decide)] at hks
            subst hks
            clear h1
            rw [hjn] at hci
            go_wp2
            go_region
            have X1 := Aside0.mk (Kd.F_drew HFI.out)
            have X2 := Aside0.mk (Kd.C_drew HRB.out)
            have X3 := Aside0.mk (below_drew1 HB1.out)
            have X4 := Aside0.mk (Kd.C_drew HCI.out)
            clear HFI HRB HB1 HCI HVB HROW hci hbi hcell
            have HFI := X1
            have HRB := X2
            have HB1 := X3
            have HCI := X4
            clear X1 X2 X3 X4
            generalize wr.drew = w20 at HFI HRB HB1 HCI ⊢
            go_wp2_with (first | (go_at_call 42; (with_reducible refine (des_once.calls k A cb b Ai ci ks0 b' _ HRB.out HCB.out ?c1 ?c2 HONCE.out).mono ?_); (case c1 => exact HCI.out); (case c2 => exact HLI.out); rintro e w4 ⟨vO, rfl, hoO, hbO⟩; have HV4 := Aside0.mk (Kd.V_mono hoO (ok' := fun k_ => w.heap.size ≤ k_) (fun k_ hk => Nat.le_trans (below_size HB1.out) hk)); have HB4 := Aside0.mk (below_step HB1.out hbO); clear hoO hbO; obtain ⟨AO, cO, eO⟩ := Kd.V_slice HV4.out; subst eO))
            have hr4 := Kd.V_reads' HV4.out
            have HR4 := Aside0.mk hr4.2.2
            have HL4 := Aside0.mk hr4.2.1
            clear hr4
            have HK' := HK.out
            go_roundg (l0.length - (i + 1))
            case measure => omega
            case rel => exact ⟨i + 1, b', AO, cO, rfl, by simp, by omega, by omega, HL4, HR4, ⟨.inr HV4.out⟩, HB4, HGO2⟩
          · have h1b : (((i : Nat) : Int) == 1) = false := beq_eq_false_iff_ne.2 (by omega)
            rw [if_pos (by simp [h1])] at hks
            subst hks
            have H1 := Aside0.mk h1
            clear h1
            rw [hjn] at hci
            go_wp2
            go_region
            have X1 := Aside0.mk (Kd.F_drew HFI.out)
            have X2 := Aside0.mk (Kd.C_drew HRB.out)
            have X3 := Aside0.mk (below_drew1 HB1.out)
            have X4 := Aside0.mk (Kd.C_drew HCI.out)
            clear HFI HRB HB1 HCI HVB HROW hci hbi hcell
            have HFI := X1
            have HRB := X2
            have HB1 := X3
            have HCI := X4
            clear X1 X2 X3 X4
            generalize wr.drew = w20 at HFI HRB HB1 HCI ⊢
            go_wp2_with (first | (go_at_call 40; (with_reducible refine (slices_Clone_byte_byte.calls Ai ci ks0 ks0 _ HFI.out HLI.out HF0.out).mono ?_); rintro e w1 ⟨vC, rfl, hoC, hbC⟩; have HN := Aside0.mk hoC; have HR2 := Aside0.mk (Kd.C_below HRB.out hbC); have HB2 := Aside0.mk (below_step HB1.out hbC); have HBC := Aside0.mk hbC; clear hoC hbC; obtain ⟨AC, cC, eC⟩ := Kd.N_slice HN.out; subst eC; obtain ⟨gC, eg, hgC⟩ := des_Des_Block.head HN.out HNE.out; subst eg; have HGC := Aside0.mk hgC; clear hgC) | (go_at_call 41; (with_reducible refine (slices_Reverse_byte_byte.calls gC cC ks0 ks0.reverse _ HN.out HM0.out HRV.out).mono ?_); rintro e w2 ⟨rfl, hoR, hgR⟩; have HR3 := Aside0.mk (des_Des_Block.after HRB.out HBC.out hgR HGC.out); have HB3 := Aside0.mk (des_Des_Block.after2 HB1.out HBC.out hgR HGC.out); have HC3 := Aside0.mk (Kd.N_reads' hoR); clear hoR hgR) | (go_at_call 42; refine calls_of_args (args' := #[.slice A b.length cb, .slice (some ⟨gC, 0, none⟩) ks0.reverse.length cC]) (by rw [List.length_reverse]) ?_; (with_reducible refine (des_once.calls k A cb b (some ⟨gC, 0, none⟩) cC ks0.reverse b' _ HR3.out HCB.out ?c1 ?c2 HONCE.out).mono ?_); (case c1 => exact HC3.out.2.2); (case c2 => have hq := HC3.out; rw [List.length_reverse]; exact hq.2.1); rintro e w4 ⟨vO, rfl, hoO, hbO⟩; have HV4 := Aside0.mk (Kd.V_mono hoO (ok' := fun k_ => w.heap.size ≤ k_) (fun k_ hk => Nat.le_trans (below_size HB3.out) hk)); have HB4 := Aside0.mk (below_step HB3.out hbO); clear hoO hbO; obtain ⟨AO, cO, eO⟩ := Kd.V_slice HV4.out; subst eO))
            have hr4 := Kd.V_reads' HV4.out
            have HR4 := Aside0.mk hr4.2.2
            have HL4 := Aside0.mk hr4.2.1
            clear hr4
            have HK' := HK.out
            go_roundg (l0.length - (i + 1))
            case measure => omega
            case rel => exact ⟨i + 1, b', AO, cO, rfl, by simp, by omega, by omega, HL4, HR4, ⟨.inr HV4.out⟩, HB4, HGO2⟩
      · have hlt' : ¬ (i : Int) < (l0.length : Int) := by omega
        have hgo := HGO.out
        rw [show l0.length - i = 0 by omega] at hgo
        unfold des_Des_Block.go at hgo
        obtain ⟨hgo, rfl⟩ := hgo
        obtain rfl := Option.some.inj hgo
        have hV := HVB.out.resolve_left (by omega)
        have HV := Aside0.mk hV
        clear hV hgo
        go_wp2
        go_ret2
        exact ⟨_, by first | rfl | simp, HV.out, HB1.out⟩
  · rw [if_neg h8] at h
    have h8b : ((l1.length : Int) != 8) = true := bne_iff_ne.2 (by omega)
    clear h8
    simp only [Option.some.injEq, Prod.mk.injEq] at h
    obtain ⟨rfl, rfl⟩ := h
    go_enter Try.func19, Try.ntmps19
    go_wp2
    go_ret2
    exact ⟨_, by first | rfl | simp, Kd.V_nil _ _ _ _ _, HB.out⟩

/-! ### scrimlaw6_known: function 10 -/
def scrimlaw6_known.f (k : Nat)  : Option (Bool) := (des_New.f k ([] : List Int)).bind fun bt292 => (if 8 ≤ 281474976710656 then ((des_New.f k (List.replicate 8 0)).bind fun bt299 => (if bt292.2 = 4 then (if bt299.2 = 0 then (if bt299.1 = [] then (none) else ((des_Des_Block.f k bt299.1 (List.replicate 8 0) false).bind fun bt306 => ((des_Des_Block.f k bt299.1 bt306.1 true).bind fun bt310 => (if bt306.2 = 0 then (if bt310.2 = 0 then (if (bt306.1.length : Int) = 8 then (if (strOfNums bt306.1).toList = (strOfNums bt310.1).toList then (none) else (some ((strOfNums bt310.1).toList == (strOfNums (List.replicate 8 0)).toList))) else (none)) else (none)) else (none))))) else (none)) else (none))) else (none))
theorem scrimlaw6_known.mono : ∀ k, LeO (scrimlaw6_known.f k ) (scrimlaw6_known.f (k + 1) ) := by
  intro  k
  unfold scrimlaw6_known.f
  repeat' first
      | (with_reducible exact des_Des_Block.mono _ _ _ _)
      | (with_reducible exact des_New.mono _ _)
      | (with_reducible exact LeO.refl _)
      | (with_reducible exact LeO.none _)
      | (with_reducible refine LeO.ite ?_ ?_)
      | (with_reducible refine LeO.bind ?_ (fun _ => ?_))
      | exact des_Des_Block.mono _ _ _ _
      | exact des_New.mono _ _
      | exact LeO.none _
      | refine LeO.ite ?_ ?_
      | refine LeO.bind ?_ (fun _ => ?_)
def scrimlaw6_known.T7 : Bool × List (List Nat × List Nat) := (true, [([], []), ([0], [0]), ([1], [1]), ([2], [2]), ([3, 2], [2, 3]), ([2, 4], [2, 4]), ([5, 2], [5]), ([6], [6]), ([7, 6], [6, 7]), ([8, 6], [6, 8]), ([6, 9], [6, 9]), ([10, 6], [10]), ([11], [11]), ([12, 11], [11, 12]), ([11], [11]), ([14, 11], [11, 14]), ([13, 15, 11], [11, 13, 15]), ([11, 16], [11, 16]), ([17, 11], [17]), ([18], [18]), ([19, 18], [18, 19]), ([18], [18]), ([21, 18], [18, 21]), ([20, 22, 18], [18, 20, 22]), ([18, 23], [18, 23]), ([24, 18, 0, 1, 2, 3, 4, 5, 6, 7, 8, 9, 10, 11, 12, 13, 14, 15, 16, 17, 18, 19, 20, 21, 22, 23, 24], [24])])
def scrimlaw6_known.B7 : List Nat := [0, 1, 3, 7, 15, 31, 63, 127, 255, 511, 1023, 2047, 4095, 8191, 4095, 20479, 65535, 131071, 262143, 524287, 1048575, 524287, 2621439, 8388607, 16777215, 33554431]
theorem scrimlaw6_known.tab7 : rtab .any (opsOf Try.f10 7) = scrimlaw6_known.T7 := by kernel_rfl
theorem scrimlaw6_known.bits7 : waitsOk scrimlaw6_known.T7.2 scrimlaw6_known.B7 = true := by kernel_rfl
set_option maxHeartbeats 8000000 in
set_option maxRecDepth 100000 in
theorem scrimlaw6_known.calls (k : Nat)  (r : Bool) (w : World) (h : scrimlaw6_known.f k  = some r) :
    Calls Try.prog 10 #[] w fun e w' => e = .returned (.bool r) ∧ Below w.heap.size w w' := by
  have HB := Aside0.mk (Below.refl w.heap.size w)
  have H : ((des_New.f k ([] : List Int)).bind fun bt292 => (if 8 ≤ 281474976710656 then ((des_New.f k (List.replicate 8 0)).bind fun bt299 => (if bt292.2 = 4 then (if bt299.2 = 0 then (if bt299.1 = [] then (none) else ((des_Des_Block.f k bt299.1 (List.replicate 8 0) false).bind fun bt306 => ((des_Des_Block.f k bt299.1 bt306.1 true).bind fun bt310 => (if bt306.2 = 0 then (if bt310.2 = 0 then (if (bt306.1.length : Int) = 8 then (if (strOfNums bt306.1).toList = (strOfNums bt310.1).toList then (none) else (some ((strOfNums bt310.1).toList == (strOfNums (List.replicate 8 0)).toList))) else (none)) else (none)) else (none))))) else (none)) else (none))) else (none))) = some r := h
  clear h
  replace H := Option.bind_eq_some_iff.mp H
  obtain ⟨⟨t292, t293⟩, A10, H⟩ := H
  replace H : (if 8 ≤ 281474976710656 then ((des_New.f k (List.replicate 8 0)).bind fun bt299 => (if t293 = 4 then (if bt299.2 = 0 then (if bt299.1 = [] then (none) else ((des_Des_Block.f k bt299.1 (List.replicate 8 0) false).bind fun bt306 => ((des_Des_Block.f k bt299.1 bt306.1 true).bind fun bt310 => (if bt306.2 = 0 then (if bt310.2 = 0 then (if (bt306.1.length : Int) = 8 then (if (strOfNums bt306.1).toList = (strOfNums bt310.1).toList then (none) else (some ((strOfNums bt310.1).toList == (strOfNums (List.replicate 8 0)).toList))) else (none)) else (none)) else (none))))) else (none)) else (none))) else (none)) = some r := H
  have A1 := Aside0.mk A10
  clear A10
  by_cases c2 : 8 ≤ 281474976710656
  · rw [if_pos c2] at H
    have c2b0 := eq_true c2
    have c2b1 : decide (8 ≤ 281474976710656) = true := decide_eq_true c2
    clear c2
    obtain ⟨y296, hy296⟩ : ∃ y_ : List Int, y_ = (List.replicate 8 0) := ⟨_, rfl⟩
    replace H : ((des_New.f k y296).bind fun bt299 => (if t293 = 4 then (if bt299.2 = 0 then (if bt299.1 = [] then (none) else ((des_Des_Block.f k bt299.1 (List.replicate 8 0) false).bind fun bt306 => ((des_Des_Block.f k bt299.1 bt306.1 true).bind fun bt310 => (if bt306.2 = 0 then (if bt310.2 = 0 then (if (bt306.1.length : Int) = 8 then (if (strOfNums bt306.1).toList = (strOfNums bt310.1).toList then (none) else (some ((strOfNums bt310.1).toList == (strOfNums (List.replicate 8 0)).toList))) else (none)) else (none)) else (none))))) else (none)) else (none))) = some r := by first | (rw [hy296]; with_reducible exact H) | (have H2_ := (Option.bind_some _ _).symm.trans H; rw [hy296]; with_reducible exact H2_) | (have H2_ := (Option.bind_some _ _).symm.trans H; with_reducible exact H2_) | with_reducible exact H | (rw [hy296]; exact H) | exact H
    have Ny296 := Aside0.mk hy296
    clear hy296
    replace H := Option.bind_eq_some_iff.mp H
    obtain ⟨⟨t299, t300⟩, A30, H⟩ := H
    replace H : (if t293 = 4 then (if t300 = 0 then (if t299 = [] then (none) else ((des_Des_Block.f k t299 (List.replicate 8 0) false).bind fun bt306 => ((des_Des_Block.f k t299 bt306.1 true).bind fun bt310 => (if bt306.2 = 0 then (if bt310.2 = 0 then (if (bt306.1.length : Int) = 8 then (if (strOfNums bt306.1).toList = (strOfNums bt310.1).toList then (none) else (some ((strOfNums bt310.1).toList == (strOfNums (List.replicate 8 0)).toList))) else (none)) else (none)) else (none))))) else (none)) else (none)) = some r := H
    have A3 := Aside0.mk A30
    clear A30
    by_cases c4 : t293 = 4
    rotate_left
    · rw [if_neg c4] at H
      exact absurd H (by simp)
    rw [if_pos c4] at H
    have c4b0 : (t293 == 4) = true := beq_iff_eq.mpr c4
    have c4b1 : (t293 != 4) = false := bne_eq_false_iff_eq.mpr c4
    clear c4
    by_cases c5 : t300 = 0
    rotate_left
    · rw [if_neg c5] at H
      exact absurd H (by simp)
    rw [if_pos c5] at H
    have c5b0 : (t300 == 0) = true := beq_iff_eq.mpr c5
    have c5b1 : (t300 != 0) = false := bne_eq_false_iff_eq.mpr c5
    clear c5
    by_cases c6 : t299 = []
    · rw [if_pos c6] at H
      exact absurd H (by simp)
    rw [if_neg c6] at H
    have NN299 := Aside0.mk c6
    clear c6
    obtain ⟨y303, hy303⟩ : ∃ y_ : List Int, y_ = (List.replicate 8 0) := ⟨_, rfl⟩
    replace H : ((des_Des_Block.f k t299 y303 false).bind fun bt306 => ((des_Des_Block.f k t299 bt306.1 true).bind fun bt310 => (if bt306.2 = 0 then (if bt310.2 = 0 then (if (bt306.1.length : Int) = 8 then (if (strOfNums bt306.1).toList = (strOfNums bt310.1).toList then (none) else (some ((strOfNums bt310.1).toList == (strOfNums (List.replicate 8 0)).toList))) else (none)) else (none)) else (none)))) = some r := by first | (rw [hy303]; with_reducible exact H) | (have H2_ := (Option.bind_some _ _).symm.trans H; rw [hy303]; with_reducible exact H2_) | (have H2_ := (Option.bind_some _ _).symm.trans H; with_reducible exact H2_) | with_reducible exact H | (rw [hy303]; exact H) | exact H
    have Ny303 := Aside0.mk hy303
    clear hy303
    replace H := Option.bind_eq_some_iff.mp H
    obtain ⟨⟨t306, t307⟩, A70, H⟩ := H
    replace H : ((des_Des_Block.f k t299 t306 true).bind fun bt310 => (if t307 = 0 then (if bt310.2 = 0 then (if (t306.length : Int) = 8 then (if (strOfNums t306).toList = (strOfNums bt310.1).toList then (none) else (some ((strOfNums bt310.1).toList == (strOfNums (List.replicate 8 0)).toList))) else (none)) else (none)) else (none))) = some r := H
    have A7 := Aside0.mk A70
    clear A70
    replace H := Option.bind_eq_some_iff.mp H
    obtain ⟨⟨t310, t311⟩, A80, H⟩ := H
    replace H : (if t307 = 0 then (if t311 = 0 then (if (t306.length : Int) = 8 then (if (strOfNums t306).toList = (strOfNums t310).toList then (none) else (some ((strOfNums t310).toList == (strOfNums (List.replicate 8 0)).toList))) else (none)) else (none)) else (none)) = some r := H
    have A8 := Aside0.mk A80
    clear A80
    by_cases c9 : t307 = 0
    · rw [if_pos c9] at H
      have c9b0 : (t307 == 0) = true := beq_iff_eq.mpr c9
      have c9b1 : (t307 != 0) = false := bne_eq_false_iff_eq.mpr c9
      clear c9
      by_cases c10 : t311 = 0
      · rw [if_pos c10] at H
        have c10b0 : (t311 == 0) = true := beq_iff_eq.mpr c10
        have c10b1 : (t311 != 0) = false := bne_eq_false_iff_eq.mpr c10
        clear c10
        by_cases c11 : (t306.length : Int) = 8
        · rw [if_pos c11] at H
          have c11b0 : ((t306.length : Int) == 8) = true := beq_iff_eq.mpr c11
          have c11b1 : ((t306.length : Int) != 8) = false := bne_eq_false_iff_eq.mpr c11
          clear c11
          by_cases c12 : (strOfNums t306).toList = (strOfNums t310).toList
          · rw [if_pos c12] at H
            have c12b0 : ((strOfNums t306).toList == (strOfNums t310).toList) = true := beq_iff_eq.mpr c12
            have c12b1 : ((strOfNums t306).toList != (strOfNums t310).toList) = false := bne_eq_false_iff_eq.mpr c12
            clear c12
            exact absurd H (by simp)
          · rw [if_neg c12] at H
            have c12b0 : ((strOfNums t306).toList == (strOfNums t310).toList) = false := beq_eq_false_iff_ne.mpr c12
            have c12b1 : ((strOfNums t306).toList != (strOfNums t310).toList) = true := bne_iff_ne.mpr c12
            obtain ⟨y314, hy314⟩ : ∃ y_ : List Int, y_ = (List.replicate 8 0) := ⟨_, rfl⟩
            replace H : (some ((strOfNums t310).toList == (strOfNums y314).toList)) = some r := by first | (rw [hy314]; with_reducible exact H) | (have H2_ := (Option.bind_some _ _).symm.trans H; rw [hy314]; with_reducible exact H2_) | (have H2_ := (Option.bind_some _ _).symm.trans H; with_reducible exact H2_) | with_reducible exact H | (rw [hy314]; exact H) | exact H
            have Ny314 := Aside0.mk hy314
            clear hy314
            obtain rfl := Option.some.inj H
            go_enter Try.func10, Try.ntmps10
            try go_wp2_with (first | ((with_reducible refine gate_callee (f := 18) rfl ?_); refine goesL_ (some 10) rfl rfl Try.func18 (by kernel_rfl) rfl #[.slice none 0 0] rfl (by (try simp only [List.map_toArray, List.map_cons, List.map_nil]); first | done | rfl | (simp only [List.length_drop, List.length_take]; rfl)) ?_; (refine (des_New.calls k _ _ ([] : List Int) t292 t293 _ ?side1 ?side2 A1.out).mono ?_); (case side1 => exact Kd.C_nil _ _); (case side2 => exact Nat.le_refl _); rintro e w13 ⟨v294, rfl, ho0, hb⟩; refine ⟨_, rfl, ?_⟩; have n0_ := Aside0.mk (Ptr.D_lower (Ptr.D_mono (ok' := fun k_ => True) ho0 (fun k_ hk0_ => by have hk_ := And.intro trivial (And.intro hk0_ trivial); exact trivial)) (below_size HB.out)); have n1_ := Aside0.mk (below_step HB.out hb); clear HB; have HO295 := n0_; have HB := n1_; clear n0_ n1_; (try clear hb); (try clear hb2); (try clear hk); (try clear hi); (try clear ho0)) | ((with_reducible refine gate_dst (N := 14) rfl ?_); (try (refine gate_guard (by rfl) ?_; dsimp only)); refine Kd.R_make (Kd.int .u8) _ 5 rfl (N := 14) rfl 22 _ _ rfl 8 rfl rfl Try.underlying22 (.int .u8 0) 1 info5 rfl (by decide) (by omega) 0 (ok := fun _ => True) (okp := fun _ => True) rfl (fun _ hk => hk) trivial (by omega) (by omega) (Below.refl _ _) (Nat.le_refl _) ?_; intro v297 w14 ho15 hb hg_ hnew_; clear hg_ hnew_; (first | rw [← Ny296.out] at ho15 | (simp only [Int.reduceToNat] at ho15; rw [← Ny296.out] at ho15)); have n0_ := Aside0.mk (Ptr.D_elder' HO295.out (Kd.R_base ho15) hb); have n1_ := Aside0.mk (Kd.R_lower ho15 (below_size HB.out)); have n2_ := Aside0.mk (below_step HB.out hb); clear HO295; clear HB; have HO295 := n0_; have HO298 := n1_; have HB := n2_; clear n0_ n1_ n2_; clear hb ho15; obtain ⟨Ao16, co16, eo16⟩ := Kd.R_slice HO298.out; subst eo16) | ((with_reducible refine gate_callee (f := 18) rfl ?_); refine goesL_ (some 15) rfl rfl Try.func18 (by kernel_rfl) rfl #[.slice Ao16 y296.length co16] rfl (by (try simp only [List.map_toArray, List.map_cons, List.map_nil]); first | done | rfl | (simp only [List.length_drop, List.length_take]; rfl)) ?_; (with_reducible refine (des_New.calls k _ _ y296 t299 t300 _ ?side1 ?side2 A3.out).mono ?_); (case side1 => repeat (first | exact (Kd.R_reads' HO298.out).2.2 | (with_reducible refine Kd.C_alloc ?_ _) | (with_reducible refine Kd.C_drewN ?_ _) | (with_reducible refine Kd.C_drew ?_))); (case side2 => exact (Kd.R_reads' HO298.out).2.1); rintro e w17 ⟨v301, rfl, ho0, hb⟩; refine ⟨_, rfl, ?_⟩; have n0_ := Aside0.mk (Ptr.D_below HO295.out hb); have n1_ := Aside0.mk (Kd.R_below HO298.out hb); have n2_ := Aside0.mk (Ptr.D_lower (Ptr.D_mono (ok' := fun k_ => some k_ ≠ (.slice Ao16 y296.length co16 : Value).ownBlock) ho0 (fun k_ hk0_ => by have hk_ := And.intro trivial (And.intro hk0_ trivial); exact (Kd.fresh' (Kd.R_lt HO298.out) k_ hk_.2.1))) (below_size HB.out)); have n3_ := Aside0.mk (below_step HB.out hb); clear HO295; clear HO298; clear HB; have HO295 := n0_; have HO298 := n1_; have HO302 := n2_; have HB := n3_; clear n0_ n1_ n2_ n3_; (try clear hb); (try clear hb2); (try clear hk); (try clear hi); (try clear ho0); obtain ⟨gN299, AN299, cN299, eN299, _, _⟩ := Ptr.D_open HO302.out NN299.out; subst eN299) | ((with_reducible refine gate_dst (N := 30) rfl ?_); (try (refine gate_guard (by rfl) ?_; dsimp only)); refine Kd.R_make (Kd.int .u8) _ 5 rfl (N := 30) rfl 22 _ _ rfl 8 rfl rfl Try.underlying22 (.int .u8 0) 1 info5 rfl (by decide) (by omega) 0 (ok := fun _ => True) (okp := fun _ => True) rfl (fun _ hk => hk) trivial (by omega) (by omega) (Below.refl _ _) (Nat.le_refl _) ?_; intro v304 w18 ho19 hb hg_ hnew_; clear hg_ hnew_; (first | rw [← Ny303.out] at ho19 | (simp only [Int.reduceToNat] at ho19; rw [← Ny303.out] at ho19)); have n0_ := Aside0.mk (Ptr.D_elder' HO295.out (Kd.R_base ho19) hb); have n1_ := Aside0.mk (Kd.R_elder' HO298.out (Kd.R_base ho19) hb); have n2_ := Aside0.mk (Ptr.D_elder' HO302.out (Kd.R_base ho19) hb); have n3_ := Aside0.mk (Kd.R_lower (Kd.R_new' ho19 (Kd.R_lt HO298.out)) (below_size HB.out)); have n4_ := Aside0.mk (below_step HB.out hb); clear HO295; clear HO298; clear HO302; clear HB; have HO295 := n0_; have HO298 := n1_; have HO302 := n2_; have HO305 := n3_; have HB := n4_; clear n0_ n1_ n2_ n3_ n4_; clear hb ho19; obtain ⟨Ao21, co21, eo21⟩ := Kd.R_slice HO305.out; subst eo21) | ((with_reducible refine gate_callee (f := 19) rfl ?_); refine goesL_ (some 31) rfl rfl Try.func19 (by kernel_rfl) rfl #[.pointer (some ⟨gN299, 0, none⟩), .slice Ao21 y303.length co21, .bool false] rfl (by (try simp only [List.map_toArray, List.map_cons, List.map_nil]); first | done | rfl | (simp only [List.length_drop, List.length_take]; rfl)) ?_; (with_reducible refine (des_Des_Block.calls k _ t299 _ _ y303 false t306 t307 _ ?side1 ?side3 ?side4 A7.out).mono ?_); (case side1 => apply Exists.intro; apply Exists.intro; (with_reducible repeat (first | apply Ptr.D_alloc | apply Ptr.D_drewN | apply Ptr.D_drew)); exact HO302.out); (case side3 => repeat (first | exact (Kd.R_reads' HO305.out).2.2 | (with_reducible refine Kd.C_alloc ?_ _) | (with_reducible refine Kd.C_drewN ?_ _) | (with_reducible refine Kd.C_drew ?_))); (case side4 => exact (Kd.R_reads' HO305.out).2.1); rintro e w22 ⟨v308, rfl, ho0, hb⟩; refine ⟨_, rfl, ?_⟩; have n0_ := Aside0.mk (Ptr.D_below HO295.out hb); have n1_ := Aside0.mk (Kd.R_below HO298.out hb); have n2_ := Aside0.mk (Ptr.D_below HO302.out hb); have n3_ := Aside0.mk (Kd.R_below HO305.out hb); have n4_ := Aside0.mk (Kd.V_lower (Kd.V_mono (ok' := fun k_ => some k_ ≠ (.slice Ao16 y296.length co16 : Value).ownBlock ∧ some k_ ≠ (.slice Ao21 y303.length co21 : Value).ownBlock) ho0 (fun k_ hk0_ => by have hk_ := And.intro trivial (And.intro hk0_ trivial); exact ⟨(Kd.fresh' (Kd.R_lt HO298.out) k_ hk_.2.1), (Kd.fresh' (Kd.R_lt HO305.out) k_ hk_.2.1)⟩)) (below_size HB.out)); have n5_ := Aside0.mk (below_step HB.out hb); clear HO295; clear HO298; clear HO302; clear HO305; clear HB; have HO295 := n0_; have HO298 := n1_; have HO302 := n2_; have HO305 := n3_; have HO309 := n4_; have HB := n5_; clear n0_ n1_ n2_ n3_ n4_ n5_; (try clear hb); (try clear hb2); (try clear hk); (try clear hi); (try clear ho0); obtain ⟨Ao23, co23, eo23⟩ := Kd.V_slice HO309.out; subst eo23) | ((with_reducible refine gate_callee (f := 19) rfl ?_); refine goesL_ (some 37) rfl rfl Try.func19 (by kernel_rfl) rfl #[.pointer (some ⟨gN299, 0, none⟩), .slice Ao23 t306.length co23, .bool true] rfl (by (try simp only [List.map_toArray, List.map_cons, List.map_nil]); first | done | rfl | (simp only [List.length_drop, List.length_take]; rfl)) ?_; (with_reducible refine (des_Des_Block.calls k _ t299 _ _ t306 true t310 t311 _ ?side1 ?side3 ?side4 A8.out).mono ?_); (case side1 => apply Exists.intro; apply Exists.intro; (with_reducible repeat (first | apply Ptr.D_alloc | apply Ptr.D_drewN | apply Ptr.D_drew)); exact HO302.out); (case side3 => repeat (first | exact (Kd.V_reads' HO309.out).2.2 | (with_reducible refine Kd.C_alloc ?_ _) | (with_reducible refine Kd.C_drewN ?_ _) | (with_reducible refine Kd.C_drew ?_))); (case side4 => exact (Kd.V_reads' HO309.out).2.1); rintro e w24 ⟨v312, rfl, ho0, hb⟩; refine ⟨_, rfl, ?_⟩; have n0_ := Aside0.mk (Ptr.D_below HO295.out hb); have n1_ := Aside0.mk (Kd.R_below HO298.out hb); have n2_ := Aside0.mk (Ptr.D_below HO302.out hb); have n3_ := Aside0.mk (Kd.R_below HO305.out hb); have n4_ := Aside0.mk (Kd.V_below HO309.out hb); have n5_ := Aside0.mk (Kd.V_lower (Kd.V_mono (ok' := fun k_ => some k_ ≠ (.slice Ao16 y296.length co16 : Value).ownBlock ∧ some k_ ≠ (.slice Ao21 y303.length co21 : Value).ownBlock) ho0 (fun k_ hk0_ => by have hk_ := And.intro trivial (And.intro hk0_ trivial); exact ⟨(Kd.fresh' (Kd.R_lt HO298.out) k_ hk_.2.1), (Kd.fresh' (Kd.R_lt HO305.out) k_ hk_.2.1)⟩)) (below_size HB.out)); have n6_ := Aside0.mk (below_step HB.out hb); clear HO295; clear HO298; clear HO302; clear HO305; clear HO309; clear HB; have HO295 := n0_; have HO298 := n1_; have HO302 := n2_; have HO305 := n3_; have HO309 := n4_; have HO313 := n5_; have HB := n6_; clear n0_ n1_ n2_ n3_ n4_ n5_ n6_; (try clear hb); (try clear hb2); (try clear hk); (try clear hi); (try clear ho0)))
            have n0_ := Aside0.mk (Ptr.D_drew HO295.out)
            have n1_ := Aside0.mk (Kd.R_drew HO298.out)
            have n2_ := Aside0.mk (Ptr.D_drew HO302.out)
            have n3_ := Aside0.mk (Kd.R_drew HO305.out)
            have n4_ := Aside0.mk (Kd.V_drew HO309.out)
            have n5_ := Aside0.mk (Kd.V_drew HO313.out)
            have n6_ := Aside0.mk (below_drew1 HB.out)
            clear HO295
            clear HO298
            clear HO302
            clear HO305
            clear HO309
            clear HO313
            clear HB
            have HO295 := n0_
            have HO298 := n1_
            have HO302 := n2_
            have HO305 := n3_
            have HO309 := n4_
            have HO313 := n5_
            have HB := n6_
            clear n0_ n1_ n2_ n3_ n4_ n5_ n6_
            have hcv26 := Kd.C_string (P := Try.prog) (A := Ao23) (c := co23) Try.underlying22 Try.underlying5 Try.underlying9 (Kd.V_reads' HO309.out).2.2
            obtain ⟨Ax313, cx313, ex313⟩ := Kd.V_slice HO313.out
            subst ex313
            have hcv27 := Kd.C_string (P := Try.prog) (A := Ax313) (c := cx313) Try.underlying22 Try.underlying5 Try.underlying9 (Kd.V_reads' HO313.out).2.2
            have hcv28 := Kd.C_string (P := Try.prog) (A := Ax313) (c := cx313) Try.underlying22 Try.underlying5 Try.underlying9 (Kd.V_reads' HO313.out).2.2
            refine start_ (n := 26) (S := fun w' => True ∧ (convert 22 9 (.slice Ao23 t306.length co23)).run Try.prog w' = .ok (.string (strOfNums t306)) w' ∧ (convert 22 9 (.slice Ax313 t310.length cx313)).run Try.prog w' = .ok (.string (strOfNums t310)) w') (ds := []) #[false, false, false, false, false, false, false, false, false, false, false, false, false, false, false, false, false, false, false, false, false, false, false, false, false, false] (by kernel_rfl) rfl rfl ⟨trivial, hcv26, hcv27⟩ (fun hHeld => ?_); refine with_tabW scrimlaw6_known.tab7 scrimlaw6_known.bits7 (fun HT_ HW_ => ?_)
            generalize w24.drew = w25 at HO295 HO298 HO302 HO305 HO309 HO313 HB hHeld ⊢
            refine pure_ (i := 0) (N := some 40) (v := ?_) (a' := ?_) #[true, false, false, false, false, false, false, false, false, false, false, false, false, false, false, false, false, false, false, false, false, false, false, false, false, false] rfl rfl (any_of HT_.out (by kernel_rfl)) (fun _ _ _ h => h) (Or.inl ⟨by rfl, ?_⟩) ?_ ?_
            rotate_left
            · intro w'
              go_simp
              with_reducible rfl
            rotate_left
            · simp only [Act.put, List.setIfInBounds_toArray, List.set_cons_zero, List.set_cons_succ, i64_w, i32_w]
              rfl
            refine pure_ (i := 1) (N := some 41) (v := ?_) (a' := ?_) #[true, true, false, false, false, false, false, false, false, false, false, false, false, false, false, false, false, false, false, false, false, false, false, false, false, false] rfl rfl (any_of HT_.out (by kernel_rfl)) (fun _ _ _ h => h) (Or.inl ⟨by rfl, ?_⟩) ?_ ?_
            rotate_left
            · intro w'
              go_simp
              with_reducible rfl
            rotate_left
            · simp only [Act.put, List.setIfInBounds_toArray, List.set_cons_zero, List.set_cons_succ, i64_w, i32_w]
              rfl
            refine pure_ (i := 2) (N := some 42) (v := ?_) (a' := ?_) #[true, true, true, false, false, false, false, false, false, false, false, false, false, false, false, false, false, false, false, false, false, false, false, false, false, false] rfl rfl (any_of HT_.out (by kernel_rfl)) (fun _ _ _ h => h) (Or.inl ⟨by rfl, ?_⟩) ?_ ?_
            rotate_left
            · intro w'
              go_simp
              with_reducible rfl
            rotate_left
            · simp only [Act.put, List.setIfInBounds_toArray, List.set_cons_zero, List.set_cons_succ, i64_w, i32_w]
              rfl
            refine pure_ (i := 3) (N := some 43) (v := ?_) (a' := ?_) #[true, true, true, true, false, false, false, false, false, false, false, false, false, false, false, false, false, false, false, false, false, false, false, false, false, false] rfl rfl (any_of HT_.out (by kernel_rfl)) (fun _ _ _ h => h) (Or.inl ⟨by rfl, ?_⟩) ?_ ?_
            rotate_left
            · intro w'
              go_simp
              with_reducible rfl
            rotate_left
            · simp only [Act.put, List.setIfInBounds_toArray, List.set_cons_zero, List.set_cons_succ, i64_w, i32_w]
              rfl
            refine pure_ (i := 4) (N := some 44) (v := ?_) (a' := ?_) #[true, true, true, true, true, false, false, false, false, false, false, false, false, false, false, false, false, false, false, false, false, false, false, false, false, false] rfl rfl (any_of HT_.out (by kernel_rfl)) (fun _ _ _ h => h) (Or.inl ⟨by rfl, ?_⟩) ?_ ?_
            rotate_left
            · intro w'
              go_simp
              with_reducible rfl
            rotate_left
            · simp only [Act.put, List.setIfInBounds_toArray, List.set_cons_zero, List.set_cons_succ, i64_w, i32_w]
              rfl
            refine pure_ (i := 5) (N := some 45) (v := ?_) (a' := ?_) #[true, true, true, true, true, true, false, false, false, false, false, false, false, false, false, false, false, false, false, false, false, false, false, false, false, false] rfl rfl (any_of HT_.out (by kernel_rfl)) (fun _ _ _ h => h) (Or.inl ⟨by rfl, ?_⟩) ?_ ?_
            rotate_left
            · intro w'
              go_simp
              with_reducible rfl
            rotate_left
            · simp only [Act.put, List.setIfInBounds_toArray, List.set_cons_zero, List.set_cons_succ, i64_w, i32_w]
              rfl
            refine pure_ (i := 6) (N := some 46) (v := ?_) (a' := ?_) #[true, true, true, true, true, true, true, false, false, false, false, false, false, false, false, false, false, false, false, false, false, false, false, false, false, false] rfl rfl (any_of HT_.out (by kernel_rfl)) (fun _ _ _ h => h) (Or.inl ⟨by rfl, ?_⟩) ?_ ?_
            rotate_left
            · intro w'
              go_simp
              with_reducible rfl
            rotate_left
            · simp only [Act.put, List.setIfInBounds_toArray, List.set_cons_zero, List.set_cons_succ, i64_w, i32_w]
              rfl
            refine pure_ (i := 7) (N := some 47) (v := ?_) (a' := ?_) #[true, true, true, true, true, true, true, true, false, false, false, false, false, false, false, false, false, false, false, false, false, false, false, false, false, false] rfl rfl (any_of HT_.out (by kernel_rfl)) (fun _ _ _ h => h) (Or.inl ⟨by rfl, ?_⟩) ?_ ?_
            rotate_left
            · intro w'
              go_simp
              with_reducible rfl
            rotate_left
            · simp only [Act.put, List.setIfInBounds_toArray, List.set_cons_zero, List.set_cons_succ, i64_w, i32_w]
              rfl
            refine pure_ (i := 8) (N := some 48) (v := ?_) (a' := ?_) #[true, true, true, true, true, true, true, true, true, false, false, false, false, false, false, false, false, false, false, false, false, false, false, false, false, false] rfl rfl (any_of HT_.out (by kernel_rfl)) (fun _ _ _ h => h) (Or.inl ⟨by rfl, ?_⟩) ?_ ?_
            rotate_left
            · intro w'
              go_simp
              with_reducible rfl
            rotate_left
            · simp only [Act.put, List.setIfInBounds_toArray, List.set_cons_zero, List.set_cons_succ, i64_w, i32_w]
              rfl
            refine pure_ (i := 9) (N := some 49) (v := ?_) (a' := ?_) #[true, true, true, true, true, true, true, true, true, true, false, false, false, false, false, false, false, false, false, false, false, false, false, false, false, false] rfl rfl (any_of HT_.out (by kernel_rfl)) (fun _ _ _ h => h) (Or.inl ⟨by rfl, ?_⟩) ?_ ?_
            rotate_left
            · intro w'
              go_simp
              with_reducible rfl
            rotate_left
            · simp only [Act.put, List.setIfInBounds_toArray, List.set_cons_zero, List.set_cons_succ, i64_w, i32_w]
              rfl
            refine pure_ (i := 10) (N := some 50) (v := ?_) (a' := ?_) #[true, true, true, true, true, true, true, true, true, true, true, false, false, false, false, false, false, false, false, false, false, false, false, false, false, false] rfl rfl (any_of HT_.out (by kernel_rfl)) (fun _ _ _ h => h) (Or.inl ⟨by rfl, ?_⟩) ?_ ?_
            rotate_left
            · intro w'
              go_simp
              with_reducible rfl
            rotate_left
            · simp only [Act.put, List.setIfInBounds_toArray, List.set_cons_zero, List.set_cons_succ, i64_w, i32_w]
              rfl
            refine pure_ (i := 11) (N := some 51) (v := ?_) (a' := ?_) #[true, true, true, true, true, true, true, true, true, true, true, true, false, false, false, false, false, false, false, false, false, false, false, false, false, false] rfl rfl (any_of HT_.out (by kernel_rfl)) (fun _ _ _ h => h) (Or.inl ⟨by rfl, ?_⟩) ?_ ?_
            rotate_left
            · intro w'
              go_simp
              with_reducible rfl
            rotate_left
            · simp only [Act.put, List.setIfInBounds_toArray, List.set_cons_zero, List.set_cons_succ, i64_w, i32_w]
              rfl
            refine pure_ (i := 12) (N := some 52) (v := ?_) (a' := ?_) #[true, true, true, true, true, true, true, true, true, true, true, true, true, false, false, false, false, false, false, false, false, false, false, false, false, false] rfl rfl (any_of HT_.out (by kernel_rfl)) (fun _ _ _ h => h) (Or.inl ⟨by rfl, ?_⟩) ?_ ?_
            rotate_left
            · intro w'
              go_simp
              with_reducible rfl
            rotate_left
            · simp only [Act.put, List.setIfInBounds_toArray, List.set_cons_zero, List.set_cons_succ, i64_w, i32_w]
              rfl
            refine take_ (i := 13) (N := some 53) (v := ?_) (a' := ?_) #[true, true, true, true, true, true, true, true, true, true, true, true, true, true, false, false, false, false, false, false, false, false, false, false, false, false] rfl rfl (take_of HT_.out (by kernel_rfl)) (fun _ _ _ h => h) (Or.inl ⟨by rfl, ?_⟩) hHeld ?_ ?_
            rotate_left
            · rintro w' ⟨s0, sc0, sc1⟩
              go_simp
              with_reducible rfl
            rotate_left
            · simp only [Act.put, List.setIfInBounds_toArray, List.set_cons_zero, List.set_cons_succ, i64_w, i32_w]
              rfl
            refine pure_ (i := 14) (N := some 54) (v := ?_) (a' := ?_) #[true, true, true, true, true, true, true, true, true, true, true, true, true, true, true, false, false, false, false, false, false, false, false, false, false, false] rfl rfl (any_of HT_.out (by kernel_rfl)) (fun _ _ _ h => h) (Or.inl ⟨by rfl, ?_⟩) ?_ ?_
            rotate_left
            · intro w'
              go_simp
              with_reducible rfl
            rotate_left
            · simp only [Act.put, List.setIfInBounds_toArray, List.set_cons_zero, List.set_cons_succ, i64_w, i32_w]
              rfl
            refine take_ (i := 15) (N := some 55) (v := ?_) (a' := ?_) #[true, true, true, true, true, true, true, true, true, true, true, true, true, true, true, true, false, false, false, false, false, false, false, false, false, false] rfl rfl (take_of HT_.out (by kernel_rfl)) (fun _ _ _ h => h) (Or.inl ⟨by rfl, ?_⟩) hHeld ?_ ?_
            rotate_left
            · rintro w' ⟨s0, sc0, sc1⟩
              go_simp
              with_reducible rfl
            rotate_left
            · simp only [Act.put, List.setIfInBounds_toArray, List.set_cons_zero, List.set_cons_succ, i64_w, i32_w]
              rfl
            refine pure_ (i := 16) (N := some 56) (v := ?_) (a' := ?_) #[true, true, true, true, true, true, true, true, true, true, true, true, true, true, true, true, true, false, false, false, false, false, false, false, false, false] rfl rfl (any_of HT_.out (by kernel_rfl)) (fun _ _ _ h => h) (Or.inl ⟨by rfl, ?_⟩) ?_ ?_
            rotate_left
            · intro w'
              go_simp
              with_reducible rfl
            rotate_left
            · simp only [Act.put, List.setIfInBounds_toArray, List.set_cons_zero, List.set_cons_succ, i64_w, i32_w]
              rfl
            refine pure_ (i := 17) (N := some 57) (v := ?_) (a' := ?_) #[true, true, true, true, true, true, true, true, true, true, true, true, true, true, true, true, true, true, false, false, false, false, false, false, false, false] rfl rfl (any_of HT_.out (by kernel_rfl)) (fun _ _ _ h => h) (Or.inl ⟨by rfl, ?_⟩) ?_ ?_
            rotate_left
            · intro w'
              go_simp
              with_reducible rfl
            rotate_left
            · simp only [Act.put, List.setIfInBounds_toArray, List.set_cons_zero, List.set_cons_succ, i64_w, i32_w]
              rfl
            refine pure_ (i := 18) (N := some 58) (v := ?_) (a' := ?_) #[true, true, true, true, true, true, true, true, true, true, true, true, true, true, true, true, true, true, true, false, false, false, false, false, false, false] rfl rfl (any_of HT_.out (by kernel_rfl)) (fun _ _ _ h => h) (Or.inl ⟨by rfl, ?_⟩) ?_ ?_
            rotate_left
            · intro w'
              go_simp
              with_reducible rfl
            rotate_left
            · simp only [Act.put, List.setIfInBounds_toArray, List.set_cons_zero, List.set_cons_succ, i64_w, i32_w]
              rfl
            refine pure_ (i := 19) (N := some 59) (v := ?_) (a' := ?_) #[true, true, true, true, true, true, true, true, true, true, true, true, true, true, true, true, true, true, true, true, false, false, false, false, false, false] rfl rfl (any_of HT_.out (by kernel_rfl)) (fun _ _ _ h => h) (Or.inl ⟨by rfl, ?_⟩) ?_ ?_
            rotate_left
            · intro w'
              go_simp
              with_reducible rfl
            rotate_left
            · simp only [Act.put, List.setIfInBounds_toArray, List.set_cons_zero, List.set_cons_succ, i64_w, i32_w]
              rfl
            refine take_ (i := 20) (N := some 60) (v := ?_) (a' := ?_) #[true, true, true, true, true, true, true, true, true, true, true, true, true, true, true, true, true, true, true, true, true, false, false, false, false, false] rfl rfl (take_of HT_.out (by kernel_rfl)) (fun _ _ _ h => h) (Or.inl ⟨by rfl, ?_⟩) hHeld ?_ ?_
            rotate_left
            · rintro w' ⟨s0, sc0, sc1⟩
              go_simp
              with_reducible rfl
            rotate_left
            · simp only [Act.put, List.setIfInBounds_toArray, List.set_cons_zero, List.set_cons_succ, i64_w, i32_w]
              rfl
            refine one_ (i := 21) (N := some 61) #[true, true, true, true, true, true, true, true, true, true, true, true, true, true, true, true, true, true, true, true, true, true, false, false, false, false] rfl rfl (one_of HT_.out (by kernel_rfl)) (by decide) (fun K hK => ?_)
            refine Kd.R_make_step (Kd.int .u8) _ 5 (by rfl) (N := 61) rfl 22 _ _ rfl 8 rfl rfl Try.underlying22 (.int .u8 0) 1 info5 rfl (by decide) (by omega) 0 (ok := fun _ => True) (okp := fun _ => True) rfl (fun _ hk => hk) trivial (by omega) (by omega) (Below.refl _ _) (Nat.le_refl _) ?_
            intro v315 w29 ho30 hb hg_ hnew_
            clear hg_ hnew_
            (first | rw [← Ny314.out] at ho30 | (simp only [Int.reduceToNat] at ho30; rw [← Ny314.out] at ho30))
            have n0_ := Aside0.mk (Ptr.D_elder' HO295.out (Kd.R_base ho30) hb)
            have n1_ := Aside0.mk (Kd.R_elder' HO298.out (Kd.R_base ho30) hb)
            have n2_ := Aside0.mk (Ptr.D_elder' HO302.out (Kd.R_base ho30) hb)
            have n3_ := Aside0.mk (Kd.R_elder' HO305.out (Kd.R_base ho30) hb)
            have n4_ := Aside0.mk (Kd.V_elder' HO309.out (Kd.R_base ho30) hb)
            have n5_ := Aside0.mk (Kd.V_elder' HO313.out (Kd.R_base ho30) hb)
            have n6_ := Aside0.mk (Kd.R_lower (Kd.R_new' (Kd.R_new' ho30 (Kd.R_lt HO298.out)) (Kd.R_lt HO305.out)) (below_size HB.out))
            have n7_ := Aside0.mk (below_step HB.out hb)
            clear HO295
            clear HO298
            clear HO302
            clear HO305
            clear HO309
            clear HO313
            clear HB
            have HO295 := n0_
            have HO298 := n1_
            have HO302 := n2_
            have HO305 := n3_
            have HO309 := n4_
            have HO313 := n5_
            have HO316 := n6_
            have HB := n7_
            clear n0_ n1_ n2_ n3_ n4_ n5_ n6_ n7_
            clear hb ho30
            refine hK.out _ _ ⟨trivial, Kd.C_string (P := Try.prog) (A := Ao23) (c := co23) Try.underlying22 Try.underlying5 Try.underlying9 (Kd.V_reads' HO309.out).2.2, Kd.C_string (P := Try.prog) (A := Ax313) (c := cx313) Try.underlying22 Try.underlying5 Try.underlying9 (Kd.V_reads' HO313.out).2.2⟩ (fun hHeld => ?_)
            clear hK K
            refine norm_ (a' := ?_) ?_ ?_
            rotate_left
            · show Act.put _ (some 61) _ = _
              simp only [Act.put, List.setIfInBounds_toArray, List.set_cons_zero, List.set_cons_succ, i64_w, i32_w]
              rfl
            refine one_ (i := 22) (N := some 62) #[true, true, true, true, true, true, true, true, true, true, true, true, true, true, true, true, true, true, true, true, true, true, true, false, false, false] rfl rfl (one_of HT_.out (by kernel_rfl)) (by decide) (fun K hK => ?_)
            have hcv31 := own_string (P := Try.prog) Try.underlying22 Try.underlying5 Try.underlying9 (Kd.own_of_R HO316.out)
            refine value_ (w1 := ?_) (v := ?_) (by rfl) rfl ?_ ?_
            rotate_left 2
            · go_simp
              constructor
              · rfl
              · rfl
            clear hcv31
            refine hK.out _ _ hHeld (fun hHeld => ?_)
            clear hK K
            refine norm_ (a' := ?_) ?_ ?_
            rotate_left
            · show Act.put _ (some 62) _ = _
              simp only [Act.put, List.setIfInBounds_toArray, List.set_cons_zero, List.set_cons_succ, i64_w, i32_w]
              rfl
            refine pure_ (i := 23) (N := some 63) (v := ?_) (a' := ?_) #[true, true, true, true, true, true, true, true, true, true, true, true, true, true, true, true, true, true, true, true, true, true, true, true, false, false] rfl rfl (any_of HT_.out (by kernel_rfl)) (fun _ _ _ h => h) (Or.inl ⟨by rfl, ?_⟩) ?_ ?_
            rotate_left
            · intro w'
              go_simp
              with_reducible rfl
            rotate_left
            · simp only [Act.put, List.setIfInBounds_toArray, List.set_cons_zero, List.set_cons_succ, i64_w, i32_w]
              rfl
            refine pure_ (i := 24) (N := some 64) (v := ?_) (a' := ?_) #[true, true, true, true, true, true, true, true, true, true, true, true, true, true, true, true, true, true, true, true, true, true, true, true, true, false] rfl rfl (any_of HT_.out (by kernel_rfl)) (fun _ _ _ h => h) (Or.inl ⟨by rfl, ?_⟩) ?_ ?_
            rotate_left
            · intro w'
              go_simp
              with_reducible rfl
            rotate_left
            · simp only [Act.put, List.setIfInBounds_toArray, List.set_cons_zero, List.set_cons_succ, i64_w, i32_w]
              rfl
            refine pure_ (i := 25) (N := some 0) (v := ?_) (a' := ?_) #[true, true, true, true, true, true, true, true, true, true, true, true, true, true, true, true, true, true, true, true, true, true, true, true, true, true] rfl rfl (any_of HT_.out (by kernel_rfl)) (fun _ _ _ h => h) (Or.inl ⟨by rfl, ?_⟩) ?_ ?_
            rotate_left
            · intro w'
              go_simp
              with_reducible rfl
            rotate_left
            · simp only [Act.put, List.setIfInBounds_toArray, List.set_cons_zero, List.set_cons_succ, i64_w, i32_w]
              rfl
            refine done_ (done_of HT_.out (by kernel_rfl)) ?_
            try go_wp2
            go_ret
            exact ⟨by first | rfl | (simp [errW_none, errW_some] <;> rfl) | (simp [*, errW_none, errW_some] <;> rfl), by repeat (first | (with_reducible first | exact HB.out | apply below_alloc | apply pw_below_drewN | apply below_drew1) | exact HB.out)⟩
        · rw [if_neg c11] at H
          have c11b0 : ((t306.length : Int) == 8) = false := beq_eq_false_iff_ne.mpr c11
          have c11b1 : ((t306.length : Int) != 8) = true := bne_iff_ne.mpr c11
          exact absurd H (by simp)
      · rw [if_neg c10] at H
        have c10b0 : (t311 == 0) = false := beq_eq_false_iff_ne.mpr c10
        have c10b1 : (t311 != 0) = true := bne_iff_ne.mpr c10
        exact absurd H (by simp)
    · rw [if_neg c9] at H
      have c9b0 : (t307 == 0) = false := beq_eq_false_iff_ne.mpr c9
      have c9b1 : (t307 != 0) = true := bne_iff_ne.mpr c9
      exact absurd H (by simp)
  · rw [if_neg c2] at H
    exact absurd H (by simp)

end Go.Proofs.Ytnbopkmhakfmmaa.MDes
