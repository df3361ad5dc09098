/- DesTellB: what F of the program comes to: plain laws over the printed functions. Conditions: bytes, and bounds on lengths. -/
import Derived.Test.YtnbopkmhakfmmaaDesTellA
import Derived.Test.YtnbopkmhakfmmaaMDese
namespace Go.Proofs.Ytnbopkmhakfmmaa.Pure
open Go.RowKit Go.Proofs.Ytnbopkmhakfmmaa.MDes Go.Proofs.YtnbopkmhakfmmaaW.PrintWords Go.Proofs.YtnbopkmhakfmmaaW.PrintLast Go.Proofs.YtnbopkmhakfmmaaW.PrintMore Go.Proofs.Ytnbopkmhakfmmaa.Plain

/-! ### F -/
theorem nib_or : ∀ (x : Fin 256) (v : Fin 16) (h : Bool), ∃ y, y < 256 ∧ bits .or .u8 (x.val : Int) (((v.val * (if h then 16 else 1) : Nat) : Int)) = ((y : Nat) : Int) ∧ y = x.val ||| (v.val * (if h then 16 else 1)) := by
  intro x v h
  have hv : v.val * (if h then 16 else 1) < 256 := by cases h <;> simp <;> omega
  have hx := x.isLt
  refine ⟨x.val ||| (v.val * (if h then 16 else 1)), ?_, ?_, rfl⟩
  · have := Nat.or_lt_two_pow (n := 8) (x := x.val) (y := v.val * (if h then 16 else 1)) (by omega) (by omega)
    omega
  · rw [u8_or _ _ (by omega) (by omega) (by omega) (by omega), Int.toNat_natCast, Int.toNat_natCast]
/-- A nibble laid into a byte. -/
theorem nib_step (x : Int) (hx : 0 ≤ x ∧ x < 256) (v : Nat) (hv : v < 16) (s : Nat) (hs : s = 0 ∨ s = 4) :
    (0 ≤ bits .or .u8 x ((v : Int) * 2 ^ s) ∧ bits .or .u8 x ((v : Int) * 2 ^ s) < 256) ∧
      ∀ q, (bits .or .u8 x ((v : Int) * 2 ^ s)).toNat.testBit q = (x.toNat.testBit q || (decide (s ≤ q) && v.testBit (q - s))) := by
  obtain ⟨y, hy, h1, h2⟩ := nib_or ⟨x.toNat, by omega⟩ ⟨v, hv⟩ (decide (s = 4))
  have e : (v : Int) * 2 ^ s = ((v * (if decide (s = 4) then 16 else 1) : Nat) : Int) := by
    rcases hs with rfl | rfl
    · simp
    · simp
  simp only at h1 h2
  rw [show ((x.toNat : Nat) : Int) = x by omega, ← e] at h1
  rw [h1]
  refine ⟨⟨by omega, by omega⟩, fun q => ?_⟩
  rw [Int.toNat_natCast, h2, Nat.testBit_or]
  congr 1
  rcases hs with rfl | rfl
  · simp
  · simp only [decide_true, if_true]
    rw [show 16 = 2 ^ 4 from rfl, Nat.testBit_mul_two_pow]
theorem sval_lt (x : List Int) (i : Nat) : sval x i < 16 := by
  have h : ∀ b ∈ boxN, ∀ v ∈ b, v < 16 := by decide +kernel
  unfold sval
  generalize spot x i = p
  rw [List.getD_eq_getElem?_getD, List.getD_eq_getElem?_getD]
  by_cases hi : i < boxN.length
  · rw [List.getElem?_eq_getElem hi, Option.getD_some]
    by_cases hp : p < (boxN[i]).length
    · rw [List.getElem?_eq_getElem hp, Option.getD_some]
      exact h _ (List.getElem_mem hi) _ (List.getElem_mem hp)
    · rw [List.getElem?_eq_none (by omega)]; decide
  · rw [List.getElem?_eq_none (by omega : boxN.length ≤ i)]; simp
def rowI (b0 b5 : Bool) : Int := wrap64 ((wrap64 (2 * b2i b0)) + b2i b5)
def placeI (b1 b2 b3 b4 : Bool) : Int := wrap64 ((wrap64 (2 * (wrap64 ((wrap64 (2 * (wrap64 ((wrap64 (2 * (wrap64 ((wrap64 (2 * 0)) + b2i b1)))) + b2i b2)))) + b2i b3)))) + b2i b4)
theorem box_tells : ∀ (i : Fin 8) (b0 b1 b2 b3 b4 b5 : Bool), ∃ s, des_boxes.f (i.val : Int) (rowI b0 b5) = some s ∧ 0 ≤ placeI b1 b2 b3 b4 ∧ placeI b1 b2 b3 b4 < (s.size : Int) ∧
    des_sign.f (bt s (placeI b1 b2 b3 b4)) = some (((boxN.getD i.val []).getD (16 * (2 * bn b0 + bn b5) + (8 * bn b1 + 4 * bn b2 + 2 * bn b3 + bn b4)) 0 : Nat) : Int) := by
  intro i b0 b1 b2 b3 b4 b5
  have hr0 : ∀ b0 b5, rowI b0 b5 = 2 * b2i b0 + b2i b5 := by decide +kernel
  have hr := hr0 b0 b5
  refine ⟨boxT (i.val : Int) (rowI b0 b5).toNat, ?_, ?_⟩
  · unfold des_boxes.f
    have h1 := b2i_range b0
    have h2 := b2i_range b5
    rw [if_pos (by omega), if_pos (by omega)]
  · revert b0 b1 b2 b3 b4 b5 i
    decide +kernel

theorem bit_at (x : List Int) (hb : Bytes x) (n : Nat) (hn : n ≤ 1000) (m : Int) (hm : m = (n : Int) + 1) : bits_Bit.f x m = some (b2i (gb x n)) := by
  subst hm
  rw [bit_f x _ hb (by omega)]
  unfold bitv
  rw [if_pos (by omega), show ((n : Int) + 1 - 1).toNat = n by omega]
theorem mixed_f : des_mixed.f = some mixT := rfl
theorem sOut_length (x : List Int) : (sOut x).length = 4 := pack_length _ _
theorem sOut_bytes (x : List Int) : Bytes (sOut x) := pack_bytes _ _
/-- The out that a box is laid into. -/
def outPut (out : List Int) (i : Nat) (v : Int) : List Int := out.set (i / 2) (bits .or .u8 (rd out ((i / 2 : Nat) : Int)) (shl .u8 v ((4 * (1 - i % 2) : Nat) : Int)))
theorem shl_nib (v : Nat) (hv : v < 16) (s : Nat) (hs : s = 0 ∨ s = 4) : shl .u8 (v : Int) (s : Int) = (v : Int) * 2 ^ s := by
  unfold shl
  rw [Int.toNat_natCast, Nat.min_eq_left (by simp [IntKind.bits]; omega), IntKind.wrap_u8']
  rcases hs with rfl | rfl
  · simp; omega
  · simp; omega
theorem outPut_gb (x out : List Int) (hl : out.length = 4) (hb : Bytes out) (i : Nat) (hi : i < 8) (hg : ∀ j, gb out j = (decide (j < 4 * i) && (sval x (j / 4)).testBit (3 - j % 4))) :
    (outPut out i (sval x i : Nat)).length = 4 ∧ Bytes (outPut out i (sval x i : Nat)) ∧ ∀ j, gb (outPut out i (sval x i : Nat)) j = (decide (j < 4 * (i + 1)) && (sval x (j / 4)).testBit (3 - j % 4)) := by
  have hv := sval_lt x i
  have hs : 4 * (1 - i % 2) = 0 ∨ 4 * (1 - i % 2) = 4 := by omega
  unfold outPut
  rw [rd_nat, shl_nib _ hv _ hs]
  obtain ⟨h1, h2⟩ := nib_step (out.getD (i / 2) 0) (bytes_getD hb _) (sval x i) hv _ hs
  refine ⟨by rw [List.length_set, hl], bytes_set hb _ h1, fun j => ?_⟩
  rw [gb_set out (i / 2) (by omega) _ j, h2]
  by_cases hj : j / 8 = i / 2
  · rw [if_pos hj]
    have e0 : (out.getD (i / 2) 0).toNat.testBit (7 - j % 8) = gb out j := by unfold gb; rw [hj]
    rw [e0, hg]
    by_cases c1 : j / 4 = i
    · have a1 : ¬ j < 4 * i := by omega
      have a2 : j < 4 * (i + 1) := by omega
      have a3 : 4 * (1 - i % 2) ≤ 7 - j % 8 := by omega
      have a4 : 7 - j % 8 - 4 * (1 - i % 2) = 3 - j % 4 := by omega
      rw [a4, c1]
      simp [a1, a2, a3]
    · by_cases c2 : j / 4 < i
      · have a1 : j < 4 * i := by omega
        have a2 : j < 4 * (i + 1) := by omega
        have a3 : (sval x i).testBit (7 - j % 8 - 4 * (1 - i % 2)) = false := Nat.testBit_lt_two_pow (Nat.lt_of_lt_of_le hv (by
          have : 4 ≤ 7 - j % 8 - 4 * (1 - i % 2) := by omega
          exact (Nat.pow_le_pow_right (n := 2) (by decide) this : 2 ^ 4 ≤ _)))
        simp [a1, a2, a3]
      · have a1 : ¬ j < 4 * i := by omega
        have a2 : ¬ j < 4 * (i + 1) := by omega
        have a3 : ¬ 4 * (1 - i % 2) ≤ 7 - j % 8 := by omega
        simp [a1, a2, a3]
  · rw [if_neg hj, hg]
    have : (j < 4 * i) ↔ (j < 4 * (i + 1)) := by omega
    simp [this]
/-- The last part of a box's turn. -/
theorem f_box (k : Nat) (x out : List Int) (i : Nat) (hi : i < 8) (hl : out.length = 4) (at_ : Int) (b0 b1 b2 b3 b4 b5 : Bool) :
    des_F.l1 (k + 1) x out (i : Int) at_ (rowI b0 b5) (placeI b1 b2 b3 b4) 5 =
      if i + 1 < 8 then des_F.l0 k x (outPut out i ((boxN.getD i []).getD (16 * (2 * bn b0 + bn b5) + (8 * bn b1 + 4 * bn b2 + 2 * bn b3 + bn b4)) 0 : Nat)) ((i + 1 : Nat) : Int)
      else (bits_Permute.f k (outPut out i ((boxN.getD i []).getD (16 * (2 * bn b0 + bn b5) + (8 * bn b1 + 4 * bn b2 + 2 * bn b3 + bn b4)) 0 : Nat)) mixT).bind fun r => some (r.1, r.2) := by
  obtain ⟨s, h1, h2, h3, h4⟩ := box_tells ⟨i, hi⟩ b0 b1 b2 b3 b4 b5
  simp only at h1 h4
  generalize (boxN.getD i []).getD (16 * (2 * bn b0 + bn b5) + (8 * bn b1 + 4 * bn b2 + 2 * bn b3 + bn b4)) 0 = v at h4 ⊢
  generalize rowI b0 b5 = row at h1 ⊢
  generalize placeI b1 b2 b3 b4 = place at h2 h3 h4 ⊢
  simp only [des_F.l1]
  have e1 : wrap64 (Int.tdiv (i : Int) 2) = ((i / 2 : Nat) : Int) := by rw [Int.tdiv_eq_ediv_of_nonneg (by omega)]; unfold wrap64; omega
  have e2 : wrap64 (4 * (wrap64 (1 - (Int.tmod (i : Int) 2)))) = ((4 * (1 - i % 2) : Nat) : Int) := by
    rw [Int.tmod_eq_emod_of_nonneg (by omega), w_of (x := 1 - (i : Int) % 2) (by omega) (by omega)]; unfold wrap64; omega
  rw [if_neg (by omega), e1, if_pos (by omega), if_pos (by omega), h1, Option.bind_some, if_pos h2, if_pos h3, h4, Option.bind_some, e2, if_pos (by omega), Option.bind_some, Int.toNat_natCast, w_succ (by omega)]
  unfold outPut
  by_cases h : i + 1 < 8
  · rw [if_pos (by omega), if_pos h]
  · rw [if_neg (by omega), if_neg h, mixed_f, Option.bind_some]
theorem f_turn (k : Nat) (x out : List Int) (hx : Bytes x) (i : Nat) (hi : i < 8) (hl : out.length = 4) :
    des_F.l0 (k + 6) x out (i : Int) =
      if i + 1 < 8 then des_F.l0 k x (outPut out i (sval x i : Nat)) ((i + 1 : Nat) : Int)
      else (bits_Permute.f k (outPut out i (sval x i : Nat)) mixT).bind fun r => some (r.1, r.2) := by
  have w1 : wrap64 (6 * (i : Int)) = 6 * (i : Int) := w_of (by omega) (by omega)
  have w2 : wrap64 (6 * (i : Int) + 1) = 6 * (i : Int) + 1 := w_of (by omega) (by omega)
  have w3 : wrap64 (6 * (i : Int) + 1 + 5) = 6 * (i : Int) + 6 := by unfold wrap64; omega
  have w4 : wrap64 (6 * (i : Int) + 1 + 1) = 6 * (i : Int) + 2 := by unfold wrap64; omega
  have w5 : wrap64 (6 * (i : Int) + 1 + 2) = 6 * (i : Int) + 3 := by unfold wrap64; omega
  have w6 : wrap64 (6 * (i : Int) + 1 + 3) = 6 * (i : Int) + 4 := by unfold wrap64; omega
  have w7 : wrap64 (6 * (i : Int) + 1 + 4) = 6 * (i : Int) + 5 := by unfold wrap64; omega
  have s1 : wrap64 (1 + 1) = 2 := by decide +kernel
  have s2 : wrap64 (2 + 1) = 3 := by decide +kernel
  have s3 : wrap64 (3 + 1) = 4 := by decide +kernel
  have s4 : wrap64 (4 + 1) = 5 := by decide +kernel
  have b0 := bit_at x hx (6 * i) (by omega) (6 * (i : Int) + 1) (by omega)
  have b5 := bit_at x hx (6 * i + 5) (by omega) (6 * (i : Int) + 6) (by omega)
  have b1 := bit_at x hx (6 * i + 1) (by omega) (6 * (i : Int) + 2) (by omega)
  have b2 := bit_at x hx (6 * i + 2) (by omega) (6 * (i : Int) + 3) (by omega)
  have b3 := bit_at x hx (6 * i + 3) (by omega) (6 * (i : Int) + 4) (by omega)
  have b4 := bit_at x hx (6 * i + 4) (by omega) (6 * (i : Int) + 5) (by omega)
  have e0 : des_F.l0 (k + 6) x out (i : Int) = des_F.l1 (k + 5) x out (i : Int) (6 * (i : Int) + 1) (rowI (gb x (6 * i)) (gb x (6 * i + 5))) 0 1 := by
    simp only [des_F.l0]
    rw [w1, w2, w3, b0, Option.bind_some, b5, Option.bind_some]; rfl
  have e1 : ∀ (row : Int), des_F.l1 (k + 5) x out (i : Int) (6 * (i : Int) + 1) row 0 1 = des_F.l1 (k + 1) x out (i : Int) (6 * (i : Int) + 1) row (placeI (gb x (6 * i + 1)) (gb x (6 * i + 2)) (gb x (6 * i + 3)) (gb x (6 * i + 4))) 5 := by
    intro row
    rw [show k + 5 = (k + 4) + 1 from rfl, des_F.l1, if_pos (by decide), w4, b1, Option.bind_some, s1]
    rw [show k + 4 = (k + 3) + 1 from rfl, des_F.l1, if_pos (by decide), w5, b2, Option.bind_some, s2]
    rw [show k + 3 = (k + 2) + 1 from rfl, des_F.l1, if_pos (by decide), w6, b3, Option.bind_some, s3]
    rw [show k + 2 = (k + 1) + 1 from rfl, des_F.l1, if_pos (by decide), w7, b4, Option.bind_some, s4]
    rfl
  rw [e0, e1, f_box k x out i hi hl]
  unfold sval spot
  rfl
theorem f_loop (x : List Int) (hx : Bytes x) (d : Nat) : ∀ (k i : Nat) (out : List Int), i + d = 7 → d * 6 + 100 ≤ k → out.length = 4 → Bytes out → (∀ j, gb out j = (decide (j < 4 * i) && (sval x (j / 4)).testBit (3 - j % 4))) →
    des_F.l0 k x out (i : Int) = some (permL (sOut x) mixT, true) := by
  induction d with
  | zero =>
    intro k i out hd hk hl hb hg
    obtain ⟨k, rfl⟩ : ∃ m, k = m + 6 := ⟨k - 6, by omega⟩
    obtain rfl : i = 7 := by omega
    obtain ⟨h1, h2, h3⟩ := outPut_gb x out hl hb 7 (by omega) hg
    rw [f_turn k x out hx 7 (by omega) hl, if_neg (by omega)]
    have e : outPut out 7 (sval x 7 : Nat) = sOut x := gb_ext h2 (pack_bytes _ _) (by rw [h1]; exact (pack_length _ _).symm) fun j hj => by
      rw [h3]
      unfold sOut
      rw [gb_pack]
    rw [e, permute_ok (by rw [sOut_length]; omega) (sOut_bytes x) (by decide) (okT_of (n := 32) (by decide +kernel) (by rw [sOut_length])) (by rw [show mixT.length = 32 from rfl]; omega)]
    rfl
  | succ d ih =>
    intro k i out hd hk hl hb hg
    obtain ⟨k, rfl⟩ : ∃ m, k = m + 6 := ⟨k - 6, by omega⟩
    obtain ⟨h1, h2, h3⟩ := outPut_gb x out hl hb i (by omega) hg
    rw [f_turn k x out hx i (by omega) hl, if_pos (by omega)]
    exact ih k (i + 1) _ (by omega) (by omega) h1 h2 h3
theorem F_f (k : Nat) (hk : 1000 ≤ k) (r q : List Int) (hr : Bytes r) (hq : Bytes q) : des_F.f k r q = some (if r.length = 4 ∧ q.length = 6 then (FL r q, true) else ([], false)) := by
  obtain ⟨k, rfl⟩ : ∃ m, k = m + 1 := ⟨k - 1, by omega⟩
  unfold des_F.f
  by_cases h1 : r.length = 4
  · rw [if_pos (by omega)]
    by_cases h2 : q.length = 6
    · have e : ((q.length : Int) != 6) = false := by rw [h2]; rfl
      rw [e, if_pos ⟨h1, h2⟩]
      simp only [des_F.j0]
      rw [if_neg (by decide), wide_f k (by omega), Option.bind_some, permute_ok (by omega) hr (by decide) (okT_of (n := 32) (by decide +kernel) (by omega)) (by rw [show wideT.length = 48 from rfl]; omega), Option.bind_some]
      simp only
      rw [xor_f k _ _ (permL_bytes _ _) hq (by rw [wide_length, h2]) (by rw [wide_length]; omega) (by rw [wide_length]; omega), Option.bind_some, if_pos (by omega)]
      exact f_loop _ (xorL_bytes _ _) 7 k 0 _ (by omega) (by omega) (by simp) (bytes_replicate 4) (fun j => by rw [gb_replicate]; simp)
    · have e : ((q.length : Int) != 6) = true := bne_iff_ne.2 (by omega)
      rw [e, if_neg (fun h => h2 h.2)]
      simp only [des_F.j0]
      rw [if_pos trivial]
  · rw [if_neg (by omega), if_neg (fun h => h1 h.1)]
    simp only [des_F.j0]
    rw [if_pos trivial]

end Go.Proofs.Ytnbopkmhakfmmaa.Pure
