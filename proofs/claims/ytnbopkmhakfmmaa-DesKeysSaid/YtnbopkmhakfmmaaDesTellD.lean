/- DesTellD: what the reference of chapter 2 comes to, and Both: plain laws over the printed functions. Conditions: bytes, and bounds on lengths. -/
import Derived.Test.YtnbopkmhakfmmaaDesTellA
import Derived.Test.YtnbopkmhakfmmaaMDesj
namespace Go.Proofs.Ytnbopkmhakfmmaa.Pure
open Go.RowKit Go.Proofs.Ytnbopkmhakfmmaa.MDes Go.Proofs.YtnbopkmhakfmmaaW.PrintWords Go.Proofs.YtnbopkmhakfmmaaW.PrintLast Go.Proofs.YtnbopkmhakfmmaaW.PrintMore Go.Proofs.Ytnbopkmhakfmmaa.Plain

/-! ### the reference's Bit -/
theorem refbit_f (b : List Int) (i : Int) (hl : b.length ≤ 140737488351232) (hb : Bytes b) (hi : i ≤ 9223372036854775807) : scrimref2_Bit.f b i = some (bitv b i) := by
  unfold scrimref2_Bit.f
  by_cases h1 : i < 1
  · rw [if_pos h1]; unfold bitv; rw [if_neg (by omega)]
  · have hbv : bitv b i = b2i (gb b (i - 1).toNat) := by unfold bitv; rw [if_pos (by omega)]
    rw [if_neg h1, hbv, w_mul8 (by omega)]
    by_cases h2 : i > ((8 * b.length : Nat) : Int)
    · rw [if_pos h2, gb_beyond b _ (by omega)]; rfl
    · rw [if_neg h2]
      have e1 : wrap64 (i - 1) = i - 1 := w_of (by omega) (by omega)
      rw [e1]
      clear e1
      obtain ⟨j, hj⟩ : ∃ j : Nat, i - 1 = j := ⟨(i - 1).toNat, by omega⟩
      rw [hj, Int.toNat_natCast]
      rw [w_div8 (by omega), w_rest8, w_u64 (by omega), if_pos (by omega), if_pos (by omega), if_pos (by omega)]
      congr 1
      rw [shr_u8 _ _ (by omega), Int.toNat_natCast]
      have hx := bytes_getD hb (j / 8)
      rw [rd_nat]
      have hd := div_pow_range _ hx (7 - j % 8)
      have ew : wrap64 (b.getD (j / 8) 0 / 2 ^ (7 - j % 8)) = b.getD (j / 8) 0 / 2 ^ (7 - j % 8) := w_of (by omega) (by omega)
      rw [ew, i64_and1 _ hd.1 (by omega), shr_mod2 _ hx.1]
      rfl

/-! ### the reference's Permute, By, Both -/
theorem shl_one : ∀ s : Fin 8, shl .u8 1 (s.val : Int) = shl .i64 (b2i true) (s.val : Int) % 256 := by decide +kernel
theorem refpermute_loop (b t : List Int) (hb : Bytes b) (hbl : b.length ≤ 140737488351232) (htl : t.length ≤ 140737488351232) (ht : ∀ x ∈ t, 1 ≤ x ∧ x ≤ 8 * (b.length : Int)) (d : Nat) :
    ∀ (k i : Nat) (x : List Int), i + d = t.length → 2 * d < k → x.length = (t.length + 7) / 8 → Bytes x →
      (∀ j, gb x j = (decide (j < i) && gb b (t.getD j 0 - 1).toNat)) →
      scrimref2_Permute.l0 k b t x (i : Int) = some (permL b t, true) := by
  induction d with
  | zero =>
    intro k i x hd hk hx hbx hg
    obtain ⟨k, rfl⟩ : ∃ m, k = m + 1 := ⟨k - 1, by omega⟩
    obtain rfl : i = t.length := by omega
    rw [scrimref2_Permute.l0, if_neg (by omega)]
    have : x = permL b t := by
      refine gb_ext hbx (permL_bytes b t) (by rw [hx, permL_length]) fun j _ => ?_
      rw [hg j, gb_permL]
    rw [this]
  | succ d ih =>
    intro k i x hd hk hx hbx hg
    obtain ⟨k, rfl⟩ : ∃ m, k = m + 2 := ⟨k - 2, by omega⟩
    have hi : i < t.length := by omega
    have hn := ht _ (getD_mem hi)
    have w8 : wrap64 (8 * (b.length : Int)) = 8 * (b.length : Int) := w_of (by omega) (by omega)
    have e7 : IntKind.u64.wrap (wrap64 (7 - Int.tmod (i : Int) 8)) = ((7 - i % 8 : Nat) : Int) := by rw [w_rest8, w_u64 (by omega)]
    rw [scrimref2_Permute.l0, if_pos (by omega), if_pos (by omega), rd_nat, if_neg (by omega), w8]
    have e : decide (t.getD i 0 > 8 * (b.length : Int)) = false := decide_eq_false (by omega)
    rw [e, scrimref2_Permute.j1, if_neg (by decide), if_pos (by omega), if_pos (by omega), rd_nat, refbit_f b _ hbl hb (by omega), Option.bind_some]
    have hbv : bitv b (t.getD i 0) = b2i (gb b (t.getD i 0 - 1).toNat) := by unfold bitv; rw [if_pos (by omega)]
    rw [hbv, w_div8 (by omega), e7, w_succ (by omega), rd_nat, Int.toNat_natCast]
    cases hv : gb b (t.getD i 0 - 1).toNat with
    | true =>
      rw [if_pos (show b2i true = 1 from rfl), if_pos (by omega), if_pos (by omega), if_pos (by omega)]
      have hs := shl_one ⟨7 - i % 8, by omega⟩
      simp only at hs
      rw [hs]
      obtain ⟨s0, s1, s2⟩ := or_step (x.getD (i / 8) 0) (bytes_getD hbx (i / 8)) true (7 - i % 8) (by omega)
      refine ih k (i + 1) _ (by omega) (by omega) (by rw [List.length_set]; exact hx) (bytes_set hbx _ ⟨s0, s1⟩) fun j => ?_
      rw [gb_set x (i / 8) (by omega) _ j, s2]
      by_cases hj : j / 8 = i / 8
      · rw [if_pos hj]
        have hx0 : gb x j = (x.getD (i / 8) 0).toNat.testBit (7 - j % 8) := by unfold gb; rw [hj]
        rw [← hx0, hg j]
        by_cases h3 : j < i
        · have : ¬ (7 - j % 8 = 7 - i % 8) := by omega
          simp [h3, this, Nat.lt_succ_of_lt h3]
        · by_cases h4 : j = i
          · subst h4; rw [hv]; simp
          · have c1 : ¬ j < i + 1 := by omega
            have : ¬ (7 - j % 8 = 7 - i % 8) := by omega
            simp [h3, c1, this]
      · rw [if_neg hj, hg j]
        have : (j < i) ↔ (j < i + 1) := by omega
        simp [this]
    | false =>
      rw [if_neg (show ¬ b2i false = 1 by decide)]
      refine ih k (i + 1) _ (by omega) (by omega) hx hbx fun j => ?_
      rw [hg j]
      by_cases h4 : j = i
      · subst h4; rw [hv]; simp
      · have : (j < i) ↔ (j < i + 1) := by omega
        simp [this]
theorem by_f (k : Nat) (b t : List Int) (hb : Bytes b) (hbl : b.length ≤ 1000) (htl : t.length ≤ 1000) (hok : inT (8 * b.length) t = true) (hk : 2100 ≤ k) : scrimref2_By.f k b t = some (permL b t) := by
  have h := refpermute_loop b t hb (by omega) (by omega) (fun x hx => by
    have := List.all_eq_true.1 hok x hx
    simp only [Bool.and_eq_true, decide_eq_true_eq] at this
    omega) t.length k 0 (List.replicate ((t.length + 7) / 8) 0) (by omega) (by omega) (by simp) (bytes_replicate _) (fun j => by rw [gb_replicate]; simp)
  rw [show ((0 : Nat) : Int) = 0 from rfl] at h
  unfold scrimref2_By.f scrimref2_Permute.f
  rw [w_up7 (by omega), if_pos (by omega), Int.toNat_natCast, if_pos (by omega), h, Option.bind_some]
theorem both_loop (a b : List Int) (ha : Bytes a) (hb : Bytes b) (hl : a.length = b.length) (hm : a.length ≤ 140737488351232) (d : Nat) : ∀ (k i : Nat) (x : List Int), i + d = a.length → d < k → x.length = a.length → Bytes x →
      (∀ j, gb x j = (decide (j < 8 * i) && (gb a j ^^ gb b j))) → scrimref1_Both.l0 k a b x (i : Int) = some (xorL a b) := by
  induction d with
  | zero =>
    intro k i x hd hk hx hbx hg
    obtain ⟨k, rfl⟩ : ∃ m, k = m + 1 := ⟨k - 1, by omega⟩
    rw [scrimref1_Both.l0, if_neg (by omega)]
    have : x = xorL a b := gb_ext hbx (xorL_bytes _ _) (by rw [hx, xorL_length]) fun j hj => by
      rw [hg, gb_xorL _ _ hl]; simp; intro h; omega
    rw [this]
  | succ d ih =>
    intro k i x hd hk hx hbx hg
    obtain ⟨k, rfl⟩ : ∃ m, k = m + 1 := ⟨k - 1, by omega⟩
    have hxs := xor_step _ _ (bytes_getD ha i) (bytes_getD hb i)
    rw [scrimref1_Both.l0, if_pos (by omega), if_pos (by omega), if_pos (by omega), if_pos (by omega), w_succ (by omega), Int.toNat_natCast, rd_nat, rd_nat]
    refine ih k (i + 1) _ (by omega) (by omega) (by rw [List.length_set]; exact hx) (bytes_set hbx _ hxs.1) fun j => ?_
    rw [gb_set x i (by omega) _ j, hxs.2]
    by_cases hj : j / 8 = i
    · rw [if_pos hj]
      have e1 : gb a j = (a.getD i 0).toNat.testBit (7 - j % 8) := by unfold gb; rw [hj]
      have e2 : gb b j = (b.getD i 0).toNat.testBit (7 - j % 8) := by unfold gb; rw [hj]
      rw [← e1, ← e2]
      have : j < 8 * (i + 1) := by omega
      simp [this]
    · rw [if_neg hj, hg j]
      have : (j < 8 * i) ↔ (j < 8 * (i + 1)) := by omega
      simp [this]
theorem both_f (k : Nat) (a b : List Int) (ha : Bytes a) (hb : Bytes b) (hl : a.length = b.length) (hm : a.length ≤ 1000) (hk : a.length < k) : scrimref1_Both.f k a b = some (xorL a b) := by
  unfold scrimref1_Both.f
  rw [if_pos (by omega), Int.toNat_natCast, if_pos (by omega)]
  exact both_loop a b ha hb hl (by omega) a.length k 0 _ (by omega) hk (by simp) (bytes_replicate _) fun j => by rw [gb_replicate]; simp

end Go.Proofs.Ytnbopkmhakfmmaa.Pure
