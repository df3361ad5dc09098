/- BitsOne: a table of one number many times takes just that bit: the plain law over the printed functions. Conditions: none beyond the statement's own bounds. -/
import Derived.Test.YtmlkacglddnneaaPBitsOnex2
import Derived.Test.YtmlkacglddnneaaBitsPlain
namespace Go.Proofs.Ytmlkacglddnneaa.Pure
open Go.RowKit Go.Proofs.Ytmlkacglddnneaa.PBitsOne Go.Proofs.YtmlkacglddnneaaW.PrintWords Go.Proofs.YtmlkacglddnneaaW.PrintLast Go.Proofs.Ytmlkacglddnneaa.Plain

/-! ### Bit -/
theorem bit_f (b : List Int) (i : Int) (hb : Bytes b) (hi : i ≤ 9223372036854775807) : bits_Bit.f b i = some (bitv b i) := by
  unfold bits_Bit.f
  by_cases h1 : i < 1
  · rw [if_pos h1]; unfold bitv; rw [if_neg (by omega)]
  · have hbv : bitv b i = b2i (gb b (i - 1).toNat) := by unfold bitv; rw [if_pos (by omega)]
    rw [if_neg h1, hbv]
    have e1 : wrap64 (i - 1) = i - 1 := w_of (by omega) (by omega)
    rw [e1]
    obtain ⟨j, hj⟩ : ∃ j : Nat, i - 1 = j := ⟨(i - 1).toNat, by omega⟩
    rw [hj, Int.toNat_natCast]
    rw [w_div8 (by omega), w_rest8]
    by_cases h2 : ((j / 8 : Nat) : Int) ≥ (b.length : Int)
    · rw [if_pos h2, gb_beyond b j (by omega)]; rfl
    · rw [if_neg h2, if_pos (by omega), if_pos (by omega), if_pos (by omega)]
      congr 1
      rw [shr_u8 _ _ (by omega), Int.toNat_natCast]
      have hx := bytes_getD hb (j / 8)
      rw [rd_nat]
      have hd := div_pow_range _ hx (7 - j % 8)
      have ew : wrap64 (b.getD (j / 8) 0 / 2 ^ (7 - j % 8)) = b.getD (j / 8) 0 / 2 ^ (7 - j % 8) := w_of (by omega) (by omega)
      rw [ew, i64_and1 _ hd.1 (by omega), shr_mod2 _ hx.1]
      rfl

/-! ### the reference's Bit -/
theorem refbit_f (b : List Int) (i : Int) (hl : b.length ≤ 140737488351232) (hb : Bytes b) (hi : i ≤ 9223372036854775807) : scrimref2_Bit.f b i = some (bitv b i) := by
  unfold scrimref2_Bit.f
  by_cases h1 : i < 1
  · rw [if_pos h1]; unfold bitv; rw [if_neg (by omega)]
  · have hbv : bitv b i = b2i (gb b (i - 1).toNat) := by unfold bitv; rw [if_pos (by omega)]
    rw [if_neg h1, hbv, w_mul8 (by omega)]
    by_cases h2 : i > ((8 * b.length : Nat) : Int)
    · rw [if_pos h2, gb_beyond b _ (by omega)]; rfl
    · rw [if_neg h2]
      have e1 : wrap64 (i - 1) = i - 1 := w_of (by omega) (by omega)
      rw [e1]
      clear e1
      obtain ⟨j, hj⟩ : ∃ j : Nat, i - 1 = j := ⟨(i - 1).toNat, by omega⟩
      rw [hj, Int.toNat_natCast]
      rw [w_div8 (by omega), w_rest8, w_u64 (by omega), if_pos (by omega), if_pos (by omega), if_pos (by omega)]
      congr 1
      rw [shr_u8 _ _ (by omega), Int.toNat_natCast]
      have hx := bytes_getD hb (j / 8)
      rw [rd_nat]
      have hd := div_pow_range _ hx (7 - j % 8)
      have ew : wrap64 (b.getD (j / 8) 0 / 2 ^ (7 - j % 8)) = b.getD (j / 8) 0 / 2 ^ (7 - j % 8) := w_of (by omega) (by omega)
      rw [ew, i64_and1 _ hd.1 (by omega), shr_mod2 _ hx.1]
      rfl

/-! ### Permute -/
theorem okT_cons (b : List Int) (n : Int) (t : List Int) : okT b (n :: t) = (decide (1 ≤ n) && decide (n ≤ 8 * (b.length : Int)) && okT b t) := by simp [okT]
theorem drop_cons {t : List Int} {i : Nat} (h : i < t.length) : t.drop i = t.getD i 0 :: t.drop (i + 1) := by
  rw [List.drop_eq_getElem_cons h, List.getD_eq_getElem?_getD, List.getElem?_eq_getElem h]; rfl
theorem wf_getD {t : List Int} (ht : ∀ x ∈ t, (Lit.int .i64 x).wf = true) (i : Nat) : -9223372036854775808 ≤ t.getD i 0 ∧ t.getD i 0 ≤ 9223372036854775807 := by
  rw [List.getD_eq_getElem?_getD]
  by_cases hi : i < t.length
  · rw [List.getElem?_eq_getElem hi]; exact wf_i64 (ht _ (List.getElem_mem hi))
  · rw [List.getElem?_eq_none (by omega)]; simp
theorem permute_loop (b t : List Int) (hb : Bytes b) (htl : t.length ≤ 140737488351232) (ht : ∀ x ∈ t, (Lit.int .i64 x).wf = true) (d : Nat) :
    ∀ (k i : Nat) (x : List Int), i + d = t.length → d < k → x.length = (t.length + 7) / 8 → Bytes x →
      (∀ j, gb x j = (decide (j < i) && gb b (t.getD j 0 - 1).toNat)) →
      bits_Permute.l0 k b t x (t.length : Int) (i : Int) = some (if okT b (t.drop i) then (permL b t, true) else ([], false)) := by
  induction d with
  | zero =>
    intro k i x hd hk hx hbx hg
    obtain ⟨k, rfl⟩ : ∃ m, k = m + 1 := ⟨k - 1, by omega⟩
    obtain rfl : i = t.length := by omega
    simp only [bits_Permute.l0]
    rw [if_neg (by omega), List.drop_length]
    have : x = permL b t := by
      refine gb_ext hbx (permL_bytes b t) (by rw [hx, permL_length]) fun j _ => ?_
      rw [hg j, gb_permL]
    simp [okT, this]
  | succ d ih =>
    intro k i x hd hk hx hbx hg
    obtain ⟨k, rfl⟩ : ∃ m, k = m + 1 := ⟨k - 1, by omega⟩
    have hi : i < t.length := by omega
    simp only [bits_Permute.l0]
    rw [if_pos (by omega), if_pos (by omega), if_pos (by omega), rd_nat, drop_cons hi, okT_cons]
    have hn := wf_getD ht i
    generalize hne : t.getD i 0 = n at hn
    by_cases h1 : n < 1
    · rw [if_pos h1]
      have : decide (1 ≤ n) = false := by simp; omega
      simp [this]
    · rw [if_neg h1]
      have e1 : wrap64 (n - 1) = n - 1 := w_of (by omega) (by omega)
      have e2 : wrap64 (Int.tdiv (n - 1) 8) = (n - 1) / 8 := by
        rw [Int.tdiv_eq_ediv_of_nonneg (by omega)]; exact w_of (by omega) (by omega)
      rw [e1, e2]
      by_cases h2 : (n - 1) / 8 ≥ (b.length : Int)
      · rw [if_pos h2]
        have : decide (n ≤ 8 * (b.length : Int)) = false := by simp; omega
        simp [this]
      · rw [if_neg h2]
        rw [w_div8 (by omega), w_rest8, w_succ (by omega), if_pos (by omega), if_pos (by omega), bit_f b n hb (by omega)]
        simp only [Option.bind_some]
        rw [if_pos (by omega), Int.toNat_natCast]
        have hbv : bitv b n = b2i (gb b (n - 1).toNat) := by unfold bitv; rw [if_pos (by omega)]
        rw [rd_nat, hbv]
        obtain ⟨s0, s1, s2⟩ := or_step (x.getD (i / 8) 0) (bytes_getD hbx (i / 8)) (gb b (n - 1).toNat) (7 - i % 8) (by omega)
        rw [ih k (i + 1) _ (by omega) (by omega) (by simpa using hx) (bytes_set hbx _ ⟨s0, s1⟩) ?_]
        · have a1 : decide (1 ≤ n) = true := by simp; omega
          have a2 : decide (n ≤ 8 * (b.length : Int)) = true := by simp; omega
          simp [a1, a2]
        · intro j
          rw [gb_set x (i / 8) (by omega) _ j, s2]
          by_cases hj : j / 8 = i / 8
          · rw [if_pos hj]
            have hx0 : gb x j = (x.getD (i / 8) 0).toNat.testBit (7 - j % 8) := by unfold gb; rw [hj]
            rw [← hx0, hg j]
            by_cases h3 : j < i
            · have : ¬ (7 - j % 8 = 7 - i % 8) := by omega
              simp [h3, this, Nat.lt_succ_of_lt h3]
            · by_cases h4 : j = i
              · subst h4; rw [hne]; simp
              · have c1 : ¬ j < i + 1 := by omega
                have : ¬ (7 - j % 8 = 7 - i % 8) := by omega
                simp [h3, c1, this]
          · rw [if_neg hj, hg j]
            have : (j < i) ↔ (j < i + 1) := by omega
            simp [this]
theorem permute_f (k : Nat) (b t : List Int) (hb : Bytes b) (htl : t.length ≤ 140737488351232) (ht : ∀ x ∈ t, (Lit.int .i64 x).wf = true) (hk : t.length < k) :
    bits_Permute.f k b t = some (if okT b t then (permL b t, true) else ([], false)) := by
  unfold bits_Permute.f
  rw [w_up8 (by omega), if_pos (by omega), Int.toNat_natCast, if_pos (by omega)]
  have := permute_loop b t hb htl ht t.length k 0 (List.replicate ((t.length + 7) / 8) 0) (by omega) hk (by simp) (bytes_replicate _) (fun j => by rw [gb_replicate]; simp)
  simpa using this
theorem permute_ok {k : Nat} {b t : List Int} (_hl : b.length ≤ 140737488351232) (hb : Bytes b) (htl : t.length ≤ 140737488351232) (hok : okT b t = true) (hk : t.length < k) :
    bits_Permute.f k b t = some (permL b t, true) := by
  rw [permute_f k b t hb htl ?_ hk, hok]; rfl
  intro x hx
  have := List.all_eq_true.1 hok x hx
  simp at this
  simp [Lit.wf, IntKind.min, IntKind.max, IntKind.signed, IntKind.bits]
  omega
/-! ### the chapter's example -/
theorem known_f (k : Nat) (hk : 8 < k) : scrimlaw2_known.f k = some true := by
  unfold scrimlaw2_known.f
  rw [permute_ok (by decide) (by unfold Bytes; decide) (by decide) (by decide) hk]
  simp only [Option.bind_some]
  rw [bit_f _ _ (by unfold Bytes; decide) (by decide)]
  decide +kernel

/-! ### within -/
theorem within_f (a n : Int) (h0 : 0 < n) (h1 : n ≤ 1099511627776) : scrimlaw2_within.f a n = some (a % n) := by
  unfold scrimlaw2_within.f
  rw [if_neg (by omega)]
  have e := Int.tmod_eq_emod (a := a) (b := n)
  have l1 := Int.emod_nonneg a (by omega : n ≠ 0)
  have l2 := Int.emod_lt_of_pos a h0
  by_cases hc : 0 ≤ a ∨ n ∣ a
  · rw [if_pos hc] at e
    rw [if_neg (by omega)]
    congr 1; omega
  · rw [if_neg hc] at e
    have hn : (n.natAbs : Int) = n := by omega
    have hnz : a % n ≠ 0 := fun z => hc (.inr (Int.dvd_of_emod_eq_zero z))
    rw [if_pos (by omega)]
    congr 1
    unfold wrap64; omega

/-! ### the law -/
theorem one_bits (b x : List Int) (i : Int) (k0 : Nat) (hb : Bytes b) (hb40 : b.length ≤ 40) (hx : Bytes x) (hx4 : x.length ≤ 4) (hi : 1 ≤ i ∧ i ≤ 320)
    (hg : ∀ j, j < 8 * x.length → gb x j = (decide (j < k0) && gb b (i - 1).toNat)) (d : Nat) :
    ∀ (k j : Nat), j + d = 8 * x.length → d < k → scrimlaw2_BitsOne.l1 k b i (k0 : Int) x ((j : Int) + 1) = some true := by
  induction d with
  | zero =>
    intro k j hd hk
    obtain ⟨k, rfl⟩ : ∃ m, k = m + 1 := ⟨k - 1, by omega⟩
    simp only [scrimlaw2_BitsOne.l1]
    rw [w_mul8 (by omega), if_neg (by omega)]
  | succ d ih =>
    intro k j hd hk
    obtain ⟨k, rfl⟩ : ∃ m, k = m + 1 := ⟨k - 1, by omega⟩
    simp only [scrimlaw2_BitsOne.l1]
    have bv : bitv x ((j : Int) + 1) = b2i (gb x j) := by
      unfold bitv; rw [if_pos (by omega), show ((j : Int) + 1 - 1).toNat = j from by omega]
    have bw : bitv b i = b2i (gb b (i - 1).toNat) := by unfold bitv; rw [if_pos hi.1]
    have hj := hg j (by omega)
    have := ih k (j + 1) (by omega) (by omega)
    rw [show (((j + 1 : Nat) : Int) + 1) = (j : Int) + 1 + 1 from by omega] at this
    rw [w_mul8 (by omega), if_pos (by omega), w_of (x := (j : Int) + 1 + 1) (by omega) (by omega), this]
    by_cases h : (j : Int) + 1 ≤ (k0 : Int)
    · rw [if_pos h, refbit_f b i (by omega) hb (by omega), Option.bind_some, bit_f x _ hx (by omega), Option.bind_some, bv, bw, hj]
      have h' : j < k0 := by omega
      simp only [h', decide_true, Bool.true_and, if_true]
    · rw [if_neg h, bit_f x _ hx (by omega), Option.bind_some, bv, hj]
      have h' : ¬ j < k0 := by omega
      simp [h', b2i]
theorem one_fill (b : List Int) (i : Int) (k0 : Nat) (hb : Bytes b) (hb40 : b.length ≤ 40) (hk0 : k0 < 30) (hi : 1 ≤ i ∧ i ≤ 8 * (b.length : Int)) (d : Nat) :
    ∀ (k j : Nat), j + d = k0 → d + 100 < k → scrimlaw2_BitsOne.l0 k b i (k0 : Int) (List.replicate j i) (j : Int) = some true := by
  induction d with
  | zero =>
    intro k j hd hk
    obtain ⟨k, rfl⟩ : ∃ m, k = m + 1 := ⟨k - 1, by omega⟩
    obtain rfl : j = k0 := by omega
    have hlr : (List.replicate j i).length = j := List.length_replicate
    have hok : okT b (List.replicate j i) = true := by
      refine List.all_eq_true.2 fun x hx => ?_
      have := (List.mem_replicate.1 hx).2
      rw [Bool.and_eq_true, decide_eq_true_eq, decide_eq_true_eq]
      omega
    simp only [scrimlaw2_BitsOne.l0]
    rw [if_neg (by omega), permute_ok (by omega) hb (by omega) hok (by omega), Option.bind_some, if_pos rfl]
    dsimp only
    have hpl : (permL b (List.replicate j i)).length = (j + 7) / 8 := by rw [permL_length, hlr]
    rw [hpl, w_up7 (by omega), show ((((j + 7) / 8 : Nat) : Int) != (((j + 7) / 8 : Nat) : Int)) = false from by simp]
    obtain ⟨k, rfl⟩ : ∃ m, k = m + 1 := ⟨k - 1, by omega⟩
    simp only [scrimlaw2_BitsOne.j2]
    rw [if_neg (by simp)]
    refine one_bits b (permL b (List.replicate j i)) i j hb hb40 (permL_bytes _ _) (by omega) (by omega) (fun q _ => ?_) (8 * (permL b (List.replicate j i)).length) k 0 (by omega) (by omega)
    rw [gb_permL, hlr]
    by_cases h : q < j
    · have : (List.replicate j i).getD q 0 = i := by
        rw [List.getD_eq_getElem?_getD, List.getElem?_replicate, if_pos h]; rfl
      rw [this]
    · simp only [h, decide_false, Bool.false_and]
  | succ d ih =>
    intro k j hd hk
    obtain ⟨k, rfl⟩ : ∃ m, k = m + 1 := ⟨k - 1, by omega⟩
    simp only [scrimlaw2_BitsOne.l0]
    rw [if_pos (by omega), if_pos (by rw [List.length_replicate]; omega), w_succ (by omega), ← List.replicate_succ']
    exact ih k (j + 1) (by omega) (by omega)

theorem BitsOne : scrimlaw2_BitsOne.Pure := by
  intro b a n _ hb1 hb _ _
  obtain ⟨K, hK⟩ : ∃ K : Nat, 1000 ≤ K := ⟨_, Nat.le_refl _⟩
  refine ⟨K, ?_⟩
  unfold scrimlaw2_BitsOne.f
  rw [known_f _ (by omega), Option.bind_some, if_pos rfl]
  obtain ⟨K, rfl⟩ : ∃ m, K = m + 1 := ⟨K - 1, by omega⟩
  by_cases h : (b.length : Int) > 40
  · rw [if_pos h]
    simp only [scrimlaw2_BitsOne.j0]
    rw [if_pos trivial]
  · rw [if_neg h]
    simp only [scrimlaw2_BitsOne.j0]
    by_cases h0 : ((b.length : Int) == 0) = true
    · rw [if_pos h0]
    · rw [if_neg h0]
      have hl : b.length ≠ 0 := by intro e; rw [e] at h0; simp at h0
      have hbb : Bytes b := fun x hx => wf_u8 (hb x hx)
      rw [w_mul8 (by omega), within_f a _ (by omega) (by omega), Option.bind_some, within_f n 30 (by omega) (by omega), Option.bind_some]
      have l1 := Int.emod_nonneg a (by omega : ((8 * b.length : Nat) : Int) ≠ 0)
      have l2 := Int.emod_lt_of_pos a (by omega : (0 : Int) < ((8 * b.length : Nat) : Int))
      have l3 := Int.emod_nonneg n (by omega : (30 : Int) ≠ 0)
      have l4 := Int.emod_lt_of_pos n (by omega : (0 : Int) < 30)
      generalize a % ((8 * b.length : Nat) : Int) = a' at l1 l2
      obtain ⟨k0, hk0⟩ : ∃ k0 : Nat, n % 30 = k0 := ⟨(n % 30).toNat, by omega⟩
      rw [hk0] at l4 ⊢
      rw [w_of (x := 1 + a') (by omega) (by omega)]
      exact one_fill b (1 + a') k0 hbb (by omega) (by omega) (by omega) k0 K 0 (by omega) (by omega)

end Go.Proofs.Ytmlkacglddnneaa.Pure
