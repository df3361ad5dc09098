/- BitsKnown: the six answers of the chapter are just these: the plain law over the printed functions. Conditions: none beyond the statement's own bounds. -/
import Derived.Test.YtmlkacglddnneaaMBitsKnownx2
import Derived.Test.YtmlkacglddnneaaInvPlain
namespace Go.Proofs.Ytmlkacglddnneaa.Pure
open Go.RowKit Go.Proofs.Ytmlkacglddnneaa.MBitsKnown Go.Proofs.YtmlkacglddnneaaW.PrintWords Go.Proofs.YtmlkacglddnneaaW.PrintLast Go.Proofs.Ytmlkacglddnneaa.Plain

/-! ### Bit -/
theorem bit_f (b : List Int) (i : Int) (hb : Bytes b) (hi : i ≤ 9223372036854775807) : bits_Bit.f b i = some (bitv b i) := by
  unfold bits_Bit.f
  by_cases h1 : i < 1
  · rw [if_pos h1]; unfold bitv; rw [if_neg (by omega)]
  · have hbv : bitv b i = b2i (gb b (i - 1).toNat) := by unfold bitv; rw [if_pos (by omega)]
    rw [if_neg h1, hbv]
    have e1 : wrap64 (i - 1) = i - 1 := w_of (by omega) (by omega)
    rw [e1]
    obtain ⟨j, hj⟩ : ∃ j : Nat, i - 1 = j := ⟨(i - 1).toNat, by omega⟩
    rw [hj, Int.toNat_natCast]
    rw [w_div8 (by omega), w_rest8]
    by_cases h2 : ((j / 8 : Nat) : Int) ≥ (b.length : Int)
    · rw [if_pos h2, gb_beyond b j (by omega)]; rfl
    · rw [if_neg h2, if_pos (by omega), if_pos (by omega), if_pos (by omega)]
      congr 1
      rw [shr_u8 _ _ (by omega), Int.toNat_natCast]
      have hx := bytes_getD hb (j / 8)
      rw [rd_nat]
      have hd := div_pow_range _ hx (7 - j % 8)
      have ew : wrap64 (b.getD (j / 8) 0 / 2 ^ (7 - j % 8)) = b.getD (j / 8) 0 / 2 ^ (7 - j % 8) := w_of (by omega) (by omega)
      rw [ew, i64_and1 _ hd.1 (by omega), shr_mod2 _ hx.1]
      rfl

/-! ### Permute -/
theorem okT_cons (b : List Int) (n : Int) (t : List Int) : okT b (n :: t) = (decide (1 ≤ n) && decide (n ≤ 8 * (b.length : Int)) && okT b t) := by simp [okT]
theorem drop_cons {t : List Int} {i : Nat} (h : i < t.length) : t.drop i = t.getD i 0 :: t.drop (i + 1) := by
  rw [List.drop_eq_getElem_cons h, List.getD_eq_getElem?_getD, List.getElem?_eq_getElem h]; rfl
theorem wf_getD {t : List Int} (ht : ∀ x ∈ t, (Lit.int .i64 x).wf = true) (i : Nat) : -9223372036854775808 ≤ t.getD i 0 ∧ t.getD i 0 ≤ 9223372036854775807 := by
  rw [List.getD_eq_getElem?_getD]
  by_cases hi : i < t.length
  · rw [List.getElem?_eq_getElem hi]; exact wf_i64 (ht _ (List.getElem_mem hi))
  · rw [List.getElem?_eq_none (by omega)]; simp
theorem permute_loop (b t : List Int) (hb : Bytes b) (htl : t.length ≤ 140737488351232) (ht : ∀ x ∈ t, (Lit.int .i64 x).wf = true) (d : Nat) :
    ∀ (k i : Nat) (x : List Int), i + d = t.length → d < k → x.length = (t.length + 7) / 8 → Bytes x →
      (∀ j, gb x j = (decide (j < i) && gb b (t.getD j 0 - 1).toNat)) →
      bits_Permute.l0 k b t x (t.length : Int) (i : Int) = some (if okT b (t.drop i) then (permL b t, true) else ([], false)) := by
  induction d with
  | zero =>
    intro k i x hd hk hx hbx hg
    obtain ⟨k, rfl⟩ : ∃ m, k = m + 1 := ⟨k - 1, by omega⟩
    obtain rfl : i = t.length := by omega
    simp only [bits_Permute.l0]
    rw [if_neg (by omega), List.drop_length]
    have : x = permL b t := by
      refine gb_ext hbx (permL_bytes b t) (by rw [hx, permL_length]) fun j _ => ?_
      rw [hg j, gb_permL]
    simp [okT, this]
  | succ d ih =>
    intro k i x hd hk hx hbx hg
    obtain ⟨k, rfl⟩ : ∃ m, k = m + 1 := ⟨k - 1, by omega⟩
    have hi : i < t.length := by omega
    simp only [bits_Permute.l0]
    rw [if_pos (by omega), if_pos (by omega), if_pos (by omega), rd_nat, drop_cons hi, okT_cons]
    have hn := wf_getD ht i
    generalize hne : t.getD i 0 = n at hn
    by_cases h1 : n < 1
    · rw [if_pos h1]
      have : decide (1 ≤ n) = false := by simp; omega
      simp [this]
    · rw [if_neg h1]
      have e1 : wrap64 (n - 1) = n - 1 := w_of (by omega) (by omega)
      have e2 : wrap64 (Int.tdiv (n - 1) 8) = (n - 1) / 8 := by
        rw [Int.tdiv_eq_ediv_of_nonneg (by omega)]; exact w_of (by omega) (by omega)
      rw [e1, e2]
      by_cases h2 : (n - 1) / 8 ≥ (b.length : Int)
      · rw [if_pos h2]
        have : decide (n ≤ 8 * (b.length : Int)) = false := by simp; omega
        simp [this]
      · rw [if_neg h2]
        rw [w_div8 (by omega), w_rest8, w_succ (by omega), if_pos (by omega), if_pos (by omega), bit_f b n hb (by omega)]
        simp only [Option.bind_some]
        rw [if_pos (by omega), Int.toNat_natCast]
        have hbv : bitv b n = b2i (gb b (n - 1).toNat) := by unfold bitv; rw [if_pos (by omega)]
        rw [rd_nat, hbv]
        obtain ⟨s0, s1, s2⟩ := or_step (x.getD (i / 8) 0) (bytes_getD hbx (i / 8)) (gb b (n - 1).toNat) (7 - i % 8) (by omega)
        rw [ih k (i + 1) _ (by omega) (by omega) (by simpa using hx) (bytes_set hbx _ ⟨s0, s1⟩) ?_]
        · have a1 : decide (1 ≤ n) = true := by simp; omega
          have a2 : decide (n ≤ 8 * (b.length : Int)) = true := by simp; omega
          simp [a1, a2]
        · intro j
          rw [gb_set x (i / 8) (by omega) _ j, s2]
          by_cases hj : j / 8 = i / 8
          · rw [if_pos hj]
            have hx0 : gb x j = (x.getD (i / 8) 0).toNat.testBit (7 - j % 8) := by unfold gb; rw [hj]
            rw [← hx0, hg j]
            by_cases h3 : j < i
            · have : ¬ (7 - j % 8 = 7 - i % 8) := by omega
              simp [h3, this, Nat.lt_succ_of_lt h3]
            · by_cases h4 : j = i
              · subst h4; rw [hne]; simp
              · have c1 : ¬ j < i + 1 := by omega
                have : ¬ (7 - j % 8 = 7 - i % 8) := by omega
                simp [h3, c1, this]
          · rw [if_neg hj, hg j]
            have : (j < i) ↔ (j < i + 1) := by omega
            simp [this]
theorem permute_f (k : Nat) (b t : List Int) (hb : Bytes b) (htl : t.length ≤ 140737488351232) (ht : ∀ x ∈ t, (Lit.int .i64 x).wf = true) (hk : t.length < k) :
    bits_Permute.f k b t = some (if okT b t then (permL b t, true) else ([], false)) := by
  unfold bits_Permute.f
  rw [w_up8 (by omega), if_pos (by omega), Int.toNat_natCast, if_pos (by omega)]
  have := permute_loop b t hb htl ht t.length k 0 (List.replicate ((t.length + 7) / 8) 0) (by omega) hk (by simp) (bytes_replicate _) (fun j => by rw [gb_replicate]; simp)
  simpa using this
theorem permute_ok {k : Nat} {b t : List Int} (_hl : b.length ≤ 140737488351232) (hb : Bytes b) (htl : t.length ≤ 140737488351232) (hok : okT b t = true) (hk : t.length < k) :
    bits_Permute.f k b t = some (permL b t, true) := by
  rw [permute_f k b t hb htl ?_ hk, hok]; rfl
  intro x hx
  have := List.all_eq_true.1 hok x hx
  simp at this
  simp [Lit.wf, IntKind.min, IntKind.max, IntKind.signed, IntKind.bits]
  omega
/-! ### the chapter's example -/
theorem known_f (k : Nat) (hk : 8 < k) : scrimlaw2_known.f k = some true := by
  unfold scrimlaw2_known.f
  rw [permute_ok (by decide) (by unfold Bytes; decide) (by decide) (by decide) hk]
  simp only [Option.bind_some]
  rw [bit_f _ _ (by unfold Bytes; decide) (by decide)]
  decide +kernel

/-! ### within -/
theorem within_f (a n : Int) (h0 : 0 < n) (h1 : n ≤ 1099511627776) : scrimlaw2_within.f a n = some (a % n) := by
  unfold scrimlaw2_within.f
  rw [if_neg (by omega)]
  have e := Int.tmod_eq_emod (a := a) (b := n)
  have l1 := Int.emod_nonneg a (by omega : n ≠ 0)
  have l2 := Int.emod_lt_of_pos a h0
  by_cases hc : 0 ≤ a ∨ n ∣ a
  · rw [if_pos hc] at e
    rw [if_neg (by omega)]
    congr 1; omega
  · rw [if_neg hc] at e
    have hn : (n.natAbs : Int) = n := by omega
    have hnz : a % n ≠ 0 := fun z => hc (.inr (Int.dvd_of_emod_eq_zero z))
    rw [if_pos (by omega)]
    congr 1
    unfold wrap64; omega

/-! ### Invert -/
theorem invert_loop (t : List Int) (htl : t.length ≤ 17592186044416) (ht : ∀ x ∈ t, (Lit.int .i64 x).wf = true) (d : Nat) : ∀ (k i : Nat) (o : List Int), i + d = t.length → d < k → o.length = t.length →
    bits_Invert.l0 k t o (t.length : Int) (i : Int) = some (match invGo t.length (t.drop i) i o with | some u => (u, true) | none => ([], false)) := by
  induction d with
  | zero =>
    intro k i o hd hk hl
    obtain ⟨k, rfl⟩ : ∃ m, k = m + 1 := ⟨k - 1, by omega⟩
    obtain rfl : i = t.length := by omega
    simp only [bits_Invert.l0]
    rw [if_neg (by omega), if_pos (by omega), if_pos (by omega), List.drop_length]
    rfl
  | succ d ih =>
    intro k i o hd hk hl
    obtain ⟨k, rfl⟩ : ∃ m, k = m + 1 := ⟨k - 1, by omega⟩
    simp only [bits_Invert.l0]
    have hi : i < t.length := by omega
    have hn := wf_getD ht i
    rw [if_pos (by omega), if_pos (by omega), if_pos (by omega), rd_nat, drop_cons hi]
    unfold invGo
    generalize t.getD i 0 = n at hn
    by_cases h1 : n < 1
    · rw [if_pos h1, if_pos (Or.inl h1)]
    · rw [if_neg h1]
      by_cases h2 : n > (t.length : Int)
      · rw [if_pos h2, if_pos (Or.inr (Or.inl h2))]
      · rw [if_neg h2, w_of (x := n - 1) (by omega) (by omega), if_pos (by omega), if_pos (by omega)]
        have hr : rd o (n - 1) = o.getD (n - 1).toNat 0 := rfl
        rw [hr]
        by_cases h3 : o.getD (n - 1).toNat 0 > 0
        · rw [if_pos h3, if_pos (Or.inr (Or.inr h3))]
        · rw [if_neg h3, if_neg (fun h => h.elim h1 (fun h => h.elim h2 h3)), w_succ (by omega)]
          exact ih k (i + 1) _ (by omega) (by omega) (by rw [List.length_set]; exact hl)
theorem invert_f (k : Nat) (t : List Int) (htl : t.length ≤ 17592186044416) (ht : ∀ x ∈ t, (Lit.int .i64 x).wf = true) (hk : t.length < k) : bits_Invert.f k t = some (invL t) := by
  unfold bits_Invert.f
  rw [if_pos (by omega), if_pos (by omega), Int.toNat_natCast]
  have := invert_loop t htl ht t.length k 0 (List.replicate t.length 0) (by omega) hk (by simp)
  rw [List.drop_zero] at this
  exact this

/-! ### the law -/
theorem BitsKnown : scrimlaw2_BitsKnown.Pure := by
  intro a _
  obtain ⟨K, hK⟩ : ∃ K : Nat, 1000 ≤ K := ⟨_, Nat.le_refl _⟩
  refine ⟨K, ?_⟩
  have p1 : bits_Permute.f K [240, 15] [13, 14, 15, 16, 1, 2, 3, 4] = some ([255], true) := by
    have h := permute_f K ([240, 15] : List Int) ([13, 14, 15, 16, 1, 2, 3, 4] : List Int) (by unfold Bytes; decide) (by decide) (by decide) (by simp; omega)
    rw [h]; decide +kernel
  have p2 : bits_Permute.f K [160] [1, 2, 3] = some ([160], true) := by
    have h := permute_f K ([160] : List Int) ([1, 2, 3] : List Int) (by unfold Bytes; decide) (by decide) (by decide) (by simp; omega)
    rw [h]; decide +kernel
  have p3 : bits_Permute.f K [1] [9] = some ([], false) := by
    have h := permute_f K ([1] : List Int) ([9] : List Int) (by unfold Bytes; decide) (by decide) (by decide) (by simp; omega)
    rw [h]; decide +kernel
  have p4 : bits_Permute.f K [] [1] = some ([], false) := by
    have h := permute_f K ([] : List Int) ([1] : List Int) (by unfold Bytes; decide) (by decide) (by decide) (by simp; omega)
    rw [h]; decide +kernel
  have p5 : bits_Permute.f K [] [] = some ([], true) := by
    have h := permute_f K ([] : List Int) ([] : List Int) (by unfold Bytes; decide) (by decide) (by decide) (by simp; omega)
    rw [h]; decide +kernel
  have p6 : bits_Invert.f K [2, 3, 1] = some ([3, 1, 2], true) := by
    have h := invert_f K ([2, 3, 1] : List Int) (by decide) (by decide) (by simp; omega)
    rw [h]; decide +kernel
  have b1 : bits_Bit.f [1] 8 = some 1 := by
    have h := bit_f ([1] : List Int) 8 (by unfold Bytes; decide) (by decide)
    rw [h]; decide +kernel
  have b2 : bits_Bit.f [1] 7 = some 0 := by
    have h := bit_f ([1] : List Int) 7 (by unfold Bytes; decide) (by decide)
    rw [h]; decide +kernel
  have b3 : bits_Bit.f [0, 128] 9 = some 1 := by
    have h := bit_f ([0, 128] : List Int) 9 (by unfold Bytes; decide) (by decide)
    rw [h]; decide +kernel
  unfold scrimlaw2_BitsKnown.f
  rw [known_f _ (by omega), Option.bind_some, if_pos rfl, p1, Option.bind_some, p2, Option.bind_some, p3, Option.bind_some, p4, Option.bind_some, p5, Option.bind_some, p6, Option.bind_some]
  dsimp only
  rw [b1, b2, b3]
  rw [if_pos (by decide), if_pos (by decide), if_pos (by decide), if_pos (by decide), if_neg (by decide), if_pos (by decide), if_pos (by decide), if_pos (by decide), if_pos (by decide), if_pos (by decide), if_pos (by decide), if_pos (by decide)]
  rw [Option.bind_some, if_pos rfl, Option.bind_some, if_pos rfl, Option.bind_some]
  rw [show ([((rd [255] 0) == 255), ((rd [160] 0) == 160), !false, ((([] : List Int).length : Int) == 0), ((rd [3, 1, 2] 2) == 2), ((1 : Int) == 1)] : List Bool) = [true, true, true, true, true, true] from by decide]
  rw [Option.bind_some, show ((([true, true, true, true, true, true] : List Bool).length : Nat) : Int) = 6 from rfl, within_f a 6 (by omega) (by omega), Option.bind_some]
  have l1 := Int.emod_nonneg a (by omega : (6 : Int) ≠ 0)
  have l2 := Int.emod_lt_of_pos a (by omega : (0 : Int) < 6)
  generalize a % 6 = i at l1 l2
  rw [if_pos l1, if_pos l2]
  have : i = 0 ∨ i = 1 ∨ i = 2 ∨ i = 3 ∨ i = 4 ∨ i = 5 := by omega
  rcases this with rfl | rfl | rfl | rfl | rfl | rfl <;> rfl

end Go.Proofs.Ytmlkacglddnneaa.Pure
