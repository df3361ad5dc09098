/- BitsSum: of a sum (xor) of bytes the bits by a table are the sum: the plain law over the printed functions. Conditions: none beyond the statement's own bounds. -/
import Derived.Test.YtmlkacglddnneaaQBitsSum
import Derived.Test.YtmlkacglddnneaaBitsPlain
namespace Go.Proofs.Ytmlkacglddnneaa.Pure
open Go.RowKit Go.Proofs.Ytmlkacglddnneaa.PBitsSum Go.Proofs.YtmlkacglddnneaaW.PrintWords Go.Proofs.YtmlkacglddnneaaW.PrintLast Go.Proofs.Ytmlkacglddnneaa.Plain

/-! ### Bit -/
theorem bit_f (b : List Int) (i : Int) (hb : Bytes b) (hi : i ≤ 9223372036854775807) : bits_Bit.f b i = some (bitv b i) := by
  unfold bits_Bit.f
  by_cases h1 : i < 1
  · rw [if_pos h1]; unfold bitv; rw [if_neg (by omega)]
  · have hbv : bitv b i = b2i (gb b (i - 1).toNat) := by unfold bitv; rw [if_pos (by omega)]
    rw [if_neg h1, hbv]
    have e1 : wrap64 (i - 1) = i - 1 := w_of (by omega) (by omega)
    rw [e1]
    obtain ⟨j, hj⟩ : ∃ j : Nat, i - 1 = j := ⟨(i - 1).toNat, by omega⟩
    rw [hj, Int.toNat_natCast]
    rw [w_div8 (by omega), w_rest8]
    by_cases h2 : ((j / 8 : Nat) : Int) ≥ (b.length : Int)
    · rw [if_pos h2, gb_beyond b j (by omega)]; rfl
    · rw [if_neg h2, if_pos (by omega), if_pos (by omega), if_pos (by omega)]
      congr 1
      rw [shr_u8 _ _ (by omega), Int.toNat_natCast]
      have hx := bytes_getD hb (j / 8)
      rw [rd_nat]
      have hd := div_pow_range _ hx (7 - j % 8)
      have ew : wrap64 (b.getD (j / 8) 0 / 2 ^ (7 - j % 8)) = b.getD (j / 8) 0 / 2 ^ (7 - j % 8) := w_of (by omega) (by omega)
      rw [ew, i64_and1 _ hd.1 (by omega), shr_mod2 _ hx.1]
      rfl

/-! ### Permute -/
theorem okT_cons (b : List Int) (n : Int) (t : List Int) : okT b (n :: t) = (decide (1 ≤ n) && decide (n ≤ 8 * (b.length : Int)) && okT b t) := by simp [okT]
theorem drop_cons {t : List Int} {i : Nat} (h : i < t.length) : t.drop i = t.getD i 0 :: t.drop (i + 1) := by
  rw [List.drop_eq_getElem_cons h, List.getD_eq_getElem?_getD, List.getElem?_eq_getElem h]; rfl
theorem wf_getD {t : List Int} (ht : ∀ x ∈ t, (Lit.int .i64 x).wf = true) (i : Nat) : -9223372036854775808 ≤ t.getD i 0 ∧ t.getD i 0 ≤ 9223372036854775807 := by
  rw [List.getD_eq_getElem?_getD]
  by_cases hi : i < t.length
  · rw [List.getElem?_eq_getElem hi]; exact wf_i64 (ht _ (List.getElem_mem hi))
  · rw [List.getElem?_eq_none (by omega)]; simp
theorem permute_loop (b t : List Int) (hb : Bytes b) (htl : t.length ≤ 140737488351232) (ht : ∀ x ∈ t, (Lit.int .i64 x).wf = true) (d : Nat) :
    ∀ (k i : Nat) (x : List Int), i + d = t.length → d < k → x.length = (t.length + 7) / 8 → Bytes x →
      (∀ j, gb x j = (decide (j < i) && gb b (t.getD j 0 - 1).toNat)) →
      bits_Permute.l0 k b t x (t.length : Int) (i : Int) = some (if okT b (t.drop i) then (permL b t, true) else ([], false)) := by
  induction d with
  | zero =>
    intro k i x hd hk hx hbx hg
    obtain ⟨k, rfl⟩ : ∃ m, k = m + 1 := ⟨k - 1, by omega⟩
    obtain rfl : i = t.length := by omega
    simp only [bits_Permute.l0]
    rw [if_neg (by omega), List.drop_length]
    have : x = permL b t := by
      refine gb_ext hbx (permL_bytes b t) (by rw [hx, permL_length]) fun j _ => ?_
      rw [hg j, gb_permL]
    simp [okT, this]
  | succ d ih =>
    intro k i x hd hk hx hbx hg
    obtain ⟨k, rfl⟩ : ∃ m, k = m + 1 := ⟨k - 1, by omega⟩
    have hi : i < t.length := by omega
    simp only [bits_Permute.l0]
    rw [if_pos (by omega), if_pos (by omega), if_pos (by omega), rd_nat, drop_cons hi, okT_cons]
    have hn := wf_getD ht i
    generalize hne : t.getD i 0 = n at hn
    by_cases h1 : n < 1
    · rw [if_pos h1]
      have : decide (1 ≤ n) = false := by simp; omega
      simp [this]
    · rw [if_neg h1]
      have e1 : wrap64 (n - 1) = n - 1 := w_of (by omega) (by omega)
      have e2 : wrap64 (Int.tdiv (n - 1) 8) = (n - 1) / 8 := by
        rw [Int.tdiv_eq_ediv_of_nonneg (by omega)]; exact w_of (by omega) (by omega)
      rw [e1, e2]
      by_cases h2 : (n - 1) / 8 ≥ (b.length : Int)
      · rw [if_pos h2]
        have : decide (n ≤ 8 * (b.length : Int)) = false := by simp; omega
        simp [this]
      · rw [if_neg h2]
        rw [w_div8 (by omega), w_rest8, w_succ (by omega), if_pos (by omega), if_pos (by omega), bit_f b n hb (by omega)]
        simp only [Option.bind_some]
        rw [if_pos (by omega), Int.toNat_natCast]
        have hbv : bitv b n = b2i (gb b (n - 1).toNat) := by unfold bitv; rw [if_pos (by omega)]
        rw [rd_nat, hbv]
        obtain ⟨s0, s1, s2⟩ := or_step (x.getD (i / 8) 0) (bytes_getD hbx (i / 8)) (gb b (n - 1).toNat) (7 - i % 8) (by omega)
        rw [ih k (i + 1) _ (by omega) (by omega) (by simpa using hx) (bytes_set hbx _ ⟨s0, s1⟩) ?_]
        · have a1 : decide (1 ≤ n) = true := by simp; omega
          have a2 : decide (n ≤ 8 * (b.length : Int)) = true := by simp; omega
          simp [a1, a2]
        · intro j
          rw [gb_set x (i / 8) (by omega) _ j, s2]
          by_cases hj : j / 8 = i / 8
          · rw [if_pos hj]
            have hx0 : gb x j = (x.getD (i / 8) 0).toNat.testBit (7 - j % 8) := by unfold gb; rw [hj]
            rw [← hx0, hg j]
            by_cases h3 : j < i
            · have : ¬ (7 - j % 8 = 7 - i % 8) := by omega
              simp [h3, this, Nat.lt_succ_of_lt h3]
            · by_cases h4 : j = i
              · subst h4; rw [hne]; simp
              · have c1 : ¬ j < i + 1 := by omega
                have : ¬ (7 - j % 8 = 7 - i % 8) := by omega
                simp [h3, c1, this]
          · rw [if_neg hj, hg j]
            have : (j < i) ↔ (j < i + 1) := by omega
            simp [this]
theorem permute_f (k : Nat) (b t : List Int) (hb : Bytes b) (htl : t.length ≤ 140737488351232) (ht : ∀ x ∈ t, (Lit.int .i64 x).wf = true) (hk : t.length < k) :
    bits_Permute.f k b t = some (if okT b t then (permL b t, true) else ([], false)) := by
  unfold bits_Permute.f
  rw [w_up8 (by omega), if_pos (by omega), Int.toNat_natCast, if_pos (by omega)]
  have := permute_loop b t hb htl ht t.length k 0 (List.replicate ((t.length + 7) / 8) 0) (by omega) hk (by simp) (bytes_replicate _) (fun j => by rw [gb_replicate]; simp)
  simpa using this
theorem permute_ok {k : Nat} {b t : List Int} (_hl : b.length ≤ 140737488351232) (hb : Bytes b) (htl : t.length ≤ 140737488351232) (hok : okT b t = true) (hk : t.length < k) :
    bits_Permute.f k b t = some (permL b t, true) := by
  rw [permute_f k b t hb htl ?_ hk, hok]; rfl
  intro x hx
  have := List.all_eq_true.1 hok x hx
  simp at this
  simp [Lit.wf, IntKind.min, IntKind.max, IntKind.signed, IntKind.bits]
  omega
/-! ### the chapter's example -/
theorem known_f (k : Nat) (hk : 8 < k) : scrimlaw2_known.f k = some true := by
  unfold scrimlaw2_known.f
  rw [permute_ok (by decide) (by unfold Bytes; decide) (by decide) (by decide) hk]
  simp only [Option.bind_some]
  rw [bit_f _ _ (by unfold Bytes; decide) (by decide)]
  decide +kernel

/-! ### within -/
theorem within_f (a n : Int) (h0 : 0 < n) (h1 : n ≤ 1099511627776) : scrimlaw2_within.f a n = some (a % n) := by
  unfold scrimlaw2_within.f
  rw [if_neg (by omega)]
  have e := Int.tmod_eq_emod (a := a) (b := n)
  have l1 := Int.emod_nonneg a (by omega : n ≠ 0)
  have l2 := Int.emod_lt_of_pos a h0
  by_cases hc : 0 ≤ a ∨ n ∣ a
  · rw [if_pos hc] at e
    rw [if_neg (by omega)]
    congr 1; omega
  · rw [if_neg hc] at e
    have hn : (n.natAbs : Int) = n := by omega
    have hnz : a % n ≠ 0 := fun z => hc (.inr (Int.dvd_of_emod_eq_zero z))
    rw [if_pos (by omega)]
    congr 1
    unfold wrap64; omega

/-! ### the law -/
theorem sum_tell (x y z : List Int) (hx : Bytes x) (hy : Bytes y) (hz : Bytes z) (h : ∀ j, gb z j = (gb x j ^^ gb y j)) (l1 : x.length = z.length) (l2 : y.length = z.length) (hl : z.length ≤ 140737488351232) (d : Nat) :
    ∀ (k i : Nat), i + d = z.length → d < k → scrimlaw2_BitsSum.l2 k x y z (i : Int) = some true := by
  induction d with
  | zero =>
    intro k i hd hk
    obtain ⟨k, rfl⟩ : ∃ m, k = m + 1 := ⟨k - 1, by omega⟩
    simp only [scrimlaw2_BitsSum.l2]
    rw [if_neg (by omega)]
  | succ d ih =>
    intro k i hd hk
    obtain ⟨k, rfl⟩ : ∃ m, k = m + 1 := ⟨k - 1, by omega⟩
    simp only [scrimlaw2_BitsSum.l2]
    rw [if_pos (by omega), if_pos (by omega), if_pos (by omega), if_pos (by omega), rd_nat, rd_nat, rd_nat, xor_of_gb hx hy hz h i, if_pos rfl, w_succ (by omega)]
    exact ih k (i + 1) (by omega) (by omega)
theorem sum_after (a b s t : List Int) (n : Nat) (hn : 1 ≤ n ∧ n ≤ 16) (ha : Bytes a) (hb : Bytes b) (hna : n ≤ a.length) (hnb : n ≤ b.length) (hs : s.length = n) (hbs : Bytes s)
    (hv : ∀ j, j < n → s.getD j 0 = bits .xor .u8 (a.getD j 0) (b.getD j 0)) (ht : ∀ x ∈ t, 1 ≤ x ∧ x ≤ 8 * (n : Int)) (htl : t.length ≤ 100) (k : Nat) (hk : 1000 < k) :
    scrimlaw2_BitsSum.l1 k a b (n : Int) t s (n : Int) = some true := by
  obtain ⟨k, rfl⟩ : ∃ m, k = m + 1 := ⟨k - 1, by omega⟩
  simp only [scrimlaw2_BitsSum.l1]
  have ok : ∀ x : List Int, x.length = n → okT x t = true := fun x hx => List.all_eq_true.2 fun y hy => by
    have := ht y hy
    rw [Bool.and_eq_true, decide_eq_true_eq, decide_eq_true_eq, hx]; exact this
  have la : (a.take n).length = n := by rw [List.length_take]; omega
  have lb : (b.take n).length = n := by rw [List.length_take]; omega
  have ba := bytes_take ha n
  have bb := bytes_take hb n
  rw [if_neg (by omega), if_pos (by omega), if_pos (by omega), Int.toNat_natCast, permute_ok (by omega) ba (by omega) (ok _ la) (by omega), Option.bind_some,
    if_pos (by omega), permute_ok (by omega) bb (by omega) (ok _ lb) (by omega), Option.bind_some, permute_ok (by omega) hbs (by omega) (ok _ hs) (by omega), Option.bind_some]
  dsimp only
  rw [if_pos rfl, if_pos rfl, if_pos rfl, permL_length, permL_length, permL_length, if_pos rfl, if_pos rfl, w_up7 (by omega),
    show ((((t.length + 7) / 8 : Nat) : Int) != (((t.length + 7) / 8 : Nat) : Int)) = false from by simp]
  obtain ⟨k, rfl⟩ : ∃ m, k = m + 1 := ⟨k - 1, by omega⟩
  simp only [scrimlaw2_BitsSum.j3]
  rw [if_neg (by simp)]
  have hx : ∀ j, s.getD j 0 = bits .xor .u8 ((a.take n).getD j 0) ((b.take n).getD j 0) := fun j => by
    by_cases h : j < n
    · rw [take_getD a n j h, take_getD b n j h]; exact hv j h
    · rw [getD_over (by omega), getD_over (by omega), getD_over (by omega)]; decide +kernel
  refine sum_tell (permL (a.take n) t) (permL (b.take n) t) (permL s t) (permL_bytes _ _) (permL_bytes _ _) (permL_bytes _ _) (fun j => ?_) (by rw [permL_length, permL_length]) (by rw [permL_length, permL_length]) (by rw [permL_length]; omega) (permL s t).length k 0 (by omega) (by rw [permL_length]; omega)
  rw [gb_permL, gb_permL, gb_permL, gb_xor ba bb hx]
  cases decide (j < t.length) <;> simp
theorem sum_make (a b t : List Int) (n : Nat) (hn : 1 ≤ n ∧ n ≤ 16) (ha : Bytes a) (hb : Bytes b) (hna : n ≤ a.length) (hnb : n ≤ b.length)
    (ht : ∀ x ∈ t, 1 ≤ x ∧ x ≤ 8 * (n : Int)) (htl : t.length ≤ 100) (d : Nat) :
    ∀ (k i : Nat) (s : List Int), i + d = n → d + 1000 < k → s.length = n → Bytes s → (∀ j, j < i → s.getD j 0 = bits .xor .u8 (a.getD j 0) (b.getD j 0)) →
      scrimlaw2_BitsSum.l1 k a b (n : Int) t s (i : Int) = some true := by
  induction d with
  | zero =>
    intro k i s hd hk hs hbs hv
    obtain rfl : i = n := by omega
    exact sum_after a b s t i hn ha hb hna hnb hs hbs hv ht htl k (by omega)
  | succ d ih =>
    intro k i s hd hk hs hbs hv
    obtain ⟨k, rfl⟩ : ∃ m, k = m + 1 := ⟨k - 1, by omega⟩
    simp only [scrimlaw2_BitsSum.l1]
    rw [if_pos (by omega), if_pos (by omega), if_pos (by omega), if_pos (by omega), if_pos (by omega), rd_nat, rd_nat, Int.toNat_natCast, w_succ (by omega)]
    have hx := xor_step _ _ (bytes_getD ha i) (bytes_getD hb i)
    refine ih k (i + 1) _ (by omega) (by omega) (by rw [List.length_set]; exact hs) (bytes_set hbs i hx.1) fun j hj => ?_
    rw [List.getD_eq_getElem?_getD, List.getElem?_set]
    by_cases e : i = j
    · subst e; rw [if_pos rfl, if_pos (by omega)]; rfl
    · rw [if_neg e, ← List.getD_eq_getElem?_getD]; exact hv j (by omega)
theorem sum_table (a b ns : List Int) (n : Nat) (hn : 1 ≤ n ∧ n ≤ 16) (ha : Bytes a) (hb : Bytes b) (hna : n ≤ a.length) (hnb : n ≤ b.length) (d : Nat) :
    ∀ (k i : Nat) (t : List Int), i + d = 100 → d + 2000 < k → t.length = i → (∀ x ∈ t, 1 ≤ x ∧ x ≤ 8 * (n : Int)) →
      scrimlaw2_BitsSum.l0 k a b ns (n : Int) t (i : Int) = some true := by
  have fin : ∀ (k : Nat) (t : List Int), 1900 < k → t.length ≤ 100 → (∀ x ∈ t, 1 ≤ x ∧ x ≤ 8 * (n : Int)) → scrimlaw2_BitsSum.j1 k a b (n : Int) t = some true := by
    intro k t hk htl ht
    obtain ⟨k, rfl⟩ : ∃ m, k = m + 1 := ⟨k - 1, by omega⟩
    simp only [scrimlaw2_BitsSum.j1]
    rw [if_pos (by omega), if_pos (by omega), Int.toNat_natCast]
    exact sum_make a b t n hn ha hb hna hnb ht htl n k 0 _ (by omega) (by omega) (by simp) (bytes_replicate _) (fun j hj => by omega)
  induction d with
  | zero =>
    intro k i t hd hk hl ht
    obtain ⟨k, rfl⟩ : ∃ m, k = m + 1 := ⟨k - 1, by omega⟩
    simp only [scrimlaw2_BitsSum.l0]
    by_cases h : (i : Int) < (ns.length : Int)
    · rw [if_pos h, if_neg (by omega)]; exact fin k t (by omega) (by omega) ht
    · rw [if_neg h]; exact fin k t (by omega) (by omega) ht
  | succ d ih =>
    intro k i t hd hk hl ht
    obtain ⟨k, rfl⟩ : ∃ m, k = m + 1 := ⟨k - 1, by omega⟩
    simp only [scrimlaw2_BitsSum.l0]
    by_cases h : (i : Int) < (ns.length : Int)
    · rw [if_pos h, if_pos (by omega), if_pos (by omega), w_mul8 (by omega), within_f _ _ (by omega) (by omega), Option.bind_some, if_pos (by omega), w_succ (by omega)]
      have l1 := Int.emod_nonneg (rd ns i) (by omega : ((8 * n : Nat) : Int) ≠ 0)
      have l2 := Int.emod_lt_of_pos (rd ns i) (by omega : (0 : Int) < ((8 * n : Nat) : Int))
      generalize rd ns i % ((8 * n : Nat) : Int) = z at l1 l2
      rw [w_of (x := 1 + z) (by omega) (by omega)]
      refine ih k (i + 1) _ (by omega) (by omega) (by simp [hl]) fun x hx => ?_
      rcases List.mem_append.1 hx with hx | hx
      · exact ht x hx
      · have := List.mem_singleton.1 hx; omega
    · rw [if_neg h]; exact fin k t (by omega) (by omega) ht
theorem BitsSum : scrimlaw2_BitsSum.Pure := by
  intro a b ns _ _ ha _ _ hb _ _ _
  obtain ⟨K, hK⟩ : ∃ K : Nat, 3000 ≤ K := ⟨_, Nat.le_refl _⟩
  refine ⟨K, ?_⟩
  unfold scrimlaw2_BitsSum.f
  rw [known_f _ (by omega), Option.bind_some, if_pos rfl]
  obtain ⟨n, hn, h1, h2, h3⟩ : ∃ n : Nat, mn (mn (a.length : Int) (b.length : Int)) 16 = n ∧ n ≤ a.length ∧ n ≤ b.length ∧ n ≤ 16 := by
    refine ⟨min (min a.length b.length) 16, ?_, by omega, by omega, by omega⟩
    unfold mn; split <;> split <;> omega
  rw [hn]
  by_cases h0 : (n : Int) = 0
  · rw [if_pos h0]
  · rw [if_neg h0]
    exact sum_table a b ns n (by omega) (fun x hx => wf_u8 (ha x hx)) (fun x hx => wf_u8 (hb x hx)) h1 h2 100 K 0 [] (by omega) (by omega) rfl (fun x hx => by simp at hx)

end Go.Proofs.Ytmlkacglddnneaa.Pure
