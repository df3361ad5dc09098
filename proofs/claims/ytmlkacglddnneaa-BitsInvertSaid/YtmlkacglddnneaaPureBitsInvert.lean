/- BitsInvert: whether a table can be undone, and by which, is as the reference says: the plain law over the printed functions. Conditions: none beyond the statement's own bounds. -/
import Derived.Test.YtmlkacglddnneaaMBitsInvertx3
import Derived.Test.YtmlkacglddnneaaInvPlain
namespace Go.Proofs.Ytmlkacglddnneaa.Pure
open Go.RowKit Go.Proofs.Ytmlkacglddnneaa.MBitsInvert Go.Proofs.YtmlkacglddnneaaW.PrintWords Go.Proofs.YtmlkacglddnneaaW.PrintLast Go.Proofs.Ytmlkacglddnneaa.Plain

/-! ### Bit -/
theorem bit_f (b : List Int) (i : Int) (hb : Bytes b) (hi : i ≤ 9223372036854775807) : bits_Bit.f b i = some (bitv b i) := by
  unfold bits_Bit.f
  by_cases h1 : i < 1
  · rw [if_pos h1]; unfold bitv; rw [if_neg (by omega)]
  · have hbv : bitv b i = b2i (gb b (i - 1).toNat) := by unfold bitv; rw [if_pos (by omega)]
    rw [if_neg h1, hbv]
    have e1 : wrap64 (i - 1) = i - 1 := w_of (by omega) (by omega)
    rw [e1]
    obtain ⟨j, hj⟩ : ∃ j : Nat, i - 1 = j := ⟨(i - 1).toNat, by omega⟩
    rw [hj, Int.toNat_natCast]
    rw [w_div8 (by omega), w_rest8]
    by_cases h2 : ((j / 8 : Nat) : Int) ≥ (b.length : Int)
    · rw [if_pos h2, gb_beyond b j (by omega)]; rfl
    · rw [if_neg h2, if_pos (by omega), if_pos (by omega), if_pos (by omega)]
      congr 1
      rw [shr_u8 _ _ (by omega), Int.toNat_natCast]
      have hx := bytes_getD hb (j / 8)
      rw [rd_nat]
      have hd := div_pow_range _ hx (7 - j % 8)
      have ew : wrap64 (b.getD (j / 8) 0 / 2 ^ (7 - j % 8)) = b.getD (j / 8) 0 / 2 ^ (7 - j % 8) := w_of (by omega) (by omega)
      rw [ew, i64_and1 _ hd.1 (by omega), shr_mod2 _ hx.1]
      rfl

/-! ### Permute -/
theorem okT_cons (b : List Int) (n : Int) (t : List Int) : okT b (n :: t) = (decide (1 ≤ n) && decide (n ≤ 8 * (b.length : Int)) && okT b t) := by simp [okT]
theorem drop_cons {t : List Int} {i : Nat} (h : i < t.length) : t.drop i = t.getD i 0 :: t.drop (i + 1) := by
  rw [List.drop_eq_getElem_cons h, List.getD_eq_getElem?_getD, List.getElem?_eq_getElem h]; rfl
theorem wf_getD {t : List Int} (ht : ∀ x ∈ t, (Lit.int .i64 x).wf = true) (i : Nat) : -9223372036854775808 ≤ t.getD i 0 ∧ t.getD i 0 ≤ 9223372036854775807 := by
  rw [List.getD_eq_getElem?_getD]
  by_cases hi : i < t.length
  · rw [List.getElem?_eq_getElem hi]; exact wf_i64 (ht _ (List.getElem_mem hi))
  · rw [List.getElem?_eq_none (by omega)]; simp
theorem permute_loop (b t : List Int) (hb : Bytes b) (htl : t.length ≤ 140737488351232) (ht : ∀ x ∈ t, (Lit.int .i64 x).wf = true) (d : Nat) :
    ∀ (k i : Nat) (x : List Int), i + d = t.length → d < k → x.length = (t.length + 7) / 8 → Bytes x →
      (∀ j, gb x j = (decide (j < i) && gb b (t.getD j 0 - 1).toNat)) →
      bits_Permute.l0 k b t x (t.length : Int) (i : Int) = some (if okT b (t.drop i) then (permL b t, true) else ([], false)) := by
  induction d with
  | zero =>
    intro k i x hd hk hx hbx hg
    obtain ⟨k, rfl⟩ : ∃ m, k = m + 1 := ⟨k - 1, by omega⟩
    obtain rfl : i = t.length := by omega
    simp only [bits_Permute.l0]
    rw [if_neg (by omega), List.drop_length]
    have : x = permL b t := by
      refine gb_ext hbx (permL_bytes b t) (by rw [hx, permL_length]) fun j _ => ?_
      rw [hg j, gb_permL]
    simp [okT, this]
  | succ d ih =>
    intro k i x hd hk hx hbx hg
    obtain ⟨k, rfl⟩ : ∃ m, k = m + 1 := ⟨k - 1, by omega⟩
    have hi : i < t.length := by omega
    simp only [bits_Permute.l0]
    rw [if_pos (by omega), if_pos (by omega), if_pos (by omega), rd_nat, drop_cons hi, okT_cons]
    have hn := wf_getD ht i
    generalize hne : t.getD i 0 = n at hn
    by_cases h1 : n < 1
    · rw [if_pos h1]
      have : decide (1 ≤ n) = false := by simp; omega
      simp [this]
    · rw [if_neg h1]
      have e1 : wrap64 (n - 1) = n - 1 := w_of (by omega) (by omega)
      have e2 : wrap64 (Int.tdiv (n - 1) 8) = (n - 1) / 8 := by
        rw [Int.tdiv_eq_ediv_of_nonneg (by omega)]; exact w_of (by omega) (by omega)
      rw [e1, e2]
      by_cases h2 : (n - 1) / 8 ≥ (b.length : Int)
      · rw [if_pos h2]
        have : decide (n ≤ 8 * (b.length : Int)) = false := by simp; omega
        simp [this]
      · rw [if_neg h2]
        rw [w_div8 (by omega), w_rest8, w_succ (by omega), if_pos (by omega), if_pos (by omega), bit_f b n hb (by omega)]
        simp only [Option.bind_some]
        rw [if_pos (by omega), Int.toNat_natCast]
        have hbv : bitv b n = b2i (gb b (n - 1).toNat) := by unfold bitv; rw [if_pos (by omega)]
        rw [rd_nat, hbv]
        obtain ⟨s0, s1, s2⟩ := or_step (x.getD (i / 8) 0) (bytes_getD hbx (i / 8)) (gb b (n - 1).toNat) (7 - i % 8) (by omega)
        rw [ih k (i + 1) _ (by omega) (by omega) (by simpa using hx) (bytes_set hbx _ ⟨s0, s1⟩) ?_]
        · have a1 : decide (1 ≤ n) = true := by simp; omega
          have a2 : decide (n ≤ 8 * (b.length : Int)) = true := by simp; omega
          simp [a1, a2]
        · intro j
          rw [gb_set x (i / 8) (by omega) _ j, s2]
          by_cases hj : j / 8 = i / 8
          · rw [if_pos hj]
            have hx0 : gb x j = (x.getD (i / 8) 0).toNat.testBit (7 - j % 8) := by unfold gb; rw [hj]
            rw [← hx0, hg j]
            by_cases h3 : j < i
            · have : ¬ (7 - j % 8 = 7 - i % 8) := by omega
              simp [h3, this, Nat.lt_succ_of_lt h3]
            · by_cases h4 : j = i
              · subst h4; rw [hne]; simp
              · have c1 : ¬ j < i + 1 := by omega
                have : ¬ (7 - j % 8 = 7 - i % 8) := by omega
                simp [h3, c1, this]
          · rw [if_neg hj, hg j]
            have : (j < i) ↔ (j < i + 1) := by omega
            simp [this]
theorem permute_f (k : Nat) (b t : List Int) (hb : Bytes b) (htl : t.length ≤ 140737488351232) (ht : ∀ x ∈ t, (Lit.int .i64 x).wf = true) (hk : t.length < k) :
    bits_Permute.f k b t = some (if okT b t then (permL b t, true) else ([], false)) := by
  unfold bits_Permute.f
  rw [w_up8 (by omega), if_pos (by omega), Int.toNat_natCast, if_pos (by omega)]
  have := permute_loop b t hb htl ht t.length k 0 (List.replicate ((t.length + 7) / 8) 0) (by omega) hk (by simp) (bytes_replicate _) (fun j => by rw [gb_replicate]; simp)
  simpa using this
theorem permute_ok {k : Nat} {b t : List Int} (_hl : b.length ≤ 140737488351232) (hb : Bytes b) (htl : t.length ≤ 140737488351232) (hok : okT b t = true) (hk : t.length < k) :
    bits_Permute.f k b t = some (permL b t, true) := by
  rw [permute_f k b t hb htl ?_ hk, hok]; rfl
  intro x hx
  have := List.all_eq_true.1 hok x hx
  simp at this
  simp [Lit.wf, IntKind.min, IntKind.max, IntKind.signed, IntKind.bits]
  omega
/-! ### the chapter's example -/
theorem known_f (k : Nat) (hk : 8 < k) : scrimlaw2_known.f k = some true := by
  unfold scrimlaw2_known.f
  rw [permute_ok (by decide) (by unfold Bytes; decide) (by decide) (by decide) hk]
  simp only [Option.bind_some]
  rw [bit_f _ _ (by unfold Bytes; decide) (by decide)]
  decide +kernel

/-! ### within, Order -/
theorem within_f (a n : Int) (h0 : 0 < n) (h1 : n ≤ 1099511627776) : scrimlaw2_within.f a n = some (a % n) := by
  unfold scrimlaw2_within.f
  rw [if_neg (by omega)]
  have e := Int.tmod_eq_emod (a := a) (b := n)
  have l1 := Int.emod_nonneg a (by omega : n ≠ 0)
  have l2 := Int.emod_lt_of_pos a h0
  by_cases hc : 0 ≤ a ∨ n ∣ a
  · rw [if_pos hc] at e
    rw [if_neg (by omega)]
    congr 1; omega
  · rw [if_neg hc] at e
    have hn : (n.natAbs : Int) = n := by omega
    have hnz : a % n ≠ 0 := fun z => hc (.inr (Int.dvd_of_emod_eq_zero z))
    rw [if_pos (by omega)]
    congr 1
    unfold wrap64; omega
theorem order_swaps (n : Nat) (hn : n ≤ 1000) (ns : List Int) (_hns : ns.length ≤ 140737488351232) (d : Nat) :
    ∀ (k i : Nat) (t : List Int), i + d = 101 → d < k → Ord n t →
      ∃ u, scrimlaw2_Order.l1 k (n : Int) ns t (i : Int) = some u ∧ Ord n u := by
  induction d with
  | zero =>
    intro k i t hd hk ht
    obtain ⟨k, rfl⟩ : ∃ m, k = m + 1 := ⟨k - 1, by omega⟩
    refine ⟨t, ?_, ht⟩
    simp only [scrimlaw2_Order.l1]
    by_cases h : (i : Int) < (ns.length : Int)
    · rw [if_pos h, if_neg (by omega)]
    · rw [if_neg h]
  | succ d ih =>
    intro k i t hd hk ht
    obtain ⟨k, rfl⟩ : ∃ m, k = m + 1 := ⟨k - 1, by omega⟩
    simp only [scrimlaw2_Order.l1]
    by_cases h : (i : Int) < (ns.length : Int)
    · rw [if_pos h]
      by_cases h2 : (i : Int) < 100
      · rw [if_pos h2]
        by_cases h3 : (n : Int) > 0
        · have hlen : t.length = n := ht.length
          rw [if_pos h3, if_neg (by omega), if_pos (by omega), within_f _ _ h3 (by omega)]
          simp only [Option.bind_some]
          have l1 := Int.emod_nonneg (rd ns i) (by omega : (n : Int) ≠ 0)
          have l2 := Int.emod_lt_of_pos (rd ns i) h3
          have m1 : Int.tmod (i : Int) (n : Int) = (i : Int) % n := Int.tmod_eq_emod_of_nonneg (by omega)
          have l3 := Int.emod_nonneg (i : Int) (by omega : (n : Int) ≠ 0)
          have l4 := Int.emod_lt_of_pos (i : Int) h3
          rw [m1, if_pos l1, if_pos (by omega), if_pos l3, if_pos (by omega)]
          rw [w_succ (by omega)]
          refine ih k (i + 1) _ (by omega) (by omega) (List.Perm.trans ?_ ht : Ord n _)
          exact swap_perm t _ _ (by omega) (by omega)
        · exact ⟨t, by rw [if_neg h3], ht⟩
      · exact ⟨t, by rw [if_neg h2], ht⟩
    · exact ⟨t, by rw [if_neg h], ht⟩
theorem order_fill (n : Nat) (hn : n ≤ 1000) (ns : List Int) (hns : ns.length ≤ 140737488351232) (d : Nat) :
    ∀ (k i : Nat), i + d = n → d + 102 < k →
      ∃ u, scrimlaw2_Order.l0 k (n : Int) ns (upTo i) ((i : Int) + 1) = some u ∧ Ord n u := by
  induction d with
  | zero =>
    intro k i hd hk
    obtain ⟨k, rfl⟩ : ∃ m, k = m + 1 := ⟨k - 1, by omega⟩
    obtain rfl : i = n := by omega
    simp only [scrimlaw2_Order.l0]
    rw [if_neg (by omega)]
    exact order_swaps i hn ns hns 101 k 0 _ (by omega) (by omega) (List.Perm.refl (upTo i))
  | succ d ih =>
    intro k i hd hk
    obtain ⟨k, rfl⟩ : ∃ m, k = m + 1 := ⟨k - 1, by omega⟩
    simp only [scrimlaw2_Order.l0]
    rw [if_pos (by omega), if_pos (by rw [upTo_length]; omega)]
    have e : upTo i ++ [(i : Int) + 1] = upTo (i + 1) := (upTo_succ i).symm
    have e5 : wrap64 ((i : Int) + 1 + 1) = ((i + 1 : Nat) : Int) + 1 := by rw [show (i : Int) + 1 + 1 = ((i + 1 : Nat) : Int) + 1 from by omega]; exact w_of (by omega) (by omega)
    rw [e, e5]
    exact ih k (i + 1) (by omega) (by omega)
theorem order_f (k n : Nat) (hn : n ≤ 1000) (ns : List Int) (hns : ns.length ≤ 140737488351232) (hk : n + 102 < k) :
    ∃ u, scrimlaw2_Order.f k (n : Int) ns = some u ∧ Ord n u := by
  exact order_fill n hn ns hns n k 0 (by omega) (by omega)

/-! ### Invert -/
theorem invert_loop (t : List Int) (htl : t.length ≤ 17592186044416) (ht : ∀ x ∈ t, (Lit.int .i64 x).wf = true) (d : Nat) : ∀ (k i : Nat) (o : List Int), i + d = t.length → d < k → o.length = t.length →
    bits_Invert.l0 k t o (t.length : Int) (i : Int) = some (match invGo t.length (t.drop i) i o with | some u => (u, true) | none => ([], false)) := by
  induction d with
  | zero =>
    intro k i o hd hk hl
    obtain ⟨k, rfl⟩ : ∃ m, k = m + 1 := ⟨k - 1, by omega⟩
    obtain rfl : i = t.length := by omega
    simp only [bits_Invert.l0]
    rw [if_neg (by omega), if_pos (by omega), if_pos (by omega), List.drop_length]
    rfl
  | succ d ih =>
    intro k i o hd hk hl
    obtain ⟨k, rfl⟩ : ∃ m, k = m + 1 := ⟨k - 1, by omega⟩
    simp only [bits_Invert.l0]
    have hi : i < t.length := by omega
    have hn := wf_getD ht i
    rw [if_pos (by omega), if_pos (by omega), if_pos (by omega), rd_nat, drop_cons hi]
    unfold invGo
    generalize t.getD i 0 = n at hn
    by_cases h1 : n < 1
    · rw [if_pos h1, if_pos (Or.inl h1)]
    · rw [if_neg h1]
      by_cases h2 : n > (t.length : Int)
      · rw [if_pos h2, if_pos (Or.inr (Or.inl h2))]
      · rw [if_neg h2, w_of (x := n - 1) (by omega) (by omega), if_pos (by omega), if_pos (by omega)]
        have hr : rd o (n - 1) = o.getD (n - 1).toNat 0 := rfl
        rw [hr]
        by_cases h3 : o.getD (n - 1).toNat 0 > 0
        · rw [if_pos h3, if_pos (Or.inr (Or.inr h3))]
        · rw [if_neg h3, if_neg (fun h => h.elim h1 (fun h => h.elim h2 h3)), w_succ (by omega)]
          exact ih k (i + 1) _ (by omega) (by omega) (by rw [List.length_set]; exact hl)
theorem invert_f (k : Nat) (t : List Int) (htl : t.length ≤ 17592186044416) (ht : ∀ x ∈ t, (Lit.int .i64 x).wf = true) (hk : t.length < k) : bits_Invert.f k t = some (invL t) := by
  unfold bits_Invert.f
  rw [if_pos (by omega), if_pos (by omega), Int.toNat_natCast]
  have := invert_loop t htl ht t.length k 0 (List.replicate t.length 0) (by omega) hk (by simp)
  rw [List.drop_zero] at this
  exact this

/-! ### the reference's Invert -/
theorem refinvert_loop (t : List Int) (htl : t.length ≤ 17592186044416) (ht : ∀ x ∈ t, (Lit.int .i64 x).wf = true) (d : Nat) : ∀ (k i : Nat) (o : List Int), i + d = t.length → d < k → o.length = t.length → (∀ j, 0 ≤ o.getD j 0) →
    scrimref2_Invert.l0 k t o (i : Int) = some (match invGo t.length (t.drop i) i o with | some u => (u, true) | none => ([], false)) := by
  induction d with
  | zero =>
    intro k i o hd hk hl _
    obtain ⟨k, rfl⟩ : ∃ m, k = m + 1 := ⟨k - 1, by omega⟩
    obtain rfl : i = t.length := by omega
    simp only [scrimref2_Invert.l0]
    rw [if_neg (by omega), List.drop_length]
    rfl
  | succ d ih =>
    intro k i o hd hk hl ho
    obtain ⟨k, rfl⟩ : ∃ m, k = m + 1 := ⟨k - 1, by omega⟩
    simp only [scrimref2_Invert.l0]
    have hi : i < t.length := by omega
    have hn := wf_getD ht i
    rw [if_pos (by omega), if_pos (by omega), rd_nat, drop_cons hi]
    unfold invGo
    generalize t.getD i 0 = n at hn
    by_cases h1 : n < 1
    · rw [if_pos h1, if_pos (Or.inl h1)]
    · rw [if_neg h1]
      by_cases h2 : n > (t.length : Int)
      · rw [if_pos h2, if_pos (Or.inr (Or.inl h2))]
      · rw [if_neg h2, w_of (x := n - 1) (by omega) (by omega), if_pos (by omega), if_pos (by omega)]
        have hr : rd o (n - 1) = o.getD (n - 1).toNat 0 := rfl
        rw [hr]
        have h0 := ho (n - 1).toNat
        by_cases h3 : o.getD (n - 1).toNat 0 = 0
        · rw [if_pos h3, if_neg (fun h => h.elim h1 (fun h => h.elim h2 (fun h => by omega))), w_succ (by omega)]
          refine ih k (i + 1) _ (by omega) (by omega) (by rw [List.length_set]; exact hl) fun j => ?_
          rw [getD_set _ _ _ _ (by omega)]
          have := ho j
          split <;> omega
        · rw [if_neg h3, if_pos (Or.inr (Or.inr (by omega)))]
theorem refinvert_f (k : Nat) (t : List Int) (htl : t.length ≤ 17592186044416) (ht : ∀ x ∈ t, (Lit.int .i64 x).wf = true) (hk : t.length < k) : scrimref2_Invert.f k t = some (invL t) := by
  unfold scrimref2_Invert.f
  rw [if_pos (by omega), if_pos (by omega), Int.toNat_natCast]
  have := refinvert_loop t htl ht t.length k 0 (List.replicate t.length 0) (by omega) hk (by simp) (fun j => by
    rw [List.getD_eq_getElem?_getD, List.getElem?_replicate]; split <;> simp)
  rw [List.drop_zero] at this
  exact this

/-! ### ints -/
theorem ints_loop (a : List Int) (ha : a.length ≤ 140737488351232) (d : Nat) : ∀ (k i : Nat), i + d = a.length → d < k → scrimlaw2_ints.l0 k a a (i : Int) = some true := by
  induction d with
  | zero =>
    intro k i hd hk
    obtain ⟨k, rfl⟩ : ∃ m, k = m + 1 := ⟨k - 1, by omega⟩
    simp only [scrimlaw2_ints.l0]
    rw [if_neg (by omega)]
  | succ d ih =>
    intro k i hd hk
    obtain ⟨k, rfl⟩ : ∃ m, k = m + 1 := ⟨k - 1, by omega⟩
    simp only [scrimlaw2_ints.l0]
    rw [if_pos (by omega), if_pos (by omega), if_pos (by omega), if_pos trivial, w_succ (by omega)]
    exact ih k (i + 1) (by omega) (by omega)
theorem ints_same (k : Nat) (a : List Int) (ha : a.length ≤ 140737488351232) (hk : a.length < k) : scrimlaw2_ints.f k a a = some true := by
  unfold scrimlaw2_ints.f
  rw [if_pos rfl]
  exact ints_loop a ha a.length k 0 (by omega) hk

/-! ### the law -/
def GoodT (t : List Int) : Prop := t.length ≤ 1000 ∧ ∀ x ∈ t, (Lit.int .i64 x).wf = true
theorem invert_all (xs : List (List Int)) (hn : xs.length ≤ 100) (hx : ∀ t ∈ xs, GoodT t) (d : Nat) : ∀ (k i : Nat), i + d = xs.length → d + 2000 < k → scrimlaw2_BitsInvert.l0 k xs (i : Int) = some true := by
  induction d with
  | zero =>
    intro k i hd hk
    obtain ⟨k, rfl⟩ : ∃ m, k = m + 1 := ⟨k - 1, by omega⟩
    simp only [scrimlaw2_BitsInvert.l0]
    rw [if_neg (by omega)]
  | succ d ih =>
    intro k i hd hk
    obtain ⟨k, rfl⟩ : ∃ m, k = m + 1 := ⟨k - 1, by omega⟩
    simp only [scrimlaw2_BitsInvert.l0]
    have hi : i < xs.length := by omega
    have hm : rd_L2 xs (i : Int) ∈ xs := by
      unfold rd_L2
      rw [Int.toNat_natCast, List.getD_eq_getElem?_getD, List.getElem?_eq_getElem hi]; exact List.getElem_mem hi
    obtain ⟨h1, h2⟩ := hx _ hm
    generalize rd_L2 xs (i : Int) = t at h1 h2
    have hl : (invL t).1.length ≤ 1000 := Nat.le_trans (invL_length t) h1
    rw [if_pos (by omega), if_pos (by omega), invert_f k t (by omega) h2 (by omega), Option.bind_some, refinvert_f k t (by omega) h2 (by omega), Option.bind_some,
      show ((invL t).2 != (invL t).2) = false from by simp, if_neg (by simp), ints_same k _ (by omega) (by omega), Option.bind_some, if_pos rfl, w_succ (by omega)]
    exact ih k (i + 1) (by omega) (by omega)
theorem invert_start (t u raw : List Int) (ht : GoodT t) (hu : GoodT u) (hr : GoodT raw) (K : Nat) (hK : 3000 ≤ K) : scrimlaw2_BitsInvert.j0 K raw t u = some true := by
  obtain ⟨K, rfl⟩ : ∃ m, K = m + 1 := ⟨K - 1, by omega⟩
  simp only [scrimlaw2_BitsInvert.j0]
  have hc : ∀ c ∈ [[], [1], [0], [2], [2, 1], [1, 1]], GoodT c := by unfold GoodT; decide
  refine invert_all _ (by simp) (fun x hx => ?_) 9 K 0 (by simp) (by omega)
  simp only [List.mem_cons, List.not_mem_nil, or_false] at hx
  rcases hx with rfl | rfl | rfl | h | h | h | h | h | h
  · exact ht
  · exact hu
  · exact hr
  all_goals exact hc x (by rw [h]; simp)
theorem BitsInvert : scrimlaw2_BitsInvert.Pure := by
  intro ns n raw at_ by_ _ hns _ _ _ _ hrw _ _
  obtain ⟨K, hK⟩ : ∃ K : Nat, 4000 ≤ K := ⟨_, Nat.le_refl _⟩
  refine ⟨K, ?_⟩
  unfold scrimlaw2_BitsInvert.f
  rw [known_f _ (by omega), Option.bind_some, if_pos rfl]
  by_cases h : (raw.length : Int) > 200
  · rw [if_pos h]
  · rw [if_neg h, within_f n 64 (by omega) (by omega), Option.bind_some]
    have l1 := Int.emod_nonneg n (by omega : (64 : Int) ≠ 0)
    have l2 := Int.emod_lt_of_pos n (by omega : (0 : Int) < 64)
    obtain ⟨m, hm⟩ : ∃ m : Nat, n % 64 = m := ⟨(n % 64).toNat, by omega⟩
    rw [hm] at l2 ⊢
    obtain ⟨t, ht, ot⟩ := order_f K m (by omega) ns (by omega) (by omega)
    have hl := ot.length
    have gt : GoodT t := ⟨by omega, ot.wf (by omega)⟩
    have gr : GoodT raw := ⟨by omega, hrw⟩
    rw [ht, Option.bind_some, Option.bind_some, if_pos (by simp; omega), Option.bind_some, List.nil_append]
    by_cases h0 : (t.length : Int) > 0
    · rw [if_pos h0, within_f at_ _ (by omega) (by omega), Option.bind_some, within_f by_ 70 (by omega) (by omega), Option.bind_some]
      have b1 := Int.emod_nonneg at_ (by omega : (t.length : Int) ≠ 0)
      have b2 := Int.emod_lt_of_pos at_ (by omega : (0 : Int) < (t.length : Int))
      have b3 := Int.emod_nonneg by_ (by omega : (70 : Int) ≠ 0)
      have b4 := Int.emod_lt_of_pos by_ (by omega : (0 : Int) < 70)
      rw [if_pos b1, if_pos b2]
      generalize at_ % (t.length : Int) = p at b1 b2
      generalize by_ % 70 = q at b3 b4
      rw [w_of (x := q - 2) (by omega) (by omega)]
      refine invert_start t _ raw gt ⟨by rw [List.length_set]; omega, fun x hx => ?_⟩ gr K (by omega)
      rcases List.mem_or_eq_of_mem_set hx with h' | h'
      · exact gt.2 x h'
      · subst h'; simp [Lit.wf, IntKind.min, IntKind.max, IntKind.signed, IntKind.bits]; omega
    · rw [if_neg h0]
      exact invert_start t t raw gt gt gr K (by omega)

end Go.Proofs.Ytmlkacglddnneaa.Pure
