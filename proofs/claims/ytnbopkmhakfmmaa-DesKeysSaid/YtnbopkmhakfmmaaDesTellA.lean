/- DesTellA: what Bit, Permute, Xor and Keys of the program come to: plain laws over the printed functions. Conditions: bytes, and bounds on lengths. -/
import Derived.Test.YtnbopkmhakfmmaaMDesb
import Derived.Test.YtnbopkmhakfmmaaMDesd
import Derived.Test.YtnbopkmhakfmmaaMDesf
import Derived.Test.YtnbopkmhakfmmaaDesModel
namespace Go.Proofs.Ytnbopkmhakfmmaa.Pure
open Go.RowKit Go.Proofs.Ytnbopkmhakfmmaa.MDes Go.Proofs.YtnbopkmhakfmmaaW.PrintWords Go.Proofs.YtnbopkmhakfmmaaW.PrintLast Go.Proofs.YtnbopkmhakfmmaaW.PrintMore Go.Proofs.Ytnbopkmhakfmmaa.Plain

/-! ### Bit -/
theorem bit_f (b : List Int) (i : Int) (hb : Bytes b) (hi : i ≤ 9223372036854775807) : bits_Bit.f b i = some (bitv b i) := by
  unfold bits_Bit.f
  by_cases h1 : i < 1
  · rw [if_pos h1]; unfold bitv; rw [if_neg (by omega)]
  · have hbv : bitv b i = b2i (gb b (i - 1).toNat) := by unfold bitv; rw [if_pos (by omega)]
    rw [if_neg h1, hbv]
    have e1 : wrap64 (i - 1) = i - 1 := w_of (by omega) (by omega)
    rw [e1]
    obtain ⟨j, hj⟩ : ∃ j : Nat, i - 1 = j := ⟨(i - 1).toNat, by omega⟩
    rw [hj, Int.toNat_natCast]
    rw [w_div8 (by omega), w_rest8]
    by_cases h2 : ((j / 8 : Nat) : Int) ≥ (b.length : Int)
    · rw [if_pos h2, gb_beyond b j (by omega)]; rfl
    · rw [if_neg h2, if_pos (by omega), if_pos (by omega), if_pos (by omega)]
      congr 1
      rw [shr_u8 _ _ (by omega), Int.toNat_natCast]
      have hx := bytes_getD hb (j / 8)
      rw [rd_nat]
      have hd := div_pow_range _ hx (7 - j % 8)
      have ew : wrap64 (b.getD (j / 8) 0 / 2 ^ (7 - j % 8)) = b.getD (j / 8) 0 / 2 ^ (7 - j % 8) := w_of (by omega) (by omega)
      rw [ew, i64_and1 _ hd.1 (by omega), shr_mod2 _ hx.1]
      rfl

/-! ### Permute -/
theorem okT_cons (b : List Int) (n : Int) (t : List Int) : okT b (n :: t) = (decide (1 ≤ n) && decide (n ≤ 8 * (b.length : Int)) && okT b t) := by simp [okT]
theorem drop_cons {t : List Int} {i : Nat} (h : i < t.length) : t.drop i = t.getD i 0 :: t.drop (i + 1) := by
  rw [List.drop_eq_getElem_cons h, List.getD_eq_getElem?_getD, List.getElem?_eq_getElem h]; rfl
theorem wf_getD {t : List Int} (ht : ∀ x ∈ t, (Lit.int .i64 x).wf = true) (i : Nat) : -9223372036854775808 ≤ t.getD i 0 ∧ t.getD i 0 ≤ 9223372036854775807 := by
  rw [List.getD_eq_getElem?_getD]
  by_cases hi : i < t.length
  · rw [List.getElem?_eq_getElem hi]; exact wf_i64 (ht _ (List.getElem_mem hi))
  · rw [List.getElem?_eq_none (by omega)]; simp
theorem permute_loop (b t : List Int) (hb : Bytes b) (htl : t.length ≤ 140737488351232) (ht : ∀ x ∈ t, (Lit.int .i64 x).wf = true) (d : Nat) :
    ∀ (k i : Nat) (x : List Int), i + d = t.length → d < k → x.length = (t.length + 7) / 8 → Bytes x →
      (∀ j, gb x j = (decide (j < i) && gb b (t.getD j 0 - 1).toNat)) →
      bits_Permute.l0 k b t x (t.length : Int) (i : Int) = some (if okT b (t.drop i) then (permL b t, true) else ([], false)) := by
  induction d with
  | zero =>
    intro k i x hd hk hx hbx hg
    obtain ⟨k, rfl⟩ : ∃ m, k = m + 1 := ⟨k - 1, by omega⟩
    obtain rfl : i = t.length := by omega
    simp only [bits_Permute.l0]
    rw [if_neg (by omega), List.drop_length]
    have : x = permL b t := by
      refine gb_ext hbx (permL_bytes b t) (by rw [hx, permL_length]) fun j _ => ?_
      rw [hg j, gb_permL]
    simp [okT, this]
  | succ d ih =>
    intro k i x hd hk hx hbx hg
    obtain ⟨k, rfl⟩ : ∃ m, k = m + 1 := ⟨k - 1, by omega⟩
    have hi : i < t.length := by omega
    simp only [bits_Permute.l0]
    rw [if_pos (by omega), if_pos (by omega), if_pos (by omega), rd_nat, drop_cons hi, okT_cons]
    have hn := wf_getD ht i
    generalize hne : t.getD i 0 = n at hn
    by_cases h1 : n < 1
    · rw [if_pos h1]
      have : decide (1 ≤ n) = false := by simp; omega
      simp [this]
    · rw [if_neg h1]
      have e1 : wrap64 (n - 1) = n - 1 := w_of (by omega) (by omega)
      have e2 : wrap64 (Int.tdiv (n - 1) 8) = (n - 1) / 8 := by
        rw [Int.tdiv_eq_ediv_of_nonneg (by omega)]; exact w_of (by omega) (by omega)
      rw [e1, e2]
      by_cases h2 : (n - 1) / 8 ≥ (b.length : Int)
      · rw [if_pos h2]
        have : decide (n ≤ 8 * (b.length : Int)) = false := by simp; omega
        simp [this]
      · rw [if_neg h2]
        rw [w_div8 (by omega), w_rest8, w_succ (by omega), if_pos (by omega), if_pos (by omega), bit_f b n hb (by omega)]
        simp only [Option.bind_some]
        rw [if_pos (by omega), Int.toNat_natCast]
        have hbv : bitv b n = b2i (gb b (n - 1).toNat) := by unfold bitv; rw [if_pos (by omega)]
        rw [rd_nat, hbv]
        obtain ⟨s0, s1, s2⟩ := or_step (x.getD (i / 8) 0) (bytes_getD hbx (i / 8)) (gb b (n - 1).toNat) (7 - i % 8) (by omega)
        rw [ih k (i + 1) _ (by omega) (by omega) (by simpa using hx) (bytes_set hbx _ ⟨s0, s1⟩) ?_]
        · have a1 : decide (1 ≤ n) = true := by simp; omega
          have a2 : decide (n ≤ 8 * (b.length : Int)) = true := by simp; omega
          simp [a1, a2]
        · intro j
          rw [gb_set x (i / 8) (by omega) _ j, s2]
          by_cases hj : j / 8 = i / 8
          · rw [if_pos hj]
            have hx0 : gb x j = (x.getD (i / 8) 0).toNat.testBit (7 - j % 8) := by unfold gb; rw [hj]
            rw [← hx0, hg j]
            by_cases h3 : j < i
            · have : ¬ (7 - j % 8 = 7 - i % 8) := by omega
              simp [h3, this, Nat.lt_succ_of_lt h3]
            · by_cases h4 : j = i
              · subst h4; rw [hne]; simp
              · have c1 : ¬ j < i + 1 := by omega
                have : ¬ (7 - j % 8 = 7 - i % 8) := by omega
                simp [h3, c1, this]
          · rw [if_neg hj, hg j]
            have : (j < i) ↔ (j < i + 1) := by omega
            simp [this]
theorem permute_f (k : Nat) (b t : List Int) (hb : Bytes b) (htl : t.length ≤ 140737488351232) (ht : ∀ x ∈ t, (Lit.int .i64 x).wf = true) (hk : t.length < k) :
    bits_Permute.f k b t = some (if okT b t then (permL b t, true) else ([], false)) := by
  unfold bits_Permute.f
  rw [w_up8 (by omega), if_pos (by omega), Int.toNat_natCast, if_pos (by omega)]
  have := permute_loop b t hb htl ht t.length k 0 (List.replicate ((t.length + 7) / 8) 0) (by omega) hk (by simp) (bytes_replicate _) (fun j => by rw [gb_replicate]; simp)
  simpa using this
theorem permute_ok {k : Nat} {b t : List Int} (_hl : b.length ≤ 140737488351232) (hb : Bytes b) (htl : t.length ≤ 140737488351232) (hok : okT b t = true) (hk : t.length < k) :
    bits_Permute.f k b t = some (permL b t, true) := by
  rw [permute_f k b t hb htl ?_ hk, hok]; rfl
  intro x hx
  have := List.all_eq_true.1 hok x hx
  simp at this
  simp [Lit.wf, IntKind.min, IntKind.max, IntKind.signed, IntKind.bits]
  omega

/-! ### Xor -/
theorem xor_loop (a b : List Int) (ha : Bytes a) (hb : Bytes b) (hl : a.length = b.length) (hm : a.length ≤ 140737488351232) (d : Nat) : ∀ (k i : Nat) (x : List Int), i + d = a.length → d < k → x.length = a.length → Bytes x →
      (∀ j, gb x j = (decide (j < 8 * i) && (gb a j ^^ gb b j))) → words_Xor.l0 k a b x (a.length : Int) (i : Int) = some (xorL a b, true) := by
  induction d with
  | zero =>
    intro k i x hd hk hx hbx hg
    obtain ⟨k, rfl⟩ : ∃ m, k = m + 1 := ⟨k - 1, by omega⟩
    simp only [words_Xor.l0]
    rw [if_neg (by omega)]
    have : x = xorL a b := gb_ext hbx (xorL_bytes _ _) (by rw [hx, xorL_length]) fun j hj => by
      rw [hg, gb_xorL _ _ hl]; simp; intro h; omega
    rw [this]
  | succ d ih =>
    intro k i x hd hk hx hbx hg
    obtain ⟨k, rfl⟩ : ∃ m, k = m + 1 := ⟨k - 1, by omega⟩
    simp only [words_Xor.l0]
    have hxs := xor_step _ _ (bytes_getD ha i) (bytes_getD hb i)
    rw [if_pos (by omega), if_pos (by omega), if_pos (by omega), if_pos (by omega), if_pos (by omega), w_succ (by omega), Int.toNat_natCast, rd_nat, rd_nat]
    refine ih k (i + 1) _ (by omega) (by omega) (by rw [List.length_set]; exact hx) (bytes_set hbx _ hxs.1) fun j => ?_
    rw [gb_set x i (by omega) _ j, hxs.2]
    by_cases hj : j / 8 = i
    · rw [if_pos hj]
      have e1 : gb a j = (a.getD i 0).toNat.testBit (7 - j % 8) := by unfold gb; rw [hj]
      have e2 : gb b j = (b.getD i 0).toNat.testBit (7 - j % 8) := by unfold gb; rw [hj]
      rw [← e1, ← e2]
      have : j < 8 * (i + 1) := by omega
      simp [this]
    · rw [if_neg hj, hg j]
      have : (j < 8 * i) ↔ (j < 8 * (i + 1)) := by omega
      simp [this]
theorem xor_f (k : Nat) (a b : List Int) (ha : Bytes a) (hb : Bytes b) (hl : a.length = b.length) (hm : a.length ≤ 140737488351232) (hk : a.length < k) : words_Xor.f k a b = some (xorL a b, true) := by
  unfold words_Xor.f
  rw [if_pos (by omega), if_pos (by omega), Int.toNat_natCast, if_pos (by omega)]
  refine xor_loop a b ha hb hl hm a.length k 0 _ (by omega) hk (by simp) (bytes_replicate _) fun j => by rw [gb_replicate]; simp

/-! ### constants -/
theorem chosen_f (k : Nat) (hk : 100 ≤ k) : des_chosen.f k = some (halvesT, takenT) :=
  at_rounds des_chosen.mono hk (by decide +kernel)
theorem first_f (k : Nat) (hk : 100 ≤ k) : des_first.f k = some firstT := at_rounds des_first.mono hk (by decide +kernel)
theorem wide_f (k : Nat) (hk : 100 ≤ k) : des_wide.f k = some wideT := at_rounds des_wide.mono hk (by decide +kernel)
theorem undo_f (k : Nat) (hk : 100 ≤ k) : bits_Invert.f k firstT = some (invT, true) := at_rounds (bits_Invert.mono firstT) hk (by decide +kernel)

/-! ### Keys -/
def byN (i : Nat) : Nat := if i < 2 ∨ i = 8 ∨ i = 15 then 1 else 2
def rotT (b : Nat) (t : List Int) : List Int := ((t.take 28).drop b ++ (t.take 28).take b) ++ (t.drop 28).drop b ++ (t.drop 28).take b
def tabN : Nat → List Int
  | 0 => halvesT
  | i + 1 => rotT (byN i) (tabN i)
theorem tab_facts : ∀ i : Fin 16, (tabN i.val).length = 56 ∧ (takenT.map fun n => rd (tabN (i.val + 1)) (n - 1)) = pick i.val := by decide +kernel
theorem taken_in : ∀ j, j < 48 → 1 ≤ takenT.getD j 0 ∧ takenT.getD j 0 ≤ 56 := by
  have h : ∀ j : Fin 48, 1 ≤ takenT.getD j.val 0 ∧ takenT.getD j.val 0 ≤ 56 := by decide +kernel
  exact fun j hj => h ⟨j, hj⟩
theorem keys_inner (x x4 : List Int) (x6 : List (List Int)) (x24 : Int) (h4 : x4.length = 56) (R : List (List Int) × Int) (K : Nat)
    (hend : ∀ k, K ≤ k → des_Keys.l1 k x x4 takenT x6 (takenT.map fun n => rd x4 (n - 1)) x24 takenT 48 48 = some R) (d : Nat) :
    ∀ (k j : Nat), j + d = 48 → d + K ≤ k → des_Keys.l1 k x x4 takenT x6 ((takenT.take j).map fun n => rd x4 (n - 1)) x24 takenT 48 (j : Int) = some R := by
  induction d with
  | zero =>
    intro k j hd hk
    obtain rfl : j = 48 := by omega
    exact hend k (by omega)
  | succ d ih =>
    intro k j hd hk
    obtain ⟨k, rfl⟩ : ∃ m, k = m + 1 := ⟨k - 1, by omega⟩
    have ht := taken_in j (by omega)
    have htl : takenT.length = 48 := rfl
    simp only [des_Keys.l1]
    rw [if_pos (by omega), if_pos (by omega), if_pos (by rw [htl]; omega), rd_nat, w_of (x := takenT.getD j 0 - 1) (by omega) (by omega), if_pos (by omega), if_pos (by rw [h4]; omega), if_pos (by rw [List.length_map, List.length_take, htl]; omega), w_succ (by omega)]
    have e : ((takenT.take j).map fun n => rd x4 (n - 1)) ++ [rd x4 (takenT.getD j 0 - 1)] = (takenT.take (j + 1)).map fun n => rd x4 (n - 1) := by
      rw [List.take_succ_eq_append_getElem (by rw [htl]; omega), List.map_append, List.getD_eq_getElem?_getD, List.getElem?_eq_getElem (by rw [htl]; omega)]
      rfl
    rw [e]
    exact ih k (j + 1) (by omega) (by omega)
theorem keys_round (k : Nat) (x : List Int) (x4 : List Int) (x6 : List (List Int)) (i : Nat) (hi : i < 16) : des_Keys.l0 (k + 2) x x4 takenT x6 (i : Int) = des_Keys.j2 k x x4 takenT x6 (byN i : Int) (i : Int) := by
  simp only [des_Keys.l0, des_Keys.j1]
  rw [if_pos (by omega)]
  unfold byN
  by_cases h1 : i < 2
  · rw [if_pos (by omega), if_pos trivial, if_pos (Or.inl h1)]; rfl
  · rw [if_neg (by omega)]
    by_cases h2 : i = 8
    · subst h2; rw [if_pos (by omega), if_pos trivial, if_pos (by omega)]; rfl
    · rw [if_neg (by omega)]
      by_cases h3 : i = 15
      · subst h3; rw [if_pos (by decide), if_pos (by omega)]; rfl
      · have e : ((i : Int) == 15) = false := beq_eq_false_iff_ne.2 (by omega)
        rw [e, if_neg (by decide), if_neg (by omega)]; rfl
theorem clone_f (t : List Int) (h : t.length ≤ 1000) : slices_Clone_int_int.f t = some t := by unfold slices_Clone_int_int.f; rw [if_pos (by omega)]
theorem keys_turn (k : Nat) (x x4 : List Int) (x6 : List (List Int)) (b : Nat) (i : Int) (h4 : x4.length = 56) (hb : b ≤ 2) : des_Keys.j2 (k + 1) x x4 takenT x6 (b : Int) i = des_Keys.l1 k x (rotT b x4) takenT x6 [] i takenT 48 0 := by
  simp only [des_Keys.j2]
  have ht : (x4.take 28).length = 28 := by rw [List.length_take]; omega
  have hd : (x4.drop 28).length = 28 := by rw [List.length_drop]; omega
  rw [if_pos (by omega), clone_f _ (by omega), Option.bind_some, clone_f _ (by omega), Option.bind_some, if_pos (by omega), if_pos (by omega)]
  simp only [Option.bind_some, Int.toNat_natCast]
  rw [if_pos (by simp only [List.length_take]; omega), if_pos (by omega), if_pos (by simp only [List.length_append, List.length_take, List.length_drop]; omega), if_pos (by simp only [List.length_append, List.length_take, List.length_drop]; omega)]
  rfl
theorem keys_loop (x : List Int) (hx : x.length = 8) (hb : Bytes x) (d : Nat) : ∀ (k i : Nat), i + d = 16 → d * 60 + 200 ≤ k →
    des_Keys.l0 k x (tabN i) takenT ((List.range i).map fun i => permL x (pick i)) (i : Int) = some (keysL x, 0) := by
  induction d with
  | zero =>
    intro k i hd hk
    obtain ⟨k, rfl⟩ : ∃ m, k = m + 1 := ⟨k - 1, by omega⟩
    obtain rfl : i = 16 := by omega
    simp only [des_Keys.l0]
    rw [if_neg (by omega)]
    rfl
  | succ d ih =>
    intro k i hd hk
    obtain ⟨k, rfl⟩ : ∃ m, k = m + 3 := ⟨k - 3, by omega⟩
    have hf := tab_facts ⟨i, by omega⟩
    simp only at hf
    have hp := pick_in i (by omega)
    rw [show k + 3 = (k + 1) + 2 from rfl, keys_round (k + 1) x _ _ i (by omega), keys_turn k x _ _ (byN i) _ hf.1 (by unfold byN; split <;> omega)]
    have ht : (tabN (i + 1)).length = 56 := by
      show (rotT (byN i) (tabN i)).length = 56
      unfold rotT byN
      simp only [List.length_append, List.length_take, List.length_drop, hf.1]
      split <;> omega
    show des_Keys.l1 k x (tabN (i + 1)) takenT _ ((takenT.take 0).map fun n => rd (tabN (i + 1)) (n - 1)) _ takenT 48 ((0 : Nat) : Int) = _
    refine keys_inner x (tabN (i + 1)) _ _ ht _ (d * 60 + 201) (fun k hk => ?_) 48 k 0 (by omega) (by omega)
    obtain ⟨k, rfl⟩ : ∃ m, k = m + 1 := ⟨k - 1, by omega⟩
    simp only [des_Keys.l1]
    rw [if_neg (by omega), hf.2, permute_ok (by omega) hb (by rw [hp.2.1]; omega) (okT_of hp.1 (by omega)) (by rw [hp.2.1]; omega)]
    simp only [Option.bind_some]
    rw [if_pos (by rw [List.length_map, List.length_range]; omega), w_succ (by omega)]
    have e : ((List.range i).map fun i => permL x (pick i)) ++ [permL x (pick i)] = (List.range (i + 1)).map fun i => permL x (pick i) := by rw [List.range_succ, List.map_append]; rfl
    rw [e]
    exact ih k (i + 1) (by omega) (by omega)
theorem keys_f (k : Nat) (hk : 2000 ≤ k) (x : List Int) (hb : Bytes x) : des_Keys.f k x = some (if x.length = 8 then (keysL x, 0) else ([], 4)) := by
  unfold des_Keys.f
  by_cases h : x.length = 8
  · rw [if_pos (by omega), if_pos h, chosen_f k (by omega), Option.bind_some]
    exact keys_loop x h hb 16 k 0 (by omega) (by omega)
  · rw [if_neg (by omega), if_neg h]

end Go.Proofs.Ytnbopkmhakfmmaa.Pure
