/- BitsAll: of any bytes each bit, and what any table makes, is as the reference says: the plain law over the printed functions. Conditions: none beyond the statement's own bounds. -/
import Derived.Test.YtmlkacglddnneaaMBitsAllx3
import Derived.Test.YtmlkacglddnneaaBitsPlain
namespace Go.Proofs.Ytmlkacglddnneaa.Pure
open Go.RowKit Go.Proofs.Ytmlkacglddnneaa.MBitsAll Go.Proofs.YtmlkacglddnneaaW.PrintWords Go.Proofs.YtmlkacglddnneaaW.PrintLast Go.Proofs.Ytmlkacglddnneaa.Plain

/-! ### Bit -/
theorem bit_f (b : List Int) (i : Int) (hb : Bytes b) (hi : i ≤ 9223372036854775807) : bits_Bit.f b i = some (bitv b i) := by
  unfold bits_Bit.f
  by_cases h1 : i < 1
  · rw [if_pos h1]; unfold bitv; rw [if_neg (by omega)]
  · have hbv : bitv b i = b2i (gb b (i - 1).toNat) := by unfold bitv; rw [if_pos (by omega)]
    rw [if_neg h1, hbv]
    have e1 : wrap64 (i - 1) = i - 1 := w_of (by omega) (by omega)
    rw [e1]
    obtain ⟨j, hj⟩ : ∃ j : Nat, i - 1 = j := ⟨(i - 1).toNat, by omega⟩
    rw [hj, Int.toNat_natCast]
    rw [w_div8 (by omega), w_rest8]
    by_cases h2 : ((j / 8 : Nat) : Int) ≥ (b.length : Int)
    · rw [if_pos h2, gb_beyond b j (by omega)]; rfl
    · rw [if_neg h2, if_pos (by omega), if_pos (by omega), if_pos (by omega)]
      congr 1
      rw [shr_u8 _ _ (by omega), Int.toNat_natCast]
      have hx := bytes_getD hb (j / 8)
      rw [rd_nat]
      have hd := div_pow_range _ hx (7 - j % 8)
      have ew : wrap64 (b.getD (j / 8) 0 / 2 ^ (7 - j % 8)) = b.getD (j / 8) 0 / 2 ^ (7 - j % 8) := w_of (by omega) (by omega)
      rw [ew, i64_and1 _ hd.1 (by omega), shr_mod2 _ hx.1]
      rfl

/-! ### the reference's Bit -/
theorem refbit_f (b : List Int) (i : Int) (hl : b.length ≤ 140737488351232) (hb : Bytes b) (hi : i ≤ 9223372036854775807) : scrimref2_Bit.f b i = some (bitv b i) := by
  unfold scrimref2_Bit.f
  by_cases h1 : i < 1
  · rw [if_pos h1]; unfold bitv; rw [if_neg (by omega)]
  · have hbv : bitv b i = b2i (gb b (i - 1).toNat) := by unfold bitv; rw [if_pos (by omega)]
    rw [if_neg h1, hbv, w_mul8 (by omega)]
    by_cases h2 : i > ((8 * b.length : Nat) : Int)
    · rw [if_pos h2, gb_beyond b _ (by omega)]; rfl
    · rw [if_neg h2]
      have e1 : wrap64 (i - 1) = i - 1 := w_of (by omega) (by omega)
      rw [e1]
      clear e1
      obtain ⟨j, hj⟩ : ∃ j : Nat, i - 1 = j := ⟨(i - 1).toNat, by omega⟩
      rw [hj, Int.toNat_natCast]
      rw [w_div8 (by omega), w_rest8, w_u64 (by omega), if_pos (by omega), if_pos (by omega), if_pos (by omega)]
      congr 1
      rw [shr_u8 _ _ (by omega), Int.toNat_natCast]
      have hx := bytes_getD hb (j / 8)
      rw [rd_nat]
      have hd := div_pow_range _ hx (7 - j % 8)
      have ew : wrap64 (b.getD (j / 8) 0 / 2 ^ (7 - j % 8)) = b.getD (j / 8) 0 / 2 ^ (7 - j % 8) := w_of (by omega) (by omega)
      rw [ew, i64_and1 _ hd.1 (by omega), shr_mod2 _ hx.1]
      rfl

/-! ### Permute -/
theorem okT_cons (b : List Int) (n : Int) (t : List Int) : okT b (n :: t) = (decide (1 ≤ n) && decide (n ≤ 8 * (b.length : Int)) && okT b t) := by simp [okT]
theorem drop_cons {t : List Int} {i : Nat} (h : i < t.length) : t.drop i = t.getD i 0 :: t.drop (i + 1) := by
  rw [List.drop_eq_getElem_cons h, List.getD_eq_getElem?_getD, List.getElem?_eq_getElem h]; rfl
theorem wf_getD {t : List Int} (ht : ∀ x ∈ t, (Lit.int .i64 x).wf = true) (i : Nat) : -9223372036854775808 ≤ t.getD i 0 ∧ t.getD i 0 ≤ 9223372036854775807 := by
  rw [List.getD_eq_getElem?_getD]
  by_cases hi : i < t.length
  · rw [List.getElem?_eq_getElem hi]; exact wf_i64 (ht _ (List.getElem_mem hi))
  · rw [List.getElem?_eq_none (by omega)]; simp
theorem permute_loop (b t : List Int) (hb : Bytes b) (htl : t.length ≤ 140737488351232) (ht : ∀ x ∈ t, (Lit.int .i64 x).wf = true) (d : Nat) :
    ∀ (k i : Nat) (x : List Int), i + d = t.length → d < k → x.length = (t.length + 7) / 8 → Bytes x →
      (∀ j, gb x j = (decide (j < i) && gb b (t.getD j 0 - 1).toNat)) →
      bits_Permute.l0 k b t x (t.length : Int) (i : Int) = some (if okT b (t.drop i) then (permL b t, true) else ([], false)) := by
  induction d with
  | zero =>
    intro k i x hd hk hx hbx hg
    obtain ⟨k, rfl⟩ : ∃ m, k = m + 1 := ⟨k - 1, by omega⟩
    obtain rfl : i = t.length := by omega
    simp only [bits_Permute.l0]
    rw [if_neg (by omega), List.drop_length]
    have : x = permL b t := by
      refine gb_ext hbx (permL_bytes b t) (by rw [hx, permL_length]) fun j _ => ?_
      rw [hg j, gb_permL]
    simp [okT, this]
  | succ d ih =>
    intro k i x hd hk hx hbx hg
    obtain ⟨k, rfl⟩ : ∃ m, k = m + 1 := ⟨k - 1, by omega⟩
    have hi : i < t.length := by omega
    simp only [bits_Permute.l0]
    rw [if_pos (by omega), if_pos (by omega), if_pos (by omega), rd_nat, drop_cons hi, okT_cons]
    have hn := wf_getD ht i
    generalize hne : t.getD i 0 = n at hn
    by_cases h1 : n < 1
    · rw [if_pos h1]
      have : decide (1 ≤ n) = false := by simp; omega
      simp [this]
    · rw [if_neg h1]
      have e1 : wrap64 (n - 1) = n - 1 := w_of (by omega) (by omega)
      have e2 : wrap64 (Int.tdiv (n - 1) 8) = (n - 1) / 8 := by
        rw [Int.tdiv_eq_ediv_of_nonneg (by omega)]; exact w_of (by omega) (by omega)
      rw [e1, e2]
      by_cases h2 : (n - 1) / 8 ≥ (b.length : Int)
      · rw [if_pos h2]
        have : decide (n ≤ 8 * (b.length : Int)) = false := by simp; omega
        simp [this]
      · rw [if_neg h2]
        rw [w_div8 (by omega), w_rest8, w_succ (by omega), if_pos (by omega), if_pos (by omega), bit_f b n hb (by omega)]
        simp only [Option.bind_some]
        rw [if_pos (by omega), Int.toNat_natCast]
        have hbv : bitv b n = b2i (gb b (n - 1).toNat) := by unfold bitv; rw [if_pos (by omega)]
        rw [rd_nat, hbv]
        obtain ⟨s0, s1, s2⟩ := or_step (x.getD (i / 8) 0) (bytes_getD hbx (i / 8)) (gb b (n - 1).toNat) (7 - i % 8) (by omega)
        rw [ih k (i + 1) _ (by omega) (by omega) (by simpa using hx) (bytes_set hbx _ ⟨s0, s1⟩) ?_]
        · have a1 : decide (1 ≤ n) = true := by simp; omega
          have a2 : decide (n ≤ 8 * (b.length : Int)) = true := by simp; omega
          simp [a1, a2]
        · intro j
          rw [gb_set x (i / 8) (by omega) _ j, s2]
          by_cases hj : j / 8 = i / 8
          · rw [if_pos hj]
            have hx0 : gb x j = (x.getD (i / 8) 0).toNat.testBit (7 - j % 8) := by unfold gb; rw [hj]
            rw [← hx0, hg j]
            by_cases h3 : j < i
            · have : ¬ (7 - j % 8 = 7 - i % 8) := by omega
              simp [h3, this, Nat.lt_succ_of_lt h3]
            · by_cases h4 : j = i
              · subst h4; rw [hne]; simp
              · have c1 : ¬ j < i + 1 := by omega
                have : ¬ (7 - j % 8 = 7 - i % 8) := by omega
                simp [h3, c1, this]
          · rw [if_neg hj, hg j]
            have : (j < i) ↔ (j < i + 1) := by omega
            simp [this]
theorem permute_f (k : Nat) (b t : List Int) (hb : Bytes b) (htl : t.length ≤ 140737488351232) (ht : ∀ x ∈ t, (Lit.int .i64 x).wf = true) (hk : t.length < k) :
    bits_Permute.f k b t = some (if okT b t then (permL b t, true) else ([], false)) := by
  unfold bits_Permute.f
  rw [w_up8 (by omega), if_pos (by omega), Int.toNat_natCast, if_pos (by omega)]
  have := permute_loop b t hb htl ht t.length k 0 (List.replicate ((t.length + 7) / 8) 0) (by omega) hk (by simp) (bytes_replicate _) (fun j => by rw [gb_replicate]; simp)
  simpa using this
theorem permute_ok {k : Nat} {b t : List Int} (_hl : b.length ≤ 140737488351232) (hb : Bytes b) (htl : t.length ≤ 140737488351232) (hok : okT b t = true) (hk : t.length < k) :
    bits_Permute.f k b t = some (permL b t, true) := by
  rw [permute_f k b t hb htl ?_ hk, hok]; rfl
  intro x hx
  have := List.all_eq_true.1 hok x hx
  simp at this
  simp [Lit.wf, IntKind.min, IntKind.max, IntKind.signed, IntKind.bits]
  omega
/-! ### the chapter's example -/
theorem known_f (k : Nat) (hk : 8 < k) : scrimlaw2_known.f k = some true := by
  unfold scrimlaw2_known.f
  rw [permute_ok (by decide) (by unfold Bytes; decide) (by decide) (by decide) hk]
  simp only [Option.bind_some]
  rw [bit_f _ _ (by unfold Bytes; decide) (by decide)]
  decide +kernel

/-! ### within -/
theorem within_f (a n : Int) (h0 : 0 < n) (h1 : n ≤ 1099511627776) : scrimlaw2_within.f a n = some (a % n) := by
  unfold scrimlaw2_within.f
  rw [if_neg (by omega)]
  have e := Int.tmod_eq_emod (a := a) (b := n)
  have l1 := Int.emod_nonneg a (by omega : n ≠ 0)
  have l2 := Int.emod_lt_of_pos a h0
  by_cases hc : 0 ≤ a ∨ n ∣ a
  · rw [if_pos hc] at e
    rw [if_neg (by omega)]
    congr 1; omega
  · rw [if_neg hc] at e
    have hn : (n.natAbs : Int) = n := by omega
    have hnz : a % n ≠ 0 := fun z => hc (.inr (Int.dvd_of_emod_eq_zero z))
    rw [if_pos (by omega)]
    congr 1
    unfold wrap64; omega

/-! ### the reference's Permute -/
theorem shl_one (s : Nat) (hs : s < 8) : shl .u8 1 (s : Int) = shl .i64 (b2i true) (s : Int) % 256 := by
  match s, hs with
  | 0, _ => decide +kernel | 1, _ => decide +kernel | 2, _ => decide +kernel | 3, _ => decide +kernel
  | 4, _ => decide +kernel | 5, _ => decide +kernel | 6, _ => decide +kernel | 7, _ => decide +kernel
theorem refpermute_loop (b t : List Int) (hl : b.length ≤ 140737488351232) (hb : Bytes b) (htl : t.length ≤ 140737488351232) (ht : ∀ x ∈ t, (Lit.int .i64 x).wf = true) (d : Nat) :
    ∀ (k i : Nat) (x : List Int), i + d = t.length → 2 * d < k → x.length = (t.length + 7) / 8 → Bytes x →
      (∀ j, gb x j = (decide (j < i) && gb b (t.getD j 0 - 1).toNat)) →
      scrimref2_Permute.l0 k b t x (i : Int) = some (if okT b (t.drop i) then (permL b t, true) else ([], false)) := by
  induction d with
  | zero =>
    intro k i x hd hk hx hbx hg
    obtain ⟨k, rfl⟩ : ∃ m, k = m + 1 := ⟨k - 1, by omega⟩
    obtain rfl : i = t.length := by omega
    simp only [scrimref2_Permute.l0]
    rw [if_neg (by omega), List.drop_length]
    have : x = permL b t := by
      refine gb_ext hbx (permL_bytes b t) (by rw [hx, permL_length]) fun j _ => ?_
      rw [hg j, gb_permL]
    simp [okT, this]
  | succ d ih =>
    intro k i x hd hk hx hbx hg
    obtain ⟨k, rfl⟩ : ∃ m, k = m + 2 := ⟨k - 2, by omega⟩
    have hi : i < t.length := by omega
    simp only [scrimref2_Permute.l0]
    rw [if_pos (by omega), if_pos (by omega), rd_nat, drop_cons hi, okT_cons, w_mul8 (by omega)]
    have hn := wf_getD ht i
    generalize hne : t.getD i 0 = n at hn
    by_cases h1 : n < 1
    · rw [if_pos h1]
      simp only [scrimref2_Permute.j1]
      have : decide (1 ≤ n) = false := by simp; omega
      simp [this]
    · rw [if_neg h1]
      by_cases h2 : n > ((8 * b.length : Nat) : Int)
      · rw [show decide (n > ((8 * b.length : Nat) : Int)) = true from decide_eq_true h2]
        simp only [scrimref2_Permute.j1]
        have : decide (n ≤ 8 * (b.length : Int)) = false := by simp; omega
        simp [this]
      · rw [show decide (n > ((8 * b.length : Nat) : Int)) = false from decide_eq_false h2]
        simp only [scrimref2_Permute.j1]
        have a1 : decide (1 ≤ n) = true := by simp; omega
        have a2 : decide (n ≤ 8 * (b.length : Int)) = true := by simp; omega
        have hbv : bitv b n = b2i (gb b (n - 1).toNat) := by unfold bitv; rw [if_pos (by omega)]
        rw [if_neg (by simp), if_pos (by omega), if_pos (by omega), rd_nat, hne, refbit_f b n hl hb (by omega), Option.bind_some, hbv, a1, a2, Bool.true_and, Bool.true_and]
        have inv : ∀ v : Bool, gb b (n - 1).toNat = v → ∀ y : List Int, (∀ j, gb y j = (gb x j || (v && decide (j = i)))) → ∀ j, gb y j = (decide (j < i + 1) && gb b (t.getD j 0 - 1).toNat) := by
          intro v hv y hy j
          rw [hy j, hg j]
          by_cases h3 : j < i
          · have : ¬ j = i := by omega
            simp [h3, this, Nat.lt_succ_of_lt h3]
          · by_cases h4 : j = i
            · subst h4; rw [hne, hv]; simp
            · have c1 : ¬ j < i + 1 := by omega
              simp [h3, h4, c1]
        by_cases hv : gb b (n - 1).toNat = true
        · rw [hv, if_pos (by rfl), w_div8 (by omega), w_rest8, w_u64 (by omega), if_pos (by omega), if_pos (by omega), if_pos (by omega), Int.toNat_natCast, rd_nat, shl_one _ (by omega), w_succ (by omega)]
          obtain ⟨s0, s1, s2⟩ := or_step (x.getD (i / 8) 0) (bytes_getD hbx (i / 8)) true (7 - i % 8) (by omega)
          refine ih k (i + 1) _ (by omega) (by omega) (by simpa using hx) (bytes_set hbx _ ⟨s0, s1⟩) (inv true hv _ fun j => ?_)
          rw [gb_set x (i / 8) (by omega) _ j, s2]
          by_cases hj : j / 8 = i / 8
          · rw [if_pos hj]
            have hx0 : gb x j = (x.getD (i / 8) 0).toNat.testBit (7 - j % 8) := by unfold gb; rw [hj]
            have : (7 - j % 8 = 7 - i % 8) ↔ (j = i) := by omega
            rw [← hx0]
            simp [this]
          · rw [if_neg hj]
            have : ¬ j = i := fun e => hj (by rw [e])
            simp [this]
        · have hv' : gb b (n - 1).toNat = false := by simpa using hv
          rw [hv', if_neg (by decide), w_succ (by omega)]
          exact ih k (i + 1) _ (by omega) (by omega) hx hbx (inv false hv' _ fun j => by simp)
theorem refpermute_f (k : Nat) (b t : List Int) (hl : b.length ≤ 140737488351232) (hb : Bytes b) (htl : t.length ≤ 140737488351232) (ht : ∀ x ∈ t, (Lit.int .i64 x).wf = true) (hk : 2 * t.length < k) :
    scrimref2_Permute.f k b t = some (if okT b t then (permL b t, true) else ([], false)) := by
  unfold scrimref2_Permute.f
  rw [w_up7 (by omega), if_pos (by omega), Int.toNat_natCast, if_pos (by omega)]
  have := refpermute_loop b t hl hb htl ht t.length k 0 (List.replicate ((t.length + 7) / 8) 0) (by omega) hk (by simp) (bytes_replicate _) (fun j => by rw [gb_replicate]; simp)
  simpa using this
/-! ### the law -/
def GoodT (t : List Int) : Prop := t.length ≤ 1000 ∧ ∀ x ∈ t, (Lit.int .i64 x).wf = true
theorem all_tables (b : List Int) (n : Int) (hl : b.length ≤ 40) (hb : Bytes b) (hn9 : n ≤ 9223372036854775807) (xs : List (List Int)) (hn : xs.length ≤ 100) (hx : ∀ t ∈ xs, GoodT t) (d : Nat) :
    ∀ (k i : Nat), i + d = xs.length → d + 3000 < k → scrimlaw2_BitsAll.l2 k b n xs (i : Int) = some true := by
  induction d with
  | zero =>
    intro k i hd hk
    obtain ⟨k, rfl⟩ : ∃ m, k = m + 1 := ⟨k - 1, by omega⟩
    simp only [scrimlaw2_BitsAll.l2]
    rw [if_neg (by omega), bit_f b n hb hn9, Option.bind_some, refbit_f b n (by omega) hb hn9, Option.bind_some]
    simp
  | succ d ih =>
    intro k i hd hk
    obtain ⟨k, rfl⟩ : ∃ m, k = m + 1 := ⟨k - 1, by omega⟩
    simp only [scrimlaw2_BitsAll.l2]
    have hi : i < xs.length := by omega
    have hm : rd_L2 xs (i : Int) ∈ xs := by
      unfold rd_L2
      rw [Int.toNat_natCast, List.getD_eq_getElem?_getD, List.getElem?_eq_getElem hi]; exact List.getElem_mem hi
    obtain ⟨h1, h2⟩ := hx _ hm
    generalize rd_L2 xs (i : Int) = t at h1 h2
    rw [if_pos (by omega), if_pos (by omega), permute_f k b t hb (by omega) h2 (by omega), Option.bind_some, refpermute_f k b t (by omega) hb (by omega) h2 (by omega), Option.bind_some]
    generalize (if okT b t = true then (permL b t, true) else ([], false)) = p
    rw [show (p.2 != p.2) = false from by simp, if_neg (by simp), if_pos rfl, w_succ (by omega)]
    exact ih k (i + 1) (by omega) (by omega)
theorem all_lists (b raw t : List Int) (n : Int) (hl : b.length ≤ 40) (hb : Bytes b) (hn : (Lit.int .i64 n).wf = true) (hr : GoodT raw) (ht : t.length ≤ 100) (ht2 : ∀ x ∈ t, (Lit.int .i64 x).wf = true) (k : Nat) (hk : 4000 < k) :
    scrimlaw2_BitsAll.j3 k b raw n t = some true := by
  obtain ⟨k, rfl⟩ : ∃ m, k = m + 1 := ⟨k - 1, by omega⟩
  simp only [scrimlaw2_BitsAll.j3]
  rw [Option.bind_some, if_pos (by simp; omega), Option.bind_some, if_pos (by simp; omega), List.nil_append]
  refine all_tables b n hl hb (wf_i64 hn).2 _ (by simp) (fun x hx => ?_) 4 k 0 (by simp) (by omega)
  simp only [List.mem_cons, List.not_mem_nil, or_false] at hx
  rcases hx with rfl | rfl | rfl | rfl
  · exact ⟨by omega, ht2⟩
  · exact hr
  · refine ⟨by simp; omega, fun y hy => ?_⟩
    rcases List.mem_append.1 hy with hy | hy
    · exact ht2 y hy
    · rw [List.mem_singleton.1 hy]; exact hn
  · exact ⟨by simp, fun y hy => by simp at hy⟩
theorem all_table (b ns raw : List Int) (n : Int) (hl : b.length ≤ 40) (hb : Bytes b) (hn : (Lit.int .i64 n).wf = true) (hr : GoodT raw) (d : Nat) :
    ∀ (k i : Nat) (t : List Int), i + d = 100 → d + 5000 < k → t.length = i → (∀ x ∈ t, (Lit.int .i64 x).wf = true) → scrimlaw2_BitsAll.l1 k b ns raw n t (i : Int) = some true := by
  induction d with
  | zero =>
    intro k i t hd hk hlt ht
    obtain ⟨k, rfl⟩ : ∃ m, k = m + 1 := ⟨k - 1, by omega⟩
    simp only [scrimlaw2_BitsAll.l1]
    have fin := all_lists b raw t n hl hb hn hr (by omega) ht k (by omega)
    by_cases h : (i : Int) < (ns.length : Int)
    · rw [if_pos h, if_neg (by omega)]; exact fin
    · rw [if_neg h]; exact fin
  | succ d ih =>
    intro k i t hd hk hlt ht
    obtain ⟨k, rfl⟩ : ∃ m, k = m + 1 := ⟨k - 1, by omega⟩
    simp only [scrimlaw2_BitsAll.l1]
    have fin := all_lists b raw t n hl hb hn hr (by omega) ht k (by omega)
    by_cases h : (i : Int) < (ns.length : Int)
    · rw [if_pos h, if_pos (by omega)]
      by_cases h0 : (b.length : Int) > 0
      · rw [if_pos h0, if_pos (by omega), w_mul8 (by omega), within_f _ _ (by omega) (by omega), Option.bind_some, if_pos (by omega), w_succ (by omega)]
        have l1 := Int.emod_nonneg (rd ns i) (by omega : ((8 * b.length : Nat) : Int) ≠ 0)
        have l2 := Int.emod_lt_of_pos (rd ns i) (by omega : (0 : Int) < ((8 * b.length : Nat) : Int))
        generalize rd ns i % ((8 * b.length : Nat) : Int) = z at l1 l2
        rw [w_of (x := 1 + z) (by omega) (by omega)]
        refine ih k (i + 1) _ (by omega) (by omega) (by simp [hlt]) fun x hx => ?_
        rcases List.mem_append.1 hx with hx | hx
        · exact ht x hx
        · rw [List.mem_singleton.1 hx]
          simp [Lit.wf, IntKind.min, IntKind.max, IntKind.signed, IntKind.bits]; omega
      · rw [if_neg h0]; exact fin
    · rw [if_neg h]; exact fin
theorem all_bits (b ns raw : List Int) (n : Int) (hl : b.length ≤ 40) (hb : Bytes b) (hn : (Lit.int .i64 n).wf = true) (hr : GoodT raw) (d : Nat) :
    ∀ (k : Nat) (i : Int), -2 ≤ i → i + d = 8 * (b.length : Int) + 3 → d + 6000 < k → scrimlaw2_BitsAll.l0 k b ns raw n i = some true := by
  induction d with
  | zero =>
    intro k i hi hd hk
    obtain ⟨k, rfl⟩ : ∃ m, k = m + 1 := ⟨k - 1, by omega⟩
    simp only [scrimlaw2_BitsAll.l0]
    rw [w_mul8 (by omega), w_of (x := ((8 * b.length : Nat) : Int) + 2) (by omega) (by omega), if_neg (by omega)]
    exact all_table b ns raw n hl hb hn hr 100 k 0 [] (by omega) (by omega) rfl (fun x hx => by simp at hx)
  | succ d ih =>
    intro k i hi hd hk
    obtain ⟨k, rfl⟩ : ∃ m, k = m + 1 := ⟨k - 1, by omega⟩
    simp only [scrimlaw2_BitsAll.l0]
    rw [w_mul8 (by omega), w_of (x := ((8 * b.length : Nat) : Int) + 2) (by omega) (by omega), if_pos (by omega), bit_f b i hb (by omega), Option.bind_some, refbit_f b i (by omega) hb (by omega), Option.bind_some, if_pos rfl,
      w_of (x := i + 1) (by omega) (by omega)]
    exact ih k (i + 1) (by omega) (by omega) (by omega)
theorem BitsAll : scrimlaw2_BitsAll.Pure := by
  intro b ns raw n _ _ hb _ _ _ _ _ hrw hn
  obtain ⟨K, hK⟩ : ∃ K : Nat, 10000 ≤ K := ⟨_, Nat.le_refl _⟩
  refine ⟨K, ?_⟩
  unfold scrimlaw2_BitsAll.f
  rw [known_f _ (by omega), Option.bind_some, if_pos rfl]
  obtain ⟨K, rfl⟩ : ∃ m, K = m + 1 := ⟨K - 1, by omega⟩
  have hbb : Bytes b := fun x hx => wf_u8 (hb x hx)
  by_cases h : (b.length : Int) > 40
  · rw [if_pos h]
    simp only [scrimlaw2_BitsAll.j0]
    rw [if_pos trivial]
  · rw [if_neg h]
    simp only [scrimlaw2_BitsAll.j0]
    by_cases h2 : (raw.length : Int) > 200
    · rw [if_pos (decide_eq_true h2)]
    · rw [if_neg (by simpa using h2)]
      exact all_bits b ns raw n (by omega) hbb hn ⟨by omega, hrw⟩ (8 * b.length + 5) K (-2) (by omega) (by omega) (by omega)

end Go.Proofs.Ytmlkacglddnneaa.Pure
