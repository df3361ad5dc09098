/- PureDesParity: the last bit of each byte of a key does not count: plain laws over the printed functions. Conditions: bytes, and bounds on lengths. -/
import Derived.Test.YtnbopkmhakfmmaaMDesParity
import Derived.Test.YtnbopkmhakfmmaaDesTellK
namespace Go.Proofs.Ytnbopkmhakfmmaa.Pure
open Go.RowKit Go.Proofs.Ytnbopkmhakfmmaa.MDes Go.Proofs.YtnbopkmhakfmmaaW.PrintWords Go.Proofs.YtnbopkmhakfmmaaW.PrintLast Go.Proofs.YtnbopkmhakfmmaaW.PrintMore Go.Proofs.Ytnbopkmhakfmmaa.Plain

/-! ### the law -/
theorem gb_drop (x : List Int) (m j : Nat) : gb (x.drop m) j = gb x (8 * m + j) := by
  unfold gb
  rw [List.getD_eq_getElem?_getD, List.getD_eq_getElem?_getD, List.getElem?_drop, show (8 * m + j) / 8 = m + j / 8 by omega, show (8 * m + j) % 8 = j % 8 by omega]
theorem gb_take (x : List Int) (m j : Nat) : gb (x.take m) j = (decide (j < 8 * m) && gb x j) := by
  unfold gb
  rw [List.getD_eq_getElem?_getD, List.getD_eq_getElem?_getD, List.getElem?_take]
  by_cases h : j < 8 * m
  · rw [if_pos (by omega)]; simp [h]
  · rw [if_neg (by omega)]; simp [h]
theorem cut_same {x y : List Int} (h : ∀ j, j % 8 ≠ 7 → gb x j = gb y j) (i : Nat) : keysL (cutL x i) = keysL (cutL y i) := by
  refine keys_parity fun j hj => ?_
  unfold cutL
  rw [gb_drop, gb_drop, gb_take, gb_take, h _ (by omega)]
theorem new_same {x y : List Int} (h : ∀ j, j % 8 ≠ 7 → gb x j = gb y j) (n : Nat) : newL n x = newL n y := by
  have hk : ∀ m, ksL m x = ksL m y := fun m => List.map_congr_left fun i _ => cut_same h i
  unfold newL
  rw [hk, hk, cut_same h]
theorem last_bit (a3 : Int) (ha : 0 ≤ a3 ∧ a3 < 256) (s : Nat) (hs : s < 8) : ∃ y : Nat, y < 2 ∧ bits .and .u8 (shr .u8 a3 (s : Int)) 1 = (y : Int) := by
  rw [shr_u8 _ _ (by omega), Int.toNat_natCast]
  have hr := div_pow_range a3 ha s
  rw [u8_and _ _ hr.1 hr.2 (by decide) (by decide)]
  refine ⟨_, ?_, rfl⟩
  have := Nat.and_lt_two_pow (a3 / 2 ^ s).toNat (show (1 : Int).toNat < 2 ^ 1 by decide)
  omega
theorem parity_loop (l2 : List Int) (h2 : l2.length ≤ 140737488351232) (hb2 : Bytes l2) (a3 : Int) (ha : 0 ≤ a3 ∧ a3 < 256) (n : Nat) (n1 : 1 ≤ n) (n3 : n ≤ 3) (y : List Int) (hyl : y.length = 8 * n) (hyb : Bytes y) (d : Nat) :
    ∀ (k i : Nat) (z : List Int), i + d = 8 * n → d + 3000 ≤ k → z.length = 8 * n → Bytes z → (∀ j, j % 8 ≠ 7 → gb y j = gb z j) → scrimlaw6_DesParity.l0 k l2 a3 y z (i : Int) = some true := by
  induction d with
  | zero =>
    intro k i z hd hk hzl hzb hz
    obtain ⟨k, rfl⟩ : ∃ m, k = m + 1 := ⟨k - 1, by omega⟩
    rw [scrimlaw6_DesParity.l0, if_neg (by omega), new_f k (by omega) n n1 n3 y hyb hyl, Option.bind_some, new_f k (by omega) n n1 n3 z hzb hzl, Option.bind_some]
    obtain ⟨b, hbf, hbl, hbb⟩ := bytes_f k (by omega) 8 (by omega) l2 hb2 h2
    simp only
    rw [← new_same hz n, if_pos trivial, if_pos trivial, if_neg (newL_ne n n1 y), if_neg (newL_ne n n1 y)]
    rw [show (8 : Int) = ((8 : Nat) : Int) from rfl, hbf, Option.bind_some, block_f k (by omega) _ (newL_good n y) (newL_ne n n1 y) false b hbb hbl, Option.bind_some, Option.bind_some, block_f k (by omega) _ (newL_good n y) (newL_ne n n1 y) false b hbb hbl, Option.bind_some]
    have hl := (blockL_bytes _ (newL_good n y) false b hbb hbl).2
    simp only
    rw [if_pos (by omega)]
    simp
  | succ d ih =>
    intro k i z hd hk hzl hzb hz
    obtain ⟨k, rfl⟩ : ∃ m, k = m + 1 := ⟨k - 1, by omega⟩
    have w1 : IntKind.u64.wrap (Int.tmod (i : Int) 8) = ((i % 8 : Nat) : Int) := by
      rw [Int.tmod_eq_emod_of_nonneg (by omega)]
      simp [IntKind.wrap, IntKind.bits, IntKind.signed]; omega
    obtain ⟨v, hv, he⟩ := last_bit a3 ha (i % 8) (by omega)
    rw [scrimlaw6_DesParity.l0, if_pos (by omega), if_pos (by omega), w1, if_pos (by omega), he, w_succ (by omega), Int.toNat_natCast, rd_nat]
    have hx := xor_step (z.getD i 0) (v : Int) (bytes_getD hzb i) (by omega)
    refine ih k (i + 1) _ (by omega) (by omega) (by rw [List.length_set, hzl]) (bytes_set hzb _ hx.1) fun j hj => ?_
    rw [gb_set z i (by omega) _ j, hx.2, hz j hj]
    by_cases h : j / 8 = i
    · rw [if_pos h]
      have e : (z.getD i 0).toNat.testBit (7 - j % 8) = gb z j := by unfold gb; rw [h]
      have e2 : ((v : Int)).toNat.testBit (7 - j % 8) = false := by
        rw [Int.toNat_natCast]
        exact Nat.testBit_lt_two_pow (Nat.lt_of_lt_of_le hv (Nat.pow_le_pow_right (n := 2) (by decide) (by omega : 1 ≤ 7 - j % 8)))
      rw [e, e2, Bool.xor_false]
    · rw [if_neg h]
theorem DesParity : scrimlaw6_DesParity.Pure := by
  intro l0 a1 l2 a3 _ h0 hb0 _ _ h2 hb2 ha3
  obtain ⟨K, hK⟩ : ∃ K : Nat, 5000 ≤ K := ⟨5000, Nat.le_refl _⟩
  refine ⟨K, ?_⟩
  obtain ⟨n, y, hy, n1, n3, hyl, hyb⟩ := key_f K (by omega) l0 (bytes_of hb0) (by omega) a1
  unfold scrimlaw6_DesParity.f
  rw [known_f K (by omega), Option.bind_some, if_pos rfl, hy, Option.bind_some, Option.bind_some, if_pos (by rw [List.length_nil]; omega), List.nil_append]
  exact parity_loop l2 (by omega) (bytes_of hb2) a3 (wf_u8 ha3) n n1 n3 y hyl hyb (8 * n) K 0 y (by omega) (by omega) hyl hyb (fun _ _ => rfl)

end Go.Proofs.Ytnbopkmhakfmmaa.Pure
