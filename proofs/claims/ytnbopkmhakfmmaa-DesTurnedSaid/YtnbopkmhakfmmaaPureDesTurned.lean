/- PureDesTurned: of a key and a block with all bits others all bits of what is made are others: plain laws over the printed functions. Conditions: bytes, and bounds on lengths. -/
import Derived.Test.YtnbopkmhakfmmaaMDesTurned
import Derived.Test.YtnbopkmhakfmmaaDesTellK
namespace Go.Proofs.Ytnbopkmhakfmmaa.Pure
open Go.RowKit Go.Proofs.Ytnbopkmhakfmmaa.MDes Go.Proofs.YtnbopkmhakfmmaaW.PrintWords Go.Proofs.YtnbopkmhakfmmaaW.PrintLast Go.Proofs.YtnbopkmhakfmmaaW.PrintMore Go.Proofs.Ytnbopkmhakfmmaa.Plain

/-! ### the law -/
theorem not_step (x : Int) (hx : 0 ≤ x ∧ x < 256) : (0 ≤ bits .xor .u8 x 255 ∧ bits .xor .u8 x 255 < 256) ∧ ∀ q, q < 8 → (bits .xor .u8 x 255).toNat.testBit q = !x.toNat.testBit q := by
  have h := xor_step x 255 hx (by decide)
  refine ⟨h.1, fun q hq => ?_⟩
  rw [h.2]
  have : ∀ q : Fin 8, (255 : Int).toNat.testBit q.val = true := by decide
  rw [this ⟨q, hq⟩, Bool.xor_true]
theorem cut_not (x : List Int) (i : Nat) : cutL (notL x) i = notL (cutL x i) := by
  unfold cutL
  rw [take_not, drop_not]
theorem new_not (n : Nat) {x : List Int} (hx : x.length = 8 * n) : newL n (notL x) = (newL n x).map fun ks => ks.map notL := by
  have hk : ∀ i, i < n → keysL (cutL (notL x) i) = (keysL (cutL x i)).map notL := fun i hi => by
    rw [cut_not, keys_not (cut_length hx hi)]
  have hm : ∀ m, m ≤ n → ksL m (notL x) = (ksL m x).map fun ks => ks.map notL := fun m hm => by
    unfold ksL
    rw [List.map_map]
    refine List.map_congr_left fun i hi => ?_
    exact hk i (Nat.lt_of_lt_of_le (List.mem_range.1 hi) hm)
  unfold newL
  by_cases h : n = 2
  · rw [if_pos h, if_pos h, hm 2 (by omega), hk 0 (by omega), List.map_append]; rfl
  · rw [if_neg h, if_neg h, hm n (Nat.le_refl _)]
theorem key_not (K : List (List (List Int))) (back : Bool) (i : Nat) : keyL (K.map fun ks => ks.map notL) back i = (keyL K back i).map notL := by
  have g : ∀ j, (K.map fun ks : List (List Int) => ks.map notL).getD j [] = (K.getD j []).map notL := fun j => by
    rw [List.getD_eq_getElem?_getD, List.getD_eq_getElem?_getD, List.getElem?_map]
    cases K[j]? <;> rfl
  unfold keyL
  simp only [List.length_map, g]
  split <;> split <;> simp
theorem block_not (K : List (List (List Int))) (hK : GoodKS K) (back : Bool) (d : Nat) : ∀ (i : Nat) (b : List Int), i + d = K.length → b.length = 8 → goL (K.map fun ks => ks.map notL) back d i (notL b) = notL (goL K back d i b) := by
  induction d with
  | zero => intro i b _ _; rfl
  | succ d ih =>
    intro i b hd hl
    obtain ⟨_, _, h3⟩ := keyL_good hK back i (by omega)
    unfold goL
    rw [key_not, once_not hl (fun q hq => (h3 q hq).1)]
    exact ih (i + 1) _ (by omega) (onceL_length _ _)
theorem turned_end (u v : List Int) (hu : Bytes u) (hl : u.length = 8) (hv : v = notL u) (d : Nat) : ∀ (k i : Nat), i + d = 8 → d < k → scrimlaw6_DesTurned.l2 k u v (i : Int) = some true := by
  subst hv
  induction d with
  | zero =>
    intro k i hd hk
    obtain ⟨k, rfl⟩ : ∃ m, k = m + 1 := ⟨k - 1, by omega⟩
    rw [scrimlaw6_DesTurned.l2, if_neg (by omega)]
  | succ d ih =>
    intro k i hd hk
    obtain ⟨k, rfl⟩ : ∃ m, k = m + 1 := ⟨k - 1, by omega⟩
    have hn := notL_length u
    have e : bits .xor .u8 (rd u (i : Int)) (rd (notL u) (i : Int)) = 255 := by
      rw [rd_nat, rd_nat]
      have h := xor_step _ _ (bytes_getD hu i) (bytes_getD (notL_bytes u) i)
      refine byte_ext h.1 (by decide) fun p hp => ?_
      rw [h.2, ← gb_at u i p hp, ← gb_at (notL u) i p hp, gb_notL u _ (by omega)]
      have : ∀ p : Fin 8, (255 : Int).toNat.testBit (7 - p.val) = true := by decide
      rw [this ⟨p, hp⟩]
      cases gb u (8 * i + p) <;> rfl
    rw [scrimlaw6_DesTurned.l2, if_pos (by omega), if_pos (by omega), if_pos (by omega), if_pos (by omega), if_pos e, w_succ (by omega)]
    exact ih k (i + 1) (by omega) (by omega)
theorem turned_block (n : Nat) (h1 : 1 ≤ n) (h3 : n ≤ 3) (x p : List Int) (hx : x.length = 8 * n) (xb : Bytes x) (hp : p.length = 8) (pb : Bytes p) (k : Nat) (hk : 2500 ≤ k) :
    scrimlaw6_DesTurned.l1 k x p (notL x) (notL p) 8 = some true := by
  obtain ⟨k, rfl⟩ : ∃ m, k = m + 1 := ⟨k - 1, by omega⟩
  have g1 := newL_good n x
  have g2 := newL_good n (notL x)
  have b1 := blockL_bytes _ g1 false p pb hp
  have b2 := blockL_bytes _ g2 false (notL p) (notL_bytes p) (by rw [notL_length, hp])
  have e : blockL (newL n (notL x)) false (notL p) = notL (blockL (newL n x) false p) := by
    unfold blockL
    rw [new_not n hx, List.length_map]
    exact block_not _ g1 false _ 0 p (by omega) hp
  rw [scrimlaw6_DesTurned.l1, if_neg (by omega), new_f k (by omega) n h1 h3 x xb hx, Option.bind_some, new_f k (by omega) n h1 h3 (notL x) (notL_bytes x) (by rw [notL_length, hx]), Option.bind_some]
  simp only
  rw [if_neg (newL_ne n h1 _), if_neg (newL_ne n h1 _), block_f k (by omega) _ g1 (newL_ne n h1 _) false p pb hp, Option.bind_some, block_f k (by omega) _ g2 (newL_ne n h1 _) false (notL p) (notL_bytes p) (by rw [notL_length, hp]), Option.bind_some]
  simp only
  rw [if_pos (by omega), if_pos (by omega)]
  exact turned_end _ _ b1.1 b1.2 e 8 k 0 (by omega) (by omega)
theorem turned_loop1 (n : Nat) (h1 : 1 ≤ n) (h3 : n ≤ 3) (x p : List Int) (hx : x.length = 8 * n) (xb : Bytes x) (hp : p.length = 8) (pb : Bytes p) (d : Nat) : ∀ (k i : Nat) (o : List Int), i + d = 8 → d + 2500 ≤ k → o.length = 8 → Bytes o → (∀ j, j < 8 * i → gb o j = !gb p j) →
    scrimlaw6_DesTurned.l1 k x p (notL x) o (i : Int) = some true := by
  induction d with
  | zero =>
    intro k i o hd hk hl hb hg
    obtain rfl : i = 8 := by omega
    have e : o = notL p := gb_ext hb (notL_bytes p) (by rw [hl, notL_length, hp]) fun j hj => by rw [hg j (by omega), gb_notL _ _ (by omega)]
    rw [e]
    exact turned_block n h1 h3 x p hx xb hp pb k (by omega)
  | succ d ih =>
    intro k i o hd hk hl hb hg
    obtain ⟨k, rfl⟩ : ∃ m, k = m + 1 := ⟨k - 1, by omega⟩
    have hs := not_step _ (bytes_getD pb i)
    rw [scrimlaw6_DesTurned.l1, if_pos (by omega), if_pos (by omega), if_pos (by omega), if_pos (by omega), Int.toNat_natCast, rd_nat, w_succ (by omega)]
    refine ih k (i + 1) _ (by omega) (by omega) (by rw [List.length_set, hl]) (bytes_set hb _ hs.1) fun j hj => ?_
    rw [gb_set o i (by omega) _ j]
    by_cases h : j / 8 = i
    · rw [if_pos h, hs.2 _ (by omega)]
      unfold gb; rw [h]
    · rw [if_neg h]; exact hg j (by omega)
theorem turned_loop0 (n : Nat) (h1 : 1 ≤ n) (h3 : n ≤ 3) (x p : List Int) (hx : x.length = 8 * n) (xb : Bytes x) (hp : p.length = 8) (pb : Bytes p) (d : Nat) : ∀ (k i : Nat) (o : List Int), i + d = 8 * n → d + 3000 ≤ k → o.length = 8 * n → Bytes o → (∀ j, j < 8 * i → gb o j = !gb x j) →
    scrimlaw6_DesTurned.l0 k x p o (List.replicate 8 0) (i : Int) = some true := by
  induction d with
  | zero =>
    intro k i o hd hk hl hb hg
    obtain ⟨k, rfl⟩ : ∃ m, k = m + 1 := ⟨k - 1, by omega⟩
    have e : o = notL x := gb_ext hb (notL_bytes x) (by rw [hl, notL_length, hx]) fun j hj => by rw [hg j (by omega), gb_notL _ _ (by omega)]
    rw [e, scrimlaw6_DesTurned.l0, if_neg (by omega)]
    exact turned_loop1 n h1 h3 x p hx xb hp pb 8 k 0 _ (by omega) (by omega) (by simp) (bytes_replicate 8) (fun j hj => by omega)
  | succ d ih =>
    intro k i o hd hk hl hb hg
    obtain ⟨k, rfl⟩ : ∃ m, k = m + 1 := ⟨k - 1, by omega⟩
    have hs := not_step _ (bytes_getD xb i)
    rw [scrimlaw6_DesTurned.l0, if_pos (by omega), if_pos (by omega), if_pos (by omega), Int.toNat_natCast, rd_nat, w_succ (by omega)]
    refine ih k (i + 1) _ (by omega) (by omega) (by rw [List.length_set, hl]) (bytes_set hb _ hs.1) fun j hj => ?_
    rw [gb_set o i (by omega) _ j]
    by_cases h : j / 8 = i
    · rw [if_pos h, hs.2 _ (by omega)]
      unfold gb; rw [h]
    · rw [if_neg h]; exact hg j (by omega)
theorem DesTurned : scrimlaw6_DesTurned.Pure := by
  intro l0 a1 l2 _ h0 hb0 _ _ h2 hb2
  obtain ⟨K, hK⟩ : ∃ K : Nat, 5000 ≤ K := ⟨5000, Nat.le_refl _⟩
  refine ⟨K, ?_⟩
  obtain ⟨n, x, hx, n1, n3, xl, xb⟩ := key_f K (by omega) l0 (bytes_of hb0) (by omega) a1
  obtain ⟨p, hp, pl, pb⟩ := bytes_f K (by omega) 8 (by omega) l2 (bytes_of hb2) (by omega)
  have hp' : scrimlaw6_Bytes.f K 8 l2 = some p := hp
  unfold scrimlaw6_DesTurned.f
  rw [known_f K (by omega), Option.bind_some, if_pos rfl, hx, Option.bind_some, hp', Option.bind_some, if_pos (by omega), Int.toNat_natCast, if_pos (by omega), if_pos (by decide)]
  exact turned_loop0 n n1 n3 x p xl xb pl pb (8 * n) K 0 _ (by omega) (by omega) (by rw [List.length_replicate, xl]) (bytes_replicate _) (fun j hj => by omega)

end Go.Proofs.Ytnbopkmhakfmmaa.Pure
