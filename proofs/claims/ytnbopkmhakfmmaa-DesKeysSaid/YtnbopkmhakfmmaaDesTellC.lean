/- DesTellC: what New, Block, known and Bytes come to: plain laws over the printed functions. Conditions: bytes, and bounds on lengths. -/
import Derived.Test.YtnbopkmhakfmmaaDesTellB
import Derived.Test.YtnbopkmhakfmmaaMDesg
import Derived.Test.YtnbopkmhakfmmaaMDesh
namespace Go.Proofs.Ytnbopkmhakfmmaa.Pure
open Go.RowKit Go.Proofs.Ytnbopkmhakfmmaa.MDes Go.Proofs.YtnbopkmhakfmmaaW.PrintWords Go.Proofs.YtnbopkmhakfmmaaW.PrintLast Go.Proofs.YtnbopkmhakfmmaaW.PrintMore Go.Proofs.Ytnbopkmhakfmmaa.Plain

/-! ### Concat, once -/
theorem concat_f (k : Nat) (hk : 20 ≤ k) (a b : List Int) (ha : a.length ≤ 1000) (hb : b.length ≤ 1000) : slices_Concat_byte_byte.f k [a, b] = some (a ++ b) := by
  obtain ⟨k, rfl⟩ : ∃ m, k = m + 6 := ⟨k - 6, by omega⟩
  unfold slices_Concat_byte_byte.f
  have r0 : rd_B [a, b] 0 = a := rfl
  have r1 : rd_B [a, b] 1 = b := rfl
  have hl : (([a, b] : List (List Int)).length : Int) = 2 := rfl
  have w0 : wrap64 (0 + 1) = 1 := by decide +kernel
  have w1 : wrap64 (1 + 1) = 2 := by decide +kernel
  have wa : wrap64 (0 + (a.length : Int)) = (a.length : Int) := by unfold wrap64; omega
  have wb : wrap64 ((a.length : Int) + (b.length : Int)) = (a.length : Int) + (b.length : Int) := by unfold wrap64; omega
  rw [hl, slices_Concat_byte_byte.l0, if_pos (by decide), if_pos (by decide), hl, if_pos (by decide), r0, wa, if_neg (by omega), w0]
  rw [show k + 5 = (k + 4) + 1 from rfl, slices_Concat_byte_byte.l0, if_pos (by decide), if_pos (by decide), hl, if_pos (by decide), r1, wb, if_neg (by omega), w1]
  rw [show k + 4 = (k + 3) + 1 from rfl, slices_Concat_byte_byte.l0, if_neg (by decide), if_pos (by omega), hl]
  rw [show k + 3 = (k + 2) + 1 from rfl, slices_Concat_byte_byte.l1, if_pos (by decide), if_pos (by decide), hl, if_pos (by decide), r0, if_pos (by simp; omega), w0]
  rw [show k + 2 = (k + 1) + 1 from rfl, slices_Concat_byte_byte.l1, if_pos (by decide), if_pos (by decide), hl, if_pos (by decide), r1, if_pos (by simp; omega), w1]
  rw [slices_Concat_byte_byte.l1, if_neg (by decide), List.nil_append]
/-- Keys as F takes them. -/
def GoodK (ks : List (List Int)) : Prop := ∀ q ∈ ks, q.length = 6 ∧ Bytes q
theorem rdL2_mem {ks : List (List Int)} {i : Nat} (h : i < ks.length) : rd_L2 ks (i : Int) = ks[i] := by
  unfold rd_L2
  rw [Int.toNat_natCast, List.getD_eq_getElem?_getD, List.getElem?_eq_getElem h]; rfl
theorem once_loop (ks : List (List Int)) (hks : GoodK ks) (hl : ks.length ≤ 1000) (d : Nat) : ∀ (k i : Nat) (s : Two), i + d = ks.length → d + 1100 ≤ k → Halves s →
    des_once.l0 k ks firstT s.1 s.2 (i : Int) = some (permL ((rounds (ks.drop i) s).2 ++ (rounds (ks.drop i) s).1) invT) := by
  induction d with
  | zero =>
    intro k i s hd hk hs
    obtain ⟨k, rfl⟩ : ∃ m, k = m + 1 := ⟨k - 1, by omega⟩
    obtain rfl : i = ks.length := by omega
    have e : (s.2 ++ s.1).length = 8 := by rw [List.length_append, hs.l1, hs.l2]
    rw [des_once.l0, if_neg (by omega), undo_f k (by omega), Option.bind_some, concat_f k (by omega) _ _ (by rw [hs.l2]; omega) (by rw [hs.l1]; omega), Option.bind_some,
      permute_ok (by omega) (bytes_append hs.b2 hs.b1) (by decide) (okT_of (n := 64) (by decide +kernel) (by omega)) (by rw [show invT.length = 64 from rfl]; omega), Option.bind_some, List.drop_length]
    rfl
  | succ d ih =>
    intro k i s hd hk hs
    obtain ⟨k, rfl⟩ : ∃ m, k = m + 1 := ⟨k - 1, by omega⟩
    have hi : i < ks.length := by omega
    have hq := hks _ (List.getElem_mem hi)
    rw [des_once.l0, if_pos (by omega), if_pos (by omega), rdL2_mem hi, F_f k (by omega) _ _ hs.b2 hq.2, if_pos ⟨hs.l2, hq.1⟩, Option.bind_some,
      xor_f k _ _ hs.b1 (FL_bytes _ _) (by rw [hs.l1, FL_length]) (by rw [hs.l1]; omega) (by rw [hs.l1]; omega), Option.bind_some, w_succ (by omega)]
    have e : rounds (ks.drop i) s = rounds (ks.drop (i + 1)) (rnd s ks[i]) := by
      rw [List.drop_eq_getElem_cons hi]; rfl
    rw [e]
    exact ih k (i + 1) (rnd s ks[i]) (by omega) (by omega) (rnd_halves hs _)
theorem once_f (k : Nat) (hk : 2200 ≤ k) (b : List Int) (hb : Bytes b) (hl : b.length = 8) (ks : List (List Int)) (hks : GoodK ks) (hn : ks.length ≤ 1000) : des_once.f k b ks = some (onceL b ks) := by
  unfold des_once.f
  have h8 : (permL b firstT).length = 8 := by rw [permL_length]; rfl
  rw [first_f k (by omega), Option.bind_some, permute_ok (by omega) hb (by decide) (okT_of (n := 64) (by decide +kernel) (by omega)) (by rw [show firstT.length = 64 from rfl]; omega), Option.bind_some, if_pos (by show (4 : Int) ≤ ((permL b firstT).length : Int); omega)]
  have := once_loop ks hks hn ks.length k 0 (half (permL b firstT)) (by omega) (by omega) (half_halves b)
  rw [List.drop_zero] at this
  exact this

/-! ### New, Block -/
def cutL (x : List Int) (i : Nat) : List Int := (x.take (8 * (i + 1))).drop (8 * i)
theorem cut_length {x : List Int} {n i : Nat} (hx : x.length = 8 * n) (hi : i < n) : (cutL x i).length = 8 := by
  unfold cutL
  rw [List.length_drop, List.length_take]; omega
theorem cut_bytes {x : List Int} (hb : Bytes x) (i : Nat) : Bytes (cutL x i) := bytes_drop (bytes_take hb _) _
def ksL (n : Nat) (x : List Int) : List (List (List Int)) := (List.range n).map fun i => keysL (cutL x i)
/-- The keys of a Des of n keys. -/
def newL (n : Nat) (x : List Int) : List (List (List Int)) := if n = 2 then ksL 2 x ++ [keysL (cutL x 0)] else ksL n x
theorem new_loop (n : Nat) (h1 : 1 ≤ n) (h3 : n ≤ 3) (x : List Int) (hb : Bytes x) (hx : x.length = 8 * n) (d : Nat) : ∀ (k i : Nat), i + d = n → d + 2100 ≤ k →
    des_New.l0 k x (n : Int) (ksL i x) (n : Int) (i : Int) = some (newL n x, 0) := by
  induction d with
  | zero =>
    intro k i hd hk
    obtain ⟨k, rfl⟩ : ∃ m, k = m + 1 := ⟨k - 1, by omega⟩
    obtain rfl : i = n := by omega
    have hl : (ksL i x).length = i := by simp [ksL]
    rw [des_New.l0, if_neg (by omega)]
    unfold newL
    by_cases h : i = 2
    · subst h
      rw [if_pos (by omega), if_pos (by omega), if_pos (by omega), if_pos rfl]
      rfl
    · rw [if_neg (by omega), if_pos (by omega), if_neg h]
  | succ d ih =>
    intro k i hd hk
    obtain ⟨k, rfl⟩ : ∃ m, k = m + 1 := ⟨k - 1, by omega⟩
    have hl : (ksL i x).length = i := by simp [ksL]
    have w1 : wrap64 (8 * (i : Int)) = ((8 * i : Nat) : Int) := by unfold wrap64; omega
    have w3 : wrap64 (8 * ((i + 1 : Nat) : Int)) = ((8 * (i + 1) : Nat) : Int) := by unfold wrap64; omega
    rw [des_New.l0, if_pos (by omega), w1, w_succ (by omega), w3, if_pos (by omega), if_pos (by omega), if_pos (by omega), Int.toNat_natCast, Int.toNat_natCast]
    have hk8 := keys_f k (by omega) (cutL x i) (cut_bytes hb i)
    rw [if_pos (cut_length hx (by omega))] at hk8
    unfold cutL at hk8
    rw [hk8, Option.bind_some, if_pos (by omega)]
    have e : ksL i x ++ [keysL ((x.take (8 * (i + 1))).drop (8 * i))] = ksL (i + 1) x := by unfold ksL; rw [List.range_succ, List.map_append]; rfl
    rw [e]
    exact ih k (i + 1) (by omega) (by omega)
theorem new_f (k : Nat) (hk : 2200 ≤ k) (n : Nat) (h1 : 1 ≤ n) (h3 : n ≤ 3) (x : List Int) (hb : Bytes x) (hx : x.length = 8 * n) : des_New.f k x = some (newL n x, 0) := by
  obtain ⟨k, rfl⟩ : ∃ m, k = m + 1 := ⟨k - 1, by omega⟩
  unfold des_New.f
  have w1 : wrap64 ((x.length : Int) / 8) = (n : Int) := by unfold wrap64; omega
  rw [if_neg (by omega), w1, if_neg (by omega)]
  have e : decide ((n : Int) > 3) = false := decide_eq_false (by omega)
  rw [e, des_New.j0, if_neg (by decide)]
  exact new_loop n h1 h3 x hb hx n k 0 (by omega) (by omega)
theorem new_none (k : Nat) (hk : 10 ≤ k) : des_New.f k [] = some ([], 4) := at_rounds (des_New.mono []) hk (by decide +kernel)
/-- Each of these is sixteen keys. -/
def GoodKS (K : List (List (List Int))) : Prop := ∀ ks ∈ K, ks.length = 16 ∧ GoodK ks
theorem keysL_good (x : List Int) : (keysL x).length = 16 ∧ GoodK (keysL x) := ⟨keys_length x, fun _ hq => keys_mem hq⟩
theorem newL_good (n : Nat) (x : List Int) : GoodKS (newL n x) := by
  have h : ∀ m, GoodKS (ksL m x) := fun m ks hks => by
    obtain ⟨i, _, rfl⟩ := List.mem_map.1 hks
    exact keysL_good _
  unfold newL
  split
  · intro ks hks
    rcases List.mem_append.1 hks with h1 | h1
    · exact h _ ks h1
    · rw [List.mem_singleton] at h1
      rw [h1]; exact keysL_good _
  · exact h n
theorem newL_ne (n : Nat) (h1 : 1 ≤ n) (x : List Int) : newL n x ≠ [] := by
  unfold newL
  split
  · simp
  · intro h
    have := congrArg List.length h
    simp [ksL] at this; omega
def keyL (K : List (List (List Int))) (back : Bool) (i : Nat) : List (List Int) :=
  let ks := if back = true then K.getD (K.length - 1 - i) [] else K.getD i []
  if back != decide (i = 1) then ks.reverse else ks
def goL (K : List (List (List Int))) (back : Bool) : Nat → Nat → List Int → List Int
  | 0, _, b => b
  | d + 1, i, b => goL K back d (i + 1) (onceL b (keyL K back i))
def blockL (K : List (List (List Int))) (back : Bool) (b : List Int) : List Int := goL K back K.length 0 b
theorem getD_memK {K : List (List (List Int))} {i : Nat} (h : i < K.length) : K.getD i [] ∈ K := by
  rw [List.getD_eq_getElem?_getD, List.getElem?_eq_getElem h]; exact List.getElem_mem h
theorem keyL_good {K : List (List (List Int))} (hK : GoodKS K) (back : Bool) (i : Nat) (hi : i < K.length) : des_Des_Block.key K back i = some (keyL K back i) ∧ (keyL K back i).length = 16 ∧ GoodK (keyL K back i) := by
  have hm : (if back = true then K.getD (K.length - 1 - i) [] else K.getD i []) ∈ K := by
    split
    · exact getD_memK (by omega)
    · exact getD_memK hi
  obtain ⟨h1, h2⟩ := hK _ hm
  unfold des_Des_Block.key keyL
  simp only
  generalize (if back = true then K.getD (K.length - 1 - i) [] else K.getD i []) = ks at h1 h2
  have hne : ks ≠ [] := by rintro rfl; simp at h1
  rw [if_neg hne, if_pos (by omega)]
  refine ⟨rfl, ?_, ?_⟩
  · split
    · rw [List.length_reverse, h1]
    · exact h1
  · split
    · exact fun q hq => h2 q (List.mem_reverse.1 hq)
    · exact h2
theorem block_go (K : List (List (List Int))) (hK : GoodKS K) (back : Bool) (k : Nat) (hk : 2200 ≤ k) (d : Nat) : ∀ (i : Nat) (b : List Int), i + d = K.length → Bytes b → b.length = 8 →
    des_Des_Block.go k K back d i b = some (goL K back d i b) ∧ Bytes (goL K back d i b) ∧ (goL K back d i b).length = 8 := by
  induction d with
  | zero => intro i b _ hb hl; exact ⟨rfl, hb, hl⟩
  | succ d ih =>
    intro i b hd hb hl
    obtain ⟨h1, h2, h3⟩ := keyL_good hK back i (by omega)
    obtain ⟨g1, g2⟩ := ih (i + 1) (onceL b (keyL K back i)) (by omega) (onceL_bytes _ _) (onceL_length _ _)
    refine ⟨?_, g2⟩
    unfold des_Des_Block.go goL
    rw [h1, Option.bind_some, once_f k hk b hb hl _ h3 (by omega), Option.bind_some]
    exact g1
theorem block_f (k : Nat) (hk : 2200 ≤ k) (K : List (List (List Int))) (hK : GoodKS K) (hne : K ≠ []) (back : Bool) (b : List Int) (hb : Bytes b) (hl : b.length = 8) : des_Des_Block.f k K b back = some (blockL K back b, 0) := by
  unfold des_Des_Block.f
  rw [if_pos hl, if_neg hne, (block_go K hK back k hk K.length 0 b (by omega) hb hl).1]
  rfl
theorem blockL_bytes (K : List (List (List Int))) (hK : GoodKS K) (back : Bool) (b : List Int) (hb : Bytes b) (hl : b.length = 8) : Bytes (blockL K back b) ∧ (blockL K back b).length = 8 :=
  (block_go K hK back 2200 (Nat.le_refl _) K.length 0 b (by omega) hb hl).2
theorem block_one (ks : List (List Int)) (b : List Int) : blockL [ks] false b = onceL b ks ∧ blockL [ks] true b = onceL b ks.reverse := ⟨rfl, rfl⟩
theorem block_three (k1 k2 k3 : List (List Int)) (b : List Int) : blockL [k1, k2, k3] false b = onceL (onceL (onceL b k1) k2.reverse) k3 := rfl

/-! ### bytes out of raw ones -/
theorem bytes_loop (n : Nat) (hn : n ≤ 1000) (d : Nat) : ∀ (k i : Nat) (o : List Int), n ≤ i + d → d < k → i ≤ 140737488351232 → o.length = n → Bytes o → ∃ y, scrimlaw6_Bytes.l0 k (n : Int) o (i : Int) = some y ∧ y.length = n ∧ Bytes y := by
  induction d with
  | zero =>
    intro k i o hd hk hi hl hb
    obtain ⟨k, rfl⟩ : ∃ m, k = m + 1 := ⟨k - 1, by omega⟩
    refine ⟨o, ?_, hl, hb⟩
    rw [scrimlaw6_Bytes.l0, if_neg (by omega)]
  | succ d ih =>
    intro k i o hd hk hi hl hb
    obtain ⟨k, rfl⟩ : ∃ m, k = m + 1 := ⟨k - 1, by omega⟩
    rw [scrimlaw6_Bytes.l0]
    by_cases h : i < n
    · rw [if_pos (by omega), if_pos (by omega), if_pos (by omega), Int.toNat_natCast, w_succ (by omega)]
      exact ih k (i + 1) _ (by omega) (by omega) (by omega) (by rw [List.length_set, hl]) (bytes_set hb _ (by omega))
    · exact ⟨o, by rw [if_neg (by omega)], hl, hb⟩
theorem bytes_of {l : List Int} (h : ∀ x ∈ l, (Lit.int .u8 x).wf = true) : Bytes l := fun x hx => wf_u8 (h x hx)
theorem bytes_f (k : Nat) (hk : 1100 ≤ k) (n : Nat) (hn : n ≤ 1000) (b : List Int) (hb : Bytes b) (hl : b.length ≤ 140737488351232) : ∃ y, scrimlaw6_Bytes.f k (n : Int) b = some y ∧ y.length = n ∧ Bytes y := by
  unfold scrimlaw6_Bytes.f
  rw [if_pos (by omega), Int.toNat_natCast, if_pos (by omega)]
  rw [Option.bind_some]
  refine bytes_loop n hn n k b.length _ (by omega) (by omega) hl ?_ (bytes_append (bytes_take hb _) (bytes_drop (bytes_replicate _) _))
  rw [List.length_append, List.length_take, List.length_drop, List.length_replicate]; omega

/-! ### the chapter's example -/
theorem zero_keys : keysL (List.replicate 8 0) = List.replicate 16 (List.replicate 6 0) := by decide +kernel
theorem zero_block : onceL (List.replicate 8 0) (List.replicate 16 (List.replicate 6 0)) = [140, 166, 77, 233, 193, 177, 35, 167] := by decide +kernel
theorem known_f (k : Nat) (hk : 3000 ≤ k) : scrimlaw6_known.f k = some true := by
  have hz : Bytes (List.replicate 8 0) := bytes_replicate 8
  have e : newL 1 (List.replicate 8 0) = [keysL (List.replicate 8 0)] := rfl
  have hg := newL_good 1 (List.replicate 8 0)
  have h0 : blockL (newL 1 (List.replicate 8 0)) false (List.replicate 8 0) = [140, 166, 77, 233, 193, 177, 35, 167] := by rw [e, (block_one _ _).1, zero_keys, zero_block]
  have h1 : blockL (newL 1 (List.replicate 8 0)) true [140, 166, 77, 233, 193, 177, 35, 167] = List.replicate 8 0 := by
    rw [← h0, e, (block_one _ _).1, (block_one _ _).2, once_back hz (by simp)]
  have hb : Bytes [140, 166, 77, 233, 193, 177, 35, 167] := by unfold Bytes; decide
  unfold scrimlaw6_known.f
  rw [new_none k (by omega), Option.bind_some, if_pos (by decide), new_f k (by omega) 1 (by decide) (by decide) _ hz (by simp), Option.bind_some, if_pos rfl, if_pos rfl, if_neg (newL_ne 1 (by decide) _),
    block_f k (by omega) _ hg (newL_ne 1 (by decide) _) false _ hz (by simp), Option.bind_some]
  simp only
  rw [h0, block_f k (by omega) _ hg (newL_ne 1 (by decide) _) true _ hb rfl, Option.bind_some]
  simp only
  rw [h1, if_pos trivial, if_pos trivial, if_pos (by decide), if_neg (by decide +kernel)]
  simp

end Go.Proofs.Ytnbopkmhakfmmaa.Pure
