/- PureDesRounds: a block is what sixteen rounds of its own F make of it: plain laws over the printed functions. Conditions: bytes, and bounds on lengths. -/
import Derived.Test.YtnbopkmhakfmmaaMDesRounds
import Derived.Test.YtnbopkmhakfmmaaDesTellC
import Derived.Test.YtnbopkmhakfmmaaDesTellD
namespace Go.Proofs.Ytnbopkmhakfmmaa.Pure
open Go.RowKit Go.Proofs.Ytnbopkmhakfmmaa.MDes Go.Proofs.YtnbopkmhakfmmaaW.PrintWords Go.Proofs.YtnbopkmhakfmmaaW.PrintLast Go.Proofs.YtnbopkmhakfmmaaW.PrintMore Go.Proofs.Ytnbopkmhakfmmaa.Plain

/-! ### the law -/
theorem refundo_f (k : Nat) (hk : 100 ≤ k) : scrimref2_Invert.f k firstT = some (invT, true) := at_rounds (scrimref2_Invert.mono firstT) hk (by decide +kernel)
/-- The keys in the order in which they are taken. -/
def turnK (back : Bool) (ks : List (List Int)) : List (List Int) := if back = true then ks.reverse else ks
theorem turnK_get {ks : List (List Int)} (hl : ks.length = 16) (back : Bool) (i : Nat) (hi : i < 16) : ∃ q, rd_L2 ks (if back = true then wrap64 (15 - (i : Int)) else (i : Int)) = q ∧ (turnK back ks).drop i = q :: (turnK back ks).drop (i + 1) ∧ q ∈ ks := by
  have hl2 : (turnK back ks).length = 16 := by unfold turnK; split <;> simp [hl]
  refine ⟨_, rfl, ?_, ?_⟩
  · rw [List.drop_eq_getElem_cons (by omega)]
    congr 1
    cases back with
    | true =>
      rw [if_pos rfl, w_of (by omega) (by omega), show (15 - (i : Int)) = ((15 - i : Nat) : Int) by omega, rdL2_mem (by omega)]
      simp only [turnK, if_true]
      rw [List.getElem_reverse]
      congr 1; omega
    | false =>
      rw [if_neg (by decide), rdL2_mem (by omega)]
      simp [turnK]
  · cases back with
    | true => rw [if_pos rfl, w_of (by omega) (by omega), show (15 - (i : Int)) = ((15 - i : Nat) : Int) by omega, rdL2_mem (by omega)]; exact List.getElem_mem _
    | false => rw [if_neg (by decide), rdL2_mem (by omega)]; exact List.getElem_mem _
theorem first_step : ∀ r c : Fin 8, firstT.take (8 * r.val + c.val) ++ [wrap64 ((rd [58, 60, 62, 64, 57, 59, 61, 63] (r.val : Int)) - (wrap64 (8 * (c.val : Int))))] = firstT.take (8 * r.val + c.val + 1) := by
  decide +kernel
section
variable (x l1 b : List Int) (back : Bool) (hbf : ∀ k, 1200 ≤ k → scrimlaw6_Bytes.f k 8 l1 = some b) (hb : Bytes b) (hbl : b.length = 8)
include hbf hb hbl
theorem rounds_l2 (d : Nat) : ∀ (k i : Nat) (s : Two), i + d = 16 → d + 2500 ≤ k → Halves s → rounds ((turnK back (keysL x)).drop i) s = rounds (turnK back (keysL x)) (half (permL b firstT)) →
    scrimlaw6_DesRounds.l2 k l1 back [keysL x] (keysL x) firstT s.1 s.2 (i : Int) = some true := by
  have hK := keysL_good x
  have hl2 : (turnK back (keysL x)).length = 16 := by unfold turnK; split <;> simp [hK.1]
  induction d with
  | zero =>
    intro k i s hd hk hs hr
    obtain ⟨k, rfl⟩ : ∃ m, k = m + 1 := ⟨k - 1, by omega⟩
    have hg : GoodKS [keysL x] := fun ks hks => by rw [List.mem_singleton] at hks; rw [hks]; exact hK
    have e1 : (turnK back (keysL x)).drop i = [] := List.drop_eq_nil_of_le (by omega)
    rw [e1] at hr
    have hr' : s = rounds (turnK back (keysL x)) (half (permL b firstT)) := hr
    have hbk : blockL [keysL x] back b = onceL b (turnK back (keysL x)) := by
      unfold turnK
      cases back with
      | true => exact (block_one _ _).2
      | false => exact (block_one _ _).1
    have ls : (s.2 ++ s.1).length = 8 := by rw [List.length_append, hs.l1, hs.l2]
    have hs1 := hs.l1
    have hs2 := hs.l2
    have hinv : invT.length = 64 := rfl
    rw [scrimlaw6_DesRounds.l2, if_neg (by omega), refundo_f k (by omega), Option.bind_some, Option.bind_some, if_pos (by rw [List.length_nil]; omega), Option.bind_some, List.nil_append, if_pos (by omega)]
    simp only
    rw [by_f k (s.2 ++ s.1) invT (bytes_append hs.b2 hs.b1) (by omega) (by omega) (by rw [ls]; decide +kernel) (by omega), Option.bind_some, hbf k (by omega), Option.bind_some,
      block_f k (by omega) _ hg (by simp) back b hb hbl, Option.bind_some]
    simp only
    rw [hbk]
    have e2 : onceL b (turnK back (keysL x)) = permL (s.2 ++ s.1) invT := by rw [hr']; rfl
    rw [e2]
    simp
  | succ d ih =>
    intro k i s hd hk hs hr
    obtain ⟨k, rfl⟩ : ∃ m, k = m + 1 := ⟨k - 1, by omega⟩
    obtain ⟨q, hq, hdr, hm⟩ := turnK_get hK.1 back i (by omega)
    have hqg := hK.2 q hm
    have hf := F_f k (by omega) s.2 q hs.b2 hqg.2
    rw [if_pos ⟨hs.l2, hqg.1⟩] at hf
    have hfl := FL_length s.2 q
    have next : scrimlaw6_DesRounds.l2 k l1 back [keysL x] (keysL x) firstT s.2 (xorL s.1 (FL s.2 q)) ((i + 1 : Nat) : Int) = some true := by
      refine ih k (i + 1) (rnd s q) (by omega) (by omega) (rnd_halves hs q) ?_
      rw [← hr, hdr]; rfl
    have hs1 := hs.l1
    have bth := both_f k s.1 (FL s.2 q) hs.b1 (FL_bytes _ _) (by rw [hs.l1, FL_length]) (by omega) (by omega)
    rw [scrimlaw6_DesRounds.l2, if_pos (by omega)]
    cases hbk : back with
    | true =>
      rw [hbk, if_pos rfl] at hq
      rw [hbk] at next
      rw [if_pos rfl, if_pos (by rw [w_of (by omega) (by omega)]; omega), if_pos (by rw [w_of (by omega) (by omega), hK.1]; omega), hq, hf, Option.bind_some]
      simp only
      rw [if_pos trivial, if_pos (by omega), bth, Option.bind_some, w_succ (by omega)]
      exact next
    | false =>
      rw [hbk, if_neg (by decide)] at hq
      rw [hbk] at next
      rw [if_neg (by decide), if_pos (by omega), if_pos (by rw [hK.1]; omega), hq, hf, Option.bind_some]
      simp only
      rw [if_pos trivial, if_pos (by omega), bth, Option.bind_some, w_succ (by omega)]
      exact next
theorem rounds_end (k : Nat) (hk : 3000 ≤ k) : scrimlaw6_DesRounds.l0 k l1 back [keysL x] (keysL x) firstT 8 = some true := by
  obtain ⟨k, rfl⟩ : ∃ m, k = m + 1 := ⟨k - 1, by omega⟩
  have hl := (half_halves b)
  have h8 : (permL b firstT).length = 8 := by rw [permL_length]; rfl
  have hft : firstT.length = 64 := rfl
  rw [scrimlaw6_DesRounds.l0, if_neg (by decide), hbf k (by omega), Option.bind_some, by_f k b firstT hb (by omega) (by omega) (by rw [hbl]; decide +kernel) (by omega), Option.bind_some, if_pos (by omega)]
  exact rounds_l2 x l1 b back hbf hb hbl 16 k 0 (half (permL b firstT)) (by omega) (by omega) hl rfl
omit hbf hb hbl in
theorem rounds_l1 (r : Nat) (hr : r < 8) (next : ∀ k, 3000 + (7 - r) * 20 ≤ k → scrimlaw6_DesRounds.l0 k l1 back [keysL x] (keysL x) (firstT.take (8 * (r + 1))) ((r + 1 : Nat) : Int) = some true) (d : Nat) : ∀ (k c : Nat), c + d = 8 → d + 3001 + (7 - r) * 20 ≤ k →
    scrimlaw6_DesRounds.l1 k l1 back [keysL x] (keysL x) (firstT.take (8 * r + c)) (r : Int) (c : Int) = some true := by
  have hft : firstT.length = 64 := rfl
  induction d with
  | zero =>
    intro k c hd hk
    obtain ⟨k, rfl⟩ : ∃ m, k = m + 1 := ⟨k - 1, by omega⟩
    obtain rfl : c = 8 := by omega
    rw [scrimlaw6_DesRounds.l1, if_neg (by omega), w_succ (by omega)]
    exact next k (by omega)
  | succ d ih =>
    intro k c hd hk
    obtain ⟨k, rfl⟩ : ∃ m, k = m + 1 := ⟨k - 1, by omega⟩
    have e := first_step ⟨r, hr⟩ ⟨c, by omega⟩
    simp only at e
    rw [scrimlaw6_DesRounds.l1, if_pos (by omega), Option.bind_some, if_pos (by omega), if_pos (by simp; omega), if_pos (by rw [List.length_take, hft]; omega), e, w_succ (by omega)]
    exact ih k (c + 1) (by omega) (by omega)
theorem rounds_l0 (d : Nat) : ∀ (k r : Nat), r + d = 8 → 3000 + d * 20 ≤ k → scrimlaw6_DesRounds.l0 k l1 back [keysL x] (keysL x) (firstT.take (8 * r)) (r : Int) = some true := by
  induction d with
  | zero =>
    intro k r hd hk
    obtain rfl : r = 8 := by omega
    exact rounds_end x l1 b back hbf hb hbl k (by omega)
  | succ d ih =>
    intro k r hd hk
    obtain ⟨k, rfl⟩ : ∃ m, k = m + 1 := ⟨k - 1, by omega⟩
    rw [scrimlaw6_DesRounds.l0, if_pos (by omega)]
    exact rounds_l1 x l1 back r (by omega) (fun k hk => ih k (r + 1) (by omega) (by omega)) 8 k 0 (by omega) (by omega)
end
theorem DesRounds : scrimlaw6_DesRounds.Pure := by
  intro l0 l1 a2 _ h0 hb0 _ h1 hb1
  obtain ⟨K, hK⟩ : ∃ K : Nat, 5000 ≤ K := ⟨5000, Nat.le_refl _⟩
  refine ⟨K, ?_⟩
  obtain ⟨x, hx, xl, xb⟩ := bytes_f K (by omega) 8 (by omega) l0 (bytes_of hb0) (by omega)
  obtain ⟨b, hb, bl, bb⟩ := bytes_f 1200 (by omega) 8 (by omega) l1 (bytes_of hb1) (by omega)
  have hx' : scrimlaw6_Bytes.f K 8 l0 = some x := hx
  have hbf : ∀ k, 1200 ≤ k → scrimlaw6_Bytes.f k 8 l1 = some b := fun k hk => at_rounds (scrimlaw6_Bytes.mono 8 l1) hk hb
  have hn := new_f K (by omega) 1 (by decide) (by decide) x xb (by omega)
  have hn1 : newL 1 x = [keysL x] := by
    show [keysL (cutL x 0)] = _
    unfold cutL
    rw [List.take_of_length_le (by omega)]; rfl
  rw [hn1] at hn
  unfold scrimlaw6_DesRounds.f
  rw [known_f K (by omega), Option.bind_some, if_pos rfl, hx', Option.bind_some, hn, Option.bind_some, keys_f K (by omega) x xb, if_pos xl, Option.bind_some]
  simp only
  rw [if_pos trivial, if_pos trivial, if_neg (by simp), if_pos (by rw [keys_length]; rfl)]
  exact rounds_l0 x l1 b a2 hbf bb bl 8 K 0 (by omega) (by omega)

end Go.Proofs.Ytnbopkmhakfmmaa.Pure
