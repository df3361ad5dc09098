/- PureDesWeak: of a key whose bits are the same in each half there, and there again, a block is what it was: plain laws over the printed functions. Conditions: bytes, and bounds on lengths. -/
import Derived.Test.YtnbopkmhakfmmaaMDesWeak
import Derived.Test.YtnbopkmhakfmmaaDesTellK
namespace Go.Proofs.Ytnbopkmhakfmmaa.Pure
open Go.RowKit Go.Proofs.Ytnbopkmhakfmmaa.MDes Go.Proofs.YtnbopkmhakfmmaaW.PrintWords Go.Proofs.YtnbopkmhakfmmaaW.PrintLast Go.Proofs.YtnbopkmhakfmmaaW.PrintMore Go.Proofs.Ytnbopkmhakfmmaa.Plain

/-! ### the law -/
def weakT : List (List Int) := [[1, 1, 1, 1, 1, 1, 1, 1], [254, 254, 254, 254, 254, 254, 254, 254], [31, 31, 31, 31, 14, 14, 14, 14], [224, 224, 224, 224, 241, 241, 241, 241]]
theorem weak_same : ∀ i : Fin 4, keysL (weakT.getD i.val []) = List.replicate 16 ((keysL (weakT.getD i.val [])).getD 0 []) := by decide +kernel
theorem weak_bytes : ∀ i : Fin 4, (weakT.getD i.val []).length = 8 ∧ ∀ x ∈ weakT.getD i.val [], 0 ≤ x ∧ x < 256 := by decide +kernel
theorem rep_get (q : List Int) (i : Int) (h0 : 0 ≤ i) (h1 : i < 16) : rd_L2 (List.replicate 16 q) i = q := by
  unfold rd_L2
  rw [List.getD_eq_getElem?_getD, List.getElem?_replicate, if_pos (by omega)]; rfl
theorem weak_loop (l1 : List Int) (hl : l1.length ≤ 140737488351232) (hb : Bytes l1) (q : List Int) (hq : q.length = 6 ∧ Bytes q) (d : Nat) : ∀ (k i : Nat), i + d = 16 → d + 3000 ≤ k →
    scrimlaw6_DesWeak.l0 k l1 (List.replicate 16 q) [List.replicate 16 q] (i : Int) = some true := by
  induction d with
  | zero =>
    intro k i hd hk
    obtain ⟨k, rfl⟩ : ∃ m, k = m + 1 := ⟨k - 1, by omega⟩
    obtain ⟨b, hbf, hbl, hbb⟩ := bytes_f k (by omega) 8 (by omega) l1 hb hl
    have hbf' : scrimlaw6_Bytes.f k 8 l1 = some b := hbf
    have hg : GoodKS [List.replicate 16 q] := fun ks hks => by
      rw [List.mem_singleton] at hks
      rw [hks]
      exact ⟨by simp, fun z hz => by rw [(List.mem_replicate.1 hz).2]; exact hq⟩
    have e : onceL (onceL b (List.replicate 16 q)) (List.replicate 16 q) = b := by
      have := once_back hbb hbl (List.replicate 16 q)
      rwa [List.reverse_replicate] at this
    have o8 := onceL_length b (List.replicate 16 q)
    rw [scrimlaw6_DesWeak.l0, if_neg (by omega), hbf', Option.bind_some, block_f k (by omega) _ hg (by simp) false b hbb hbl, Option.bind_some]
    simp only
    rw [(block_one _ _).1, block_f k (by omega) _ hg (by simp) false _ (onceL_bytes _ _) o8, Option.bind_some, if_pos (by omega), Option.bind_some]
    simp only
    rw [(block_one _ _).1, e]
    simp
  | succ d ih =>
    intro k i hd hk
    obtain ⟨k, rfl⟩ : ∃ m, k = m + 1 := ⟨k - 1, by omega⟩
    rw [scrimlaw6_DesWeak.l0, if_pos (by omega), if_pos (by omega), if_pos (by rw [List.length_replicate]; omega), if_pos (by rw [List.length_replicate]; omega), rep_get q _ (by omega) (by omega), rep_get q 0 (by omega) (by omega), if_pos rfl, w_succ (by omega)]
    exact ih k (i + 1) (by omega) (by omega)
theorem DesWeak : scrimlaw6_DesWeak.Pure := by
  intro a0 l1 _ _ h1 hb1
  obtain ⟨K, hK⟩ : ∃ K : Nat, 5000 ≤ K := ⟨5000, Nat.le_refl _⟩
  refine ⟨K, ?_⟩
  unfold scrimlaw6_DesWeak.f
  rw [known_f K (by omega), Option.bind_some, if_pos rfl, Option.bind_some, within_f a0 4 (by decide) (by decide), Option.bind_some]
  have m1 := Int.emod_nonneg a0 (by decide : (4 : Int) ≠ 0)
  have m2 := Int.emod_lt_of_pos a0 (by decide : (0 : Int) < 4)
  generalize a0 % 4 = m at m1 m2
  rw [if_pos m1, if_pos (by simp; omega)]
  obtain ⟨i, rfl⟩ := Int.eq_ofNat_of_zero_le m1
  have hi : i < 4 := by omega
  have e : rd_L2 [[1, 1, 1, 1, 1, 1, 1, 1], [254, 254, 254, 254, 254, 254, 254, 254], [31, 31, 31, 31, 14, 14, 14, 14], [224, 224, 224, 224, 241, 241, 241, 241]] (i : Int) = weakT.getD i [] := rfl
  have hw := weak_bytes ⟨i, hi⟩
  have hs := weak_same ⟨i, hi⟩
  simp only at hw hs
  rw [e]
  have hc : cutL (weakT.getD i []) 0 = weakT.getD i [] := by
    unfold cutL
    rw [List.take_of_length_le (by omega)]; rfl
  have hn := new_f K (by omega) 1 (by decide) (by decide) _ hw.2 (by omega)
  have hn1 : newL 1 (weakT.getD i []) = [keysL (weakT.getD i [])] := by
    show [keysL (cutL (weakT.getD i []) 0)] = _
    rw [hc]
  rw [hn1] at hn
  have hq : ((keysL (weakT.getD i [])).getD 0 []).length = 6 ∧ Bytes ((keysL (weakT.getD i [])).getD 0 []) := by
    rw [keys_get _ 0 (by decide)]
    exact ⟨by rw [permL_length, (pick_in 0 (by decide)).2.1], permL_bytes _ _⟩
  rw [keys_f K (by omega) _ hw.2, if_pos hw.1, Option.bind_some, hn, Option.bind_some]
  simp only
  rw [if_pos trivial, if_pos trivial, if_neg (by simp), if_pos (by rw [keys_length]; rfl), hs]
  exact weak_loop l1 (by omega) (bytes_of hb1) _ hq 15 K 1 (by omega) (by omega)

end Go.Proofs.Ytnbopkmhakfmmaa.Pure
