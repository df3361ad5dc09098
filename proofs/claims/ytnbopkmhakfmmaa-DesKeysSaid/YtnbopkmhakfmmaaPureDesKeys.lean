/- PureDesKeys: the sixteen keys and F are as the reference says: plain laws over the printed functions. Conditions: bytes, and bounds on lengths. -/
import Derived.Test.YtnbopkmhakfmmaaMDesKeys
import Derived.Test.YtnbopkmhakfmmaaDesTellC
import Derived.Test.YtnbopkmhakfmmaaDesTellE
namespace Go.Proofs.Ytnbopkmhakfmmaa.Pure
open Go.RowKit Go.Proofs.Ytnbopkmhakfmmaa.MDes Go.Proofs.YtnbopkmhakfmmaaW.PrintWords Go.Proofs.YtnbopkmhakfmmaaW.PrintLast Go.Proofs.YtnbopkmhakfmmaaW.PrintMore Go.Proofs.Ytnbopkmhakfmmaa.Plain

/-! ### the law -/
theorem rows_loop (a : List (List Int)) (ha : a.length ≤ 1000) (d : Nat) : ∀ (k i : Nat), i + d = a.length → d < k → scrimlaw6_rowsOf.l0 k a a (i : Int) = some true := by
  induction d with
  | zero =>
    intro k i hd hk
    obtain ⟨k, rfl⟩ : ∃ m, k = m + 1 := ⟨k - 1, by omega⟩
    rw [scrimlaw6_rowsOf.l0, if_neg (by omega)]
  | succ d ih =>
    intro k i hd hk
    obtain ⟨k, rfl⟩ : ∃ m, k = m + 1 := ⟨k - 1, by omega⟩
    rw [scrimlaw6_rowsOf.l0, if_pos (by omega), if_pos (by omega), if_pos (by omega), if_pos rfl, w_succ (by omega)]
    exact ih k (i + 1) (by omega) (by omega)
theorem rows_same (k : Nat) (hk : 1100 ≤ k) (a : List (List Int)) (ha : a.length ≤ 1000) : scrimlaw6_rowsOf.f k a a = some true := by
  unfold scrimlaw6_rowsOf.f
  rw [if_pos rfl]
  exact rows_loop a ha a.length k 0 (by omega) (by omega)
theorem DesKeys : scrimlaw6_DesKeys.Pure := by
  intro l0 l1 l2 l3 _ h0 hb0 _ h1 hb1 _ h2 hb2 _ h3 hb3
  obtain ⟨K, hK⟩ : ∃ K : Nat, 5000 ≤ K := ⟨5000, Nat.le_refl _⟩
  refine ⟨K, ?_⟩
  obtain ⟨x, hx, xl, xb⟩ := bytes_f K (by omega) 8 (by omega) l0 (bytes_of hb0) (by omega)
  obtain ⟨r, hr, rl, rb⟩ := bytes_f K (by omega) 4 (by omega) l1 (bytes_of hb1) (by omega)
  obtain ⟨q, hq, ql, qb⟩ := bytes_f K (by omega) 6 (by omega) l2 (bytes_of hb2) (by omega)
  have hx' : scrimlaw6_Bytes.f K 8 l0 = some x := hx
  have hr' : scrimlaw6_Bytes.f K 4 l1 = some r := hr
  have hq' : scrimlaw6_Bytes.f K 6 l2 = some q := hq
  have b3 := bytes_of hb3
  have b2 := bytes_of hb2
  unfold scrimlaw6_DesKeys.f
  rw [known_f K (by omega), Option.bind_some, if_pos rfl]
  by_cases h60 : (l3.length : Int) > 60
  · rw [if_pos h60]
  · have hlen : (if l3.length = 8 then (keysL l3, (0 : Int)) else ([], 4)).1.length ≤ 1000 := by
      split
      · show (keysL l3).length ≤ 1000
        rw [keys_length]; omega
      · show ([] : List (List Int)).length ≤ 1000
        simp
    rw [if_neg h60, hx', Option.bind_some, keys_f K (by omega) x xb, Option.bind_some, Option.bind_some, refkeys_f K (by omega) x xb, Option.bind_some, keys_f K (by omega) l3 b3, Option.bind_some, refkeys_f K (by omega) l3 b3, Option.bind_some, if_pos rfl,
      if_pos xl]
    simp only
    rw [rows_same K (by omega) (keysL x) (by rw [keys_length]; omega), Option.bind_some, if_pos rfl, if_pos trivial, rows_same K (by omega) _ hlen, Option.bind_some, if_pos rfl, hr', Option.bind_some, hq', Option.bind_some,
      F_f K (by omega) r q rb qb, Option.bind_some, Option.bind_some, Option.bind_some, refF_f K (by omega) r q rb qb, Option.bind_some, F_f K (by omega) l3 l2 b3 b2, Option.bind_some, refF_f K (by omega) l3 l2 b3 b2, Option.bind_some,
      if_pos (by simp), if_pos rfl, if_pos (by simp)]
    simp

end Go.Proofs.Ytnbopkmhakfmmaa.Pure
