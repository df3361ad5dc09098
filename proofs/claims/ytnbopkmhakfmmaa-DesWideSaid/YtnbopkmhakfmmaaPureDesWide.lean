/- PureDesWide: F depends on its half and its key by their sum alone: plain laws over the printed functions. Conditions: bytes, and bounds on lengths. -/
import Derived.Test.YtnbopkmhakfmmaaMDesWide
import Derived.Test.YtnbopkmhakfmmaaDesTellC
import Derived.Test.YtnbopkmhakfmmaaDesTellD
namespace Go.Proofs.Ytnbopkmhakfmmaa.Pure
open Go.RowKit Go.Proofs.Ytnbopkmhakfmmaa.MDes Go.Proofs.YtnbopkmhakfmmaaW.PrintWords Go.Proofs.YtnbopkmhakfmmaaW.PrintLast Go.Proofs.YtnbopkmhakfmmaaW.PrintMore Go.Proofs.Ytnbopkmhakfmmaa.Plain

/-! ### the law -/
theorem wide_loop (l0 l1 l2 : List Int) (h0 : l0.length ≤ 140737488351232) (h1 : l1.length ≤ 140737488351232) (h2 : l2.length ≤ 140737488351232) (b0 : Bytes l0) (b1 : Bytes l1) (b2 : Bytes l2) (d : Nat) : ∀ (k i : Nat), i + d = 48 → d + 3000 ≤ k →
    scrimlaw6_DesWide.l0 k l0 l1 l2 (wideT.take i) (i : Int) = some true := by
  induction d with
  | zero =>
    intro k i hd hk
    obtain ⟨k, rfl⟩ : ∃ m, k = m + 1 := ⟨k - 1, by omega⟩
    obtain rfl : i = 48 := by omega
    obtain ⟨a, haf, hal, hab⟩ := bytes_f k (by omega) 4 (by omega) l0 b0 h0
    obtain ⟨b, hbf, hbl, hbb⟩ := bytes_f k (by omega) 4 (by omega) l1 b1 h1
    obtain ⟨q, hqf, hql, hqb⟩ := bytes_f k (by omega) 6 (by omega) l2 b2 h2
    have haf' : scrimlaw6_Bytes.f k 4 l0 = some a := haf
    have hbf' : scrimlaw6_Bytes.f k 4 l1 = some b := hbf
    have hqf' : scrimlaw6_Bytes.f k 6 l2 = some q := hqf
    have la := wide_length a
    have lb := wide_length b
    have lx : (xorL (permL a wideT) (permL b wideT)).length = 6 := by rw [xorL_length, la]
    have ly : (xorL q (xorL (permL a wideT) (permL b wideT))).length = 6 := by rw [xorL_length, hql]
    have ht : wideT.take 48 = wideT := rfl
    have hw : wideT.length = 48 := rfl
    have hfl := FL_length a q
    rw [ht, scrimlaw6_DesWide.l0, if_neg (by decide), haf', Option.bind_some, hbf', Option.bind_some, hqf', Option.bind_some,
      by_f k a wideT hab (by omega) (by omega) (by rw [hal]; decide +kernel) (by omega), Option.bind_some, by_f k b wideT hbb (by omega) (by omega) (by rw [hbl]; decide +kernel) (by omega), Option.bind_some,
      both_f k _ _ (permL_bytes _ _) (permL_bytes _ _) (by rw [la, lb]) (by omega) (by omega), Option.bind_some,
      F_f k (by omega) a q hab hqb, if_pos ⟨hal, hql⟩, Option.bind_some,
      both_f k q _ hqb (xorL_bytes _ _) (by rw [hql, lx]) (by omega) (by omega), Option.bind_some,
      F_f k (by omega) b _ hbb (xorL_bytes _ _), if_pos ⟨hbl, ly⟩, Option.bind_some]
    simp only
    rw [if_pos trivial, if_pos trivial, if_pos (by omega), FL_wide a b q hql]
    simp
  | succ d ih =>
    intro k i hd hk
    obtain ⟨k, rfl⟩ : ∃ m, k = m + 1 := ⟨k - 1, by omega⟩
    have e : ∀ i : Fin 48, wideT.take i.val ++ [wrap64 ((Int.tmod (wrap64 ((wrap64 ((wrap64 (4 * (wrap64 (Int.tdiv (i.val : Int) 6)))) + (Int.tmod (i.val : Int) 6))) + 31)) 32) + 1)] = wideT.take (i.val + 1) := by decide +kernel
    have e1 := e ⟨i, by omega⟩
    simp only at e1
    have hw : wideT.length = 48 := rfl
    rw [scrimlaw6_DesWide.l0, if_pos (by omega), if_pos (by rw [List.length_take, hw]; omega), e1, w_succ (by omega)]
    exact ih k (i + 1) (by omega) (by omega)
theorem DesWide : scrimlaw6_DesWide.Pure := by
  intro l0 l1 l2 _ h0 hb0 _ h1 hb1 _ h2 hb2
  obtain ⟨K, hK⟩ : ∃ K : Nat, 5000 ≤ K := ⟨5000, Nat.le_refl _⟩
  refine ⟨K, ?_⟩
  unfold scrimlaw6_DesWide.f
  rw [known_f K (by omega), Option.bind_some, if_pos rfl]
  exact wide_loop l0 l1 l2 (by omega) (by omega) (by omega) (bytes_of hb0) (bytes_of hb1) (bytes_of hb2) 48 K 0 (by omega) (by omega)

end Go.Proofs.Ytnbopkmhakfmmaa.Pure
