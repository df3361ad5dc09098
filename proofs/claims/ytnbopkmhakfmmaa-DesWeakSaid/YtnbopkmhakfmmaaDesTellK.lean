/- DesTellK: what within and key come to: plain laws over the printed functions. Conditions: bytes, and bounds on lengths. -/
import Derived.Test.YtnbopkmhakfmmaaDesTellC
import Derived.Test.YtnbopkmhakfmmaaMDesi
namespace Go.Proofs.Ytnbopkmhakfmmaa.Pure
open Go.RowKit Go.Proofs.Ytnbopkmhakfmmaa.MDes Go.Proofs.YtnbopkmhakfmmaaW.PrintWords Go.Proofs.YtnbopkmhakfmmaaW.PrintLast Go.Proofs.YtnbopkmhakfmmaaW.PrintMore Go.Proofs.Ytnbopkmhakfmmaa.Plain

/-! ### within -/
theorem within_f (a n : Int) (h0 : 0 < n) (h1 : n ≤ 1099511627776) : scrimlaw6_within.f a n = some (a % n) := by
  unfold scrimlaw6_within.f
  rw [if_neg (by omega)]
  have e := Int.tmod_eq_emod (a := a) (b := n)
  have l1 := Int.emod_nonneg a (by omega : n ≠ 0)
  have l2 := Int.emod_lt_of_pos a h0
  by_cases hc : 0 ≤ a ∨ n ∣ a
  · rw [if_pos hc] at e
    rw [if_neg (by omega)]
    congr 1; omega
  · rw [if_neg hc] at e
    have hn : (n.natAbs : Int) = n := by omega
    have hnz : a % n ≠ 0 := fun z => hc (.inr (Int.dvd_of_emod_eq_zero z))
    rw [if_pos (by omega)]
    congr 1
    unfold wrap64; omega

/-! ### key -/
theorem key_f (k : Nat) (hk : 1100 ≤ k) (b : List Int) (hb : Bytes b) (hl : b.length ≤ 140737488351232) (a : Int) : ∃ (n : Nat) (y : List Int), scrimlaw6_key.f k b a = some y ∧ 1 ≤ n ∧ n ≤ 3 ∧ y.length = 8 * n ∧ Bytes y := by
  unfold scrimlaw6_key.f
  rw [Option.bind_some, within_f a 3 (by decide) (by decide), Option.bind_some]
  have h1 := Int.emod_nonneg a (by decide : (3 : Int) ≠ 0)
  have h2 := Int.emod_lt_of_pos a (by decide : (0 : Int) < 3)
  generalize a % 3 = m at h1 h2
  rw [if_pos h1, if_pos (by simp; omega)]
  obtain ⟨n, rfl⟩ := Int.eq_ofNat_of_zero_le h1
  have hr : rd [8, 16, 24] (n : Int) = ((8 * (n + 1) : Nat) : Int) := by
    rw [rd_nat]
    match n, h2 with
    | 0, _ => rfl
    | 1, _ => rfl
    | 2, _ => rfl
  rw [hr]
  obtain ⟨y, hy, h3, h4⟩ := bytes_f k hk (8 * (n + 1)) (by omega) b hb hl
  exact ⟨n + 1, y, by rw [hy, Option.bind_some], by omega, by omega, h3, h4⟩


end Go.Proofs.Ytnbopkmhakfmmaa.Pure
