/- EchoTurns: turned by one number, and another one, it is turned by both; four times it is as it was: the plain law over the functions' plain forms. Conditions: none beyond the statement's own bounds. -/
import Derived.Test.YteadclhlipcfpaaMEchoTurnsx1
import Derived.Test.YteadclhlipcfpaaEchoPlain
namespace Go.Proofs.Yteadclhlipcfpaa.Pure
open Go.RowKit Go.Proofs.Yteadclhlipcfpaa.MEchoTurns Go.Proofs.YteadclhlipcfpaaW.PrintWords Go.Proofs.YteadclhlipcfpaaW.PrintLast Go.Proofs.YteadclhlipcfpaaW.PrintMore Go.Proofs.Yteadclhlipcfpaa.Plain Go.Proofs.Yteadclhlipcfpaa.Flo Go.Proofs.Yteadclhlipcfpaa.FloWords

/-! ### Turn, Power, Echo -/
theorem F1 : F 1 = 4607182418800017408 := by decide +kernel
theorem F0 : F 0 = 0 := by decide +kernel
theorem Fm : F (-1) = 13830554455654793216 := by decide +kernel
theorem turn_f (n : Int) : echo_Turn.f n = some (F (iR n), F (iI n)) := by
  unfold echo_Turn.f
  congr 1
  rcases i_cases n with ⟨h, r, i⟩ | ⟨h, r, i⟩ | ⟨h, r, i⟩ | ⟨h, r, i⟩ <;> rw [h, r, i] <;> decide +kernel
theorem W_turn (n : Int) : W (F (iR n)) (iR n) ∧ W (F (iI n)) (iI n) := by
  have h := i_range n
  have big : (2 : Nat) ^ 53 = 9007199254740992 := by decide
  exact ⟨W_F (by omega), W_F (by omega)⟩
theorem sq_nonneg (a : Int) : 0 ≤ a * a := by rw [← Int.natAbs_mul_self (a := a)]; exact Int.natCast_nonneg _
theorem power_f {x y : Nat} {a b : Int} (hx : W x a) (hy : W y b) (ha : a.natAbs ≤ 1000000) (hb : b.natAbs ≤ 1000000) : echo_Power.f (x, y) = some (a * a + b * b) := by
  have e1 := W_ires hx
  have e2 := W_ires hy
  unfold echo_Power.f
  dsimp only
  rw [if_pos e1.1, if_pos e2.1, e1.2, e2.2]
  have h1 : a * a ≤ 1000000000000 ∧ 0 ≤ a * a := by
    have : (a * a).natAbs ≤ 1000000 * 1000000 := by rw [Int.natAbs_mul]; exact Nat.mul_le_mul ha ha
    have := sq_nonneg a
    omega
  have h2 : b * b ≤ 1000000000000 ∧ 0 ≤ b * b := by
    have : (b * b).natAbs ≤ 1000000 * 1000000 := by rw [Int.natAbs_mul]; exact Nat.mul_le_mul hb hb
    have := sq_nonneg b
    omega
  rw [w_of (x := a * a) (by omega) (by omega), w_of (x := b * b) (by omega) (by omega), w_of (by omega) (by omega)]
theorem echo_arg (t : List Int) (a : Int) (i : Nat) (ht : Bytes t) : (wrap64 ((wrap64 (t.getD i 0)) - wrap64 ((Int.tmod a 4) * ((i : Int) % 4)))) % 4 = (t.getD i 0 - a * (i : Int)) % 4 := by
  have hb := bytes_getD ht i
  rw [w_mod4, w_of (x := t.getD i 0) (by omega) (by omega), Int.sub_emod, w_mod4, ← Int.sub_emod]
  have e : ((Int.tmod a 4) * ((i : Int) % 4)) % 4 = (a * (i : Int)) % 4 := by
    have e1 : (Int.tmod a 4) % 4 = a % 4 := by
      have := Int.tmod_eq_emod (a := a) (b := 4)
      split at this <;> omega
    rw [Int.mul_emod, e1, Int.emod_emod_of_dvd _ (Int.dvd_refl 4), ← Int.mul_emod]
  rw [Int.sub_emod, e, ← Int.sub_emod]
theorem echo_loop (t : List Int) (ht : Bytes t) (hl : t.length ≤ 1000000) (a : Int) (d : Nat) : ∀ (k i : Nat), i + d = t.length → d < k →
    echo_Echo.l0 k t a (F (SR t a i), F (SI t a i)) (i : Int) = some (F (SR t a t.length), F (SI t a t.length)) := by
  induction d with
  | zero =>
    intro k i hd hk
    obtain ⟨k, rfl⟩ : ∃ m, k = m + 1 := ⟨k - 1, by omega⟩
    unfold echo_Echo.l0
    rw [if_neg (by omega), show i = t.length by omega]
  | succ d ih =>
    intro k i hd hk
    obtain ⟨k, rfl⟩ : ∃ m, k = m + 1 := ⟨k - 1, by omega⟩
    have big : (2 : Nat) ^ 53 = 9007199254740992 := by decide
    have hs := S_range t a i
    have hm := echo_arg t a i ht
    have e1 := iR_mod _ _ hm
    have e2 := iI_mod _ _ hm
    have hr := i_range (t.getD i 0 - a * (i : Int))
    unfold echo_Echo.l0
    rw [if_pos (by omega), rd_nat, turn_f, Option.bind_some, e1, e2]
    dsimp only
    have hc := C_addF (a1 := SR t a i) (a2 := SI t a i) (b1 := iR (t.getD i 0 - a * (i : Int))) (b2 := iI (t.getD i 0 - a * (i : Int))) (by omega) (by omega) (by omega) (by omega) (by omega) (by omega)
    rw [if_pos hc.1, hc.2, w_succ (by omega)]
    exact ih k (i + 1) (by omega) (by omega)
theorem echo_f (k : Nat) (t : List Int) (ht : Bytes t) (hl : t.length ≤ 1000000) (a : Int) (hk : t.length < k) : echo_Echo.f k t a = some (F (SR t a t.length), F (SI t a t.length)) := by
  unfold echo_Echo.f
  have := echo_loop t ht hl a t.length k 0 (by omega) hk
  rw [show SR t a 0 = 0 from rfl, show SI t a 0 = 0 from rfl, F0] at this
  exact this
theorem W_echo (t : List Int) (hl : t.length ≤ 1000000) (a : Int) : W (F (SR t a t.length)) (SR t a t.length) ∧ W (F (SI t a t.length)) (SI t a t.length) := by
  have hs := S_range t a t.length
  have big : (2 : Nat) ^ 53 = 9007199254740992 := by decide
  exact ⟨W_F (by omega), W_F (by omega)⟩

/-! ### known -/
theorem W0 : W 0 0 := by have := W_F (v := 0) (by decide); rwa [F0] at this
theorem W1 : W 4607182418800017408 1 := by have := W_F (v := 1) (by decide); rwa [F1] at this
theorem known_f (k : Nat) (hk : 10 ≤ k) : scrimlaw5_known.f k = some true := by
  unfold scrimlaw5_known.f
  have b0 : Bytes [] := fun x hx => by simp at hx
  have b1 : Bytes [0] := fun x hx => by simp at hx; omega
  rw [turn_f, Option.bind_some, echo_f k [] b0 (by simp) 3 (by simp only [List.length_nil]; omega), Option.bind_some]
  have e1 := W_echo [] (by simp) 3
  have e2 := W_echo [0] (by simp) 1
  have e3 := W_turn 1
  dsimp only
  rw [W_order e1.1 W0, W_order e1.2 W0, W_order e3.1 W0, W_order e3.2 W1, if_pos (by decide), if_pos (by decide), if_pos (by decide), power_f e3.1 e3.2 (by decide) (by decide), Option.bind_some, if_pos (by decide), echo_f k [0] b1 (by simp) 1 (by simp only [List.length_cons, List.length_nil]; omega), Option.bind_some]
  dsimp only
  rw [W_order e2.1 W1, W_order e2.2 W0]
  decide

/-! ### within -/
theorem within_f (a n : Int) (h0 : 0 < n) (h1 : n ≤ 1099511627776) : scrimlaw5_within.f a n = some (a % n) := by
  unfold scrimlaw5_within.f
  rw [if_neg (by omega)]
  have e := Int.tmod_eq_emod (a := a) (b := n)
  have l1 := Int.emod_nonneg a (by omega : n ≠ 0)
  have l2 := Int.emod_lt_of_pos a h0
  by_cases hc : 0 ≤ a ∨ n ∣ a
  · rw [if_pos hc] at e
    rw [if_neg (by omega)]
    congr 1; omega
  · rw [if_neg hc] at e
    have hn : (n.natAbs : Int) = n := by omega
    have hnz : a % n ≠ 0 := fun z => hc (.inr (Int.dvd_of_emod_eq_zero z))
    rw [if_pos (by omega)]
    congr 1
    unfold wrap64; omega

/-! ### the law -/
theorem EchoTurns : scrimlaw5_EchoTurns.Pure := by
  intro n m _ _
  obtain ⟨K, hK⟩ : ∃ K : Nat, 10 ≤ K := ⟨_, Nat.le_refl _⟩
  refine ⟨K, ?_⟩
  unfold scrimlaw5_EchoTurns.f
  rw [known_f K hK, Option.bind_some, if_pos rfl, within_f n _ (by decide) (by decide), Option.bind_some, within_f m _ (by decide) (by decide), Option.bind_some]
  have n1 := Int.emod_nonneg n (by decide : (1099511627776 : Int) ≠ 0)
  have n2 := Int.emod_lt_of_pos n (by decide : (0 : Int) < 1099511627776)
  have m1 := Int.emod_nonneg m (by decide : (1099511627776 : Int) ≠ 0)
  have m2 := Int.emod_lt_of_pos m (by decide : (0 : Int) < 1099511627776)
  generalize n % 1099511627776 = a0 at n1 n2
  generalize m % 1099511627776 = b0 at m1 m2
  rw [w_of (x := a0 - 549755813888) (by omega) (by omega), w_of (x := b0 - 549755813888) (by omega) (by omega)]
  obtain ⟨a, ha⟩ : ∃ a, a0 - 549755813888 = a := ⟨_, rfl⟩
  obtain ⟨b, hb⟩ : ∃ b, b0 - 549755813888 = b := ⟨_, rfl⟩
  rw [ha, hb]
  have a1 : -549755813888 ≤ a ∧ a < 549755813888 := by omega
  have b1 : -549755813888 ≤ b ∧ b < 549755813888 := by omega
  clear ha hb n1 n2 m1 m2
  rw [w_of (x := a + b) (by omega) (by omega), w_of (x := a + 4) (by omega) (by omega), w_of (x := -a) (by omega) (by omega)]
  have small : ∀ p q : Int, (iR p * iR q).natAbs < 2 ^ 51 ∧ (iI p * iI q).natAbs < 2 ^ 51 ∧ (iR p * iI q).natAbs < 2 ^ 51 ∧ (iI p * iR q).natAbs < 2 ^ 51 := by
    intro p q
    rcases i_cases p with ⟨_, ra, ia⟩ | ⟨_, ra, ia⟩ | ⟨_, ra, ia⟩ | ⟨_, ra, ia⟩ <;>
    rcases i_cases q with ⟨_, rb, ib⟩ | ⟨_, rb, ib⟩ | ⟨_, rb, ib⟩ | ⟨_, rb, ib⟩ <;>
    (rw [ra, ia, rb, ib]; decide)
  have ea := W_turn a
  have eb := W_turn b
  have en := W_turn (-a)
  have eab := W_turn (a + b)
  have e4 := W_turn (a + 4)
  have s1 := small a b
  have s2 := small a (-a)
  have c1 := C_mul ea.1 ea.2 eb.1 eb.2 s1.1 s1.2.1 s1.2.2.1 s1.2.2.2
  have c2 := C_mul ea.1 ea.2 en.1 en.2 s2.1 s2.2.1 s2.2.2.1 s2.2.2.2
  have i1 := i_add a b
  have i2 := i_add a (-a)
  rw [show a + -a = 0 by omega] at i2
  rw [turn_f, Option.bind_some, turn_f, Option.bind_some]
  dsimp only
  rw [if_pos c1.1, turn_f, Option.bind_some]
  dsimp only
  rw [W_order c1.2.1 eab.1, W_order c1.2.2 eab.2, ← i1.1, ← i1.2, if_pos (by simp), turn_f, Option.bind_some, Option.bind_some]
  dsimp only
  have h4 : (a + 4) % 4 = a % 4 := by omega
  rw [W_order e4.1 ea.1, W_order e4.2 ea.2, iR_mod _ _ h4, iI_mod _ _ h4, if_pos (by simp), Option.bind_some]
  have hr := i_range a
  rw [power_f ea.1 ea.2 (by omega) (by omega), Option.bind_some]
  have hp : iR a * iR a + iI a * iI a = 1 := by
    rcases i_cases a with ⟨_, ra, ia⟩ | ⟨_, ra, ia⟩ | ⟨_, ra, ia⟩ | ⟨_, ra, ia⟩ <;> (rw [ra, ia]; decide)
  rw [if_pos hp, Option.bind_some, turn_f, Option.bind_some]
  dsimp only
  rw [if_pos c2.1, W_order c2.2.1 W1, W_order c2.2.2 W0, ← i2.1, ← i2.2]
  rfl

end Go.Proofs.Yteadclhlipcfpaa.Pure
