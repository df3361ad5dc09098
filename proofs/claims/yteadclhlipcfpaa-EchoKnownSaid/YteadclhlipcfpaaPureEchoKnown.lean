/- EchoKnown: the ten answers of the chapter are just these: the plain law over the functions' plain forms. Conditions: none beyond the statement's own bounds. -/
import Derived.Test.YteadclhlipcfpaaMEchoKnownx1
import Derived.Test.YteadclhlipcfpaaWalshPlain
namespace Go.Proofs.Yteadclhlipcfpaa.Pure
open Go.RowKit Go.Proofs.Yteadclhlipcfpaa.MEchoKnown Go.Proofs.YteadclhlipcfpaaW.PrintWords Go.Proofs.YteadclhlipcfpaaW.PrintLast Go.Proofs.YteadclhlipcfpaaW.PrintMore Go.Proofs.Yteadclhlipcfpaa.Plain Go.Proofs.Yteadclhlipcfpaa.Flo Go.Proofs.Yteadclhlipcfpaa.FloWords

/-! ### Turn, Power, Echo -/
theorem F1 : F 1 = 4607182418800017408 := by decide +kernel
theorem F0 : F 0 = 0 := by decide +kernel
theorem Fm : F (-1) = 13830554455654793216 := by decide +kernel
theorem turn_f (n : Int) : echo_Turn.f n = some (F (iR n), F (iI n)) := by
  unfold echo_Turn.f
  congr 1
  rcases i_cases n with ⟨h, r, i⟩ | ⟨h, r, i⟩ | ⟨h, r, i⟩ | ⟨h, r, i⟩ <;> rw [h, r, i] <;> decide +kernel
theorem W_turn (n : Int) : W (F (iR n)) (iR n) ∧ W (F (iI n)) (iI n) := by
  have h := i_range n
  have big : (2 : Nat) ^ 53 = 9007199254740992 := by decide
  exact ⟨W_F (by omega), W_F (by omega)⟩
theorem sq_nonneg (a : Int) : 0 ≤ a * a := by rw [← Int.natAbs_mul_self (a := a)]; exact Int.natCast_nonneg _
theorem power_f {x y : Nat} {a b : Int} (hx : W x a) (hy : W y b) (ha : a.natAbs ≤ 1000000) (hb : b.natAbs ≤ 1000000) : echo_Power.f (x, y) = some (a * a + b * b) := by
  have e1 := W_ires hx
  have e2 := W_ires hy
  unfold echo_Power.f
  dsimp only
  rw [if_pos e1.1, if_pos e2.1, e1.2, e2.2]
  have h1 : a * a ≤ 1000000000000 ∧ 0 ≤ a * a := by
    have : (a * a).natAbs ≤ 1000000 * 1000000 := by rw [Int.natAbs_mul]; exact Nat.mul_le_mul ha ha
    have := sq_nonneg a
    omega
  have h2 : b * b ≤ 1000000000000 ∧ 0 ≤ b * b := by
    have : (b * b).natAbs ≤ 1000000 * 1000000 := by rw [Int.natAbs_mul]; exact Nat.mul_le_mul hb hb
    have := sq_nonneg b
    omega
  rw [w_of (x := a * a) (by omega) (by omega), w_of (x := b * b) (by omega) (by omega), w_of (by omega) (by omega)]
theorem echo_arg (t : List Int) (a : Int) (i : Nat) (ht : Bytes t) : (wrap64 ((wrap64 (t.getD i 0)) - wrap64 ((Int.tmod a 4) * ((i : Int) % 4)))) % 4 = (t.getD i 0 - a * (i : Int)) % 4 := by
  have hb := bytes_getD ht i
  rw [w_mod4, w_of (x := t.getD i 0) (by omega) (by omega), Int.sub_emod, w_mod4, ← Int.sub_emod]
  have e : ((Int.tmod a 4) * ((i : Int) % 4)) % 4 = (a * (i : Int)) % 4 := by
    have e1 : (Int.tmod a 4) % 4 = a % 4 := by
      have := Int.tmod_eq_emod (a := a) (b := 4)
      split at this <;> omega
    rw [Int.mul_emod, e1, Int.emod_emod_of_dvd _ (Int.dvd_refl 4), ← Int.mul_emod]
  rw [Int.sub_emod, e, ← Int.sub_emod]
theorem echo_loop (t : List Int) (ht : Bytes t) (hl : t.length ≤ 1000000) (a : Int) (d : Nat) : ∀ (k i : Nat), i + d = t.length → d < k →
    echo_Echo.l0 k t a (F (SR t a i), F (SI t a i)) (i : Int) = some (F (SR t a t.length), F (SI t a t.length)) := by
  induction d with
  | zero =>
    intro k i hd hk
    obtain ⟨k, rfl⟩ : ∃ m, k = m + 1 := ⟨k - 1, by omega⟩
    unfold echo_Echo.l0
    rw [if_neg (by omega), show i = t.length by omega]
  | succ d ih =>
    intro k i hd hk
    obtain ⟨k, rfl⟩ : ∃ m, k = m + 1 := ⟨k - 1, by omega⟩
    have big : (2 : Nat) ^ 53 = 9007199254740992 := by decide
    have hs := S_range t a i
    have hm := echo_arg t a i ht
    have e1 := iR_mod _ _ hm
    have e2 := iI_mod _ _ hm
    have hr := i_range (t.getD i 0 - a * (i : Int))
    unfold echo_Echo.l0
    rw [if_pos (by omega), rd_nat, turn_f, Option.bind_some, e1, e2]
    dsimp only
    have hc := C_addF (a1 := SR t a i) (a2 := SI t a i) (b1 := iR (t.getD i 0 - a * (i : Int))) (b2 := iI (t.getD i 0 - a * (i : Int))) (by omega) (by omega) (by omega) (by omega) (by omega) (by omega)
    rw [if_pos hc.1, hc.2, w_succ (by omega)]
    exact ih k (i + 1) (by omega) (by omega)
theorem echo_f (k : Nat) (t : List Int) (ht : Bytes t) (hl : t.length ≤ 1000000) (a : Int) (hk : t.length < k) : echo_Echo.f k t a = some (F (SR t a t.length), F (SI t a t.length)) := by
  unfold echo_Echo.f
  have := echo_loop t ht hl a t.length k 0 (by omega) hk
  rw [show SR t a 0 = 0 from rfl, show SI t a 0 = 0 from rfl, F0] at this
  exact this
theorem W_echo (t : List Int) (hl : t.length ≤ 1000000) (a : Int) : W (F (SR t a t.length)) (SR t a t.length) ∧ W (F (SI t a t.length)) (SI t a t.length) := by
  have hs := S_range t a t.length
  have big : (2 : Nat) ^ 53 = 9007199254740992 := by decide
  exact ⟨W_F (by omega), W_F (by omega)⟩

/-! ### known -/
theorem W0 : W 0 0 := by have := W_F (v := 0) (by decide); rwa [F0] at this
theorem W1 : W 4607182418800017408 1 := by have := W_F (v := 1) (by decide); rwa [F1] at this
theorem known_f (k : Nat) (hk : 10 ≤ k) : scrimlaw5_known.f k = some true := by
  unfold scrimlaw5_known.f
  have b0 : Bytes [] := fun x hx => by simp at hx
  have b1 : Bytes [0] := fun x hx => by simp at hx; omega
  rw [turn_f, Option.bind_some, echo_f k [] b0 (by simp) 3 (by simp only [List.length_nil]; omega), Option.bind_some]
  have e1 := W_echo [] (by simp) 3
  have e2 := W_echo [0] (by simp) 1
  have e3 := W_turn 1
  dsimp only
  rw [W_order e1.1 W0, W_order e1.2 W0, W_order e3.1 W0, W_order e3.2 W1, if_pos (by decide), if_pos (by decide), if_pos (by decide), power_f e3.1 e3.2 (by decide) (by decide), Option.bind_some, if_pos (by decide), echo_f k [0] b1 (by simp) 1 (by simp only [List.length_cons, List.length_nil]; omega), Option.bind_some]
  dsimp only
  rw [W_order e2.1 W1, W_order e2.2 W0]
  decide

/-! ### within -/
theorem within_f (a n : Int) (h0 : 0 < n) (h1 : n ≤ 1099511627776) : scrimlaw5_within.f a n = some (a % n) := by
  unfold scrimlaw5_within.f
  rw [if_neg (by omega)]
  have e := Int.tmod_eq_emod (a := a) (b := n)
  have l1 := Int.emod_nonneg a (by omega : n ≠ 0)
  have l2 := Int.emod_lt_of_pos a h0
  by_cases hc : 0 ≤ a ∨ n ∣ a
  · rw [if_pos hc] at e
    rw [if_neg (by omega)]
    congr 1; omega
  · rw [if_neg hc] at e
    have hn : (n.natAbs : Int) = n := by omega
    have hnz : a % n ≠ 0 := fun z => hc (.inr (Int.dvd_of_emod_eq_zero z))
    rw [if_pos (by omega)]
    congr 1
    unfold wrap64; omega

/-! ### Bias -/
theorem even_fin : ∀ x : Fin 256, echo_even.f (x.val : Int) = some (decide (parN 8 x.val = 1)) := by decide +kernel
theorem even_f (x : Nat) (h : x < 256) : echo_even.f (x : Int) = some (decide (parN 8 x = 1)) := even_fin ⟨x, h⟩
theorem and_lt {a b : Nat} (h : a < 256) : a &&& b < 256 := Nat.lt_of_le_of_lt Nat.and_le_left h
theorem even_and (x y : Int) (hx : 0 ≤ x ∧ x < 256) (hy : 0 ≤ y ∧ y < 256) : echo_even.f (Go.bits .and .u8 x y) = some (decide (chi 8 x.toNat y.toNat = 1)) := by
  rw [u8_and x y hx.1 hx.2 hy.1 hy.2, even_f _ (and_lt (by omega)), chi_par]
/-- What Bias adds up. -/
def bs (t : List Int) (a b : Nat) (n : Nat) : Int := sumN (fun x => chi 8 (x % 256) a * chi 8 (t.getD x 0).toNat b) n
theorem bs_succ (t : List Int) (a b n : Nat) : bs t a b (n + 1) = bs t a b n + chi 8 (n % 256) a * chi 8 (t.getD n 0).toNat b := rfl
theorem bs_or (t : List Int) (a b i : Nat) : chi 8 (i % 256) a * chi 8 (t.getD i 0).toNat b = 1 ∨ chi 8 (i % 256) a * chi 8 (t.getD i 0).toNat b = -1 := by
  rcases chi_or 8 (i % 256) a with h | h <;> rcases chi_or 8 (t.getD i 0).toNat b with g | g <;> rw [h, g] <;> decide
theorem bs_range (t : List Int) (a b n : Nat) : -(n : Int) ≤ bs t a b n ∧ bs t a b n ≤ n := by
  have h := sumN_le (f := fun x => chi 8 (x % 256) a * chi 8 (t.getD x 0).toNat b) (c := 1) (fun i => by
    rcases bs_or t a b i with h | h <;> rw [h] <;> decide) n
  unfold bs
  rw [Nat.one_mul] at h
  exact h
theorem bias_test (p q : Int) (hp : p = 1 ∨ p = -1) (hq : q = 1 ∨ q = -1) : ((decide (p = 1) == decide (q = 1)) = true ∧ p * q = 1) ∨ (¬ (decide (p = 1) == decide (q = 1)) = true ∧ p * q = -1) := by
  rcases hp with rfl | rfl <;> rcases hq with rfl | rfl <;> decide
theorem bias_loop (t : List Int) (ht : Bytes t) (hl : t.length ≤ 1000000) (a b : Int) (ha : 0 ≤ a ∧ a < 256) (hb : 0 ≤ b ∧ b < 256) (d : Nat) : ∀ (k i : Nat), i + d = t.length → d < k →
    echo_Bias.l0 k a b (bs t a.toNat b.toNat i) t (t.length : Int) (i : Int) = some (bs t a.toNat b.toNat t.length) := by
  induction d with
  | zero =>
    intro k i hd hk
    obtain ⟨k, rfl⟩ : ∃ m, k = m + 1 := ⟨k - 1, by omega⟩
    unfold echo_Bias.l0
    rw [if_neg (by omega), show i = t.length by omega]
  | succ d ih =>
    intro k i hd hk
    obtain ⟨k, rfl⟩ : ∃ m, k = m + 1 := ⟨k - 1, by omega⟩
    have hr := bs_range t a.toNat b.toNat i
    have hg := bytes_getD ht i
    unfold echo_Bias.l0
    rw [if_pos (by omega), if_pos (by omega), if_pos (by omega), rd_nat, even_and ((i : Int) % 256) a (by omega) ha, Option.bind_some, even_and _ b hg hb, Option.bind_some, show ((i : Int) % 256).toNat = i % 256 from by omega, w_succ (by omega)]
    rcases bias_test _ _ (chi_or 8 (i % 256) a.toNat) (chi_or 8 (t.getD i 0).toNat b.toNat) with ⟨h, g⟩ | ⟨h, g⟩
    · rw [if_pos h, w_of (by omega) (by omega), ← g, ← bs_succ]
      exact ih k (i + 1) (by omega) (by omega)
    · rw [if_neg h, w_of (by omega) (by omega), show bs t a.toNat b.toNat i - 1 = bs t a.toNat b.toNat i + -1 from rfl, ← g, ← bs_succ]
      exact ih k (i + 1) (by omega) (by omega)
theorem bias_f (k : Nat) (t : List Int) (ht : Bytes t) (hl : t.length ≤ 1000000) (a b : Int) (ha : 0 ≤ a ∧ a < 256) (hb : 0 ≤ b ∧ b < 256) (hk : t.length < k) : echo_Bias.f k t a b = some (bs t a.toNat b.toNat t.length) :=
  bias_loop t ht hl a b ha hb t.length k 0 (by omega) hk

/-! ### the law -/
theorem F3 : F 3 = 4613937818241073152 := by decide +kernel
theorem F4 : F 4 = 4616189618054758400 := by decide +kernel
theorem Fm4 : F (-4) = 13839561654909534208 := by decide +kernel
theorem Wm : W 13830554455654793216 (-1) := by have := W_F (v := -1) (by decide); rwa [Fm] at this
theorem W3 : W 4613937818241073152 3 := by have := W_F (v := 3) (by decide); rwa [F3] at this
theorem W4 : W 4616189618054758400 4 := by have := W_F (v := 4) (by decide); rwa [F4] at this
theorem Wm4 : W 13839561654909534208 (-4) := by have := W_F (v := -4) (by decide); rwa [Fm4] at this
theorem EchoKnown : scrimlaw5_EchoKnown.Pure := by
  intro a _
  obtain ⟨K, hK⟩ : ∃ K : Nat, 1000 ≤ K := ⟨_, Nat.le_refl _⟩
  refine ⟨K, ?_⟩
  have b1 : Bytes [0, 1, 2, 3] := fun x hx => by simp at hx; omega
  have b2 : Bytes [1, 1, 1] := fun x hx => by simp at hx; omega
  have b3 : Bytes [0, 1] := fun x hx => by simp at hx; omega
  have b4 : Bytes [1, 0] := fun x hx => by simp at hx; omega
  have b5 : Bytes [0, 0] := fun x hx => by simp at hx; omega
  have b6 : Bytes [] := fun x hx => by simp at hx
  unfold scrimlaw5_EchoKnown.f
  have l4 : ([0, 1, 2, 3] : List Int).length = 4 := rfl
  have l3 : ([1, 1, 1] : List Int).length = 3 := rfl
  have l2 : ([0, 1] : List Int).length = 2 := rfl
  have l2' : ([1, 0] : List Int).length = 2 := rfl
  have l2'' : ([0, 0] : List Int).length = 2 := rfl
  have l0 : ([] : List Int).length = 0 := rfl
  have e1 := W_turn 2
  have e2 := W_turn (-1)
  have e3 := W_echo [0, 1, 2, 3] (by simp) 1
  have e4 := W_echo [0, 1, 2, 3] (by simp) 0
  have e5 := W_echo [1, 1, 1] (by simp) 0
  rw [known_f K (by omega), Option.bind_some, if_pos rfl, turn_f, Option.bind_some, turn_f, Option.bind_some, echo_f K _ b1 (by simp) 1 (by omega), Option.bind_some, echo_f K _ b1 (by simp) 0 (by omega), Option.bind_some, echo_f K _ b2 (by simp) 0 (by omega), Option.bind_some, power_f W3 Wm4 (by decide) (by decide), Option.bind_some, bias_f K _ b3 (by simp) 1 1 (by decide) (by decide) (by omega), Option.bind_some, bias_f K _ b4 (by simp) 1 1 (by decide) (by decide) (by omega), Option.bind_some, bias_f K _ b5 (by simp) 1 1 (by decide) (by decide) (by omega), Option.bind_some, bias_f K _ b6 (by simp) 3 3 (by decide) (by decide) (by omega), Option.bind_some]
  dsimp only
  rw [W_order e1.1 Wm, W_order e1.2 W0, W_order e2.1 W0, W_order e2.2 Wm, W_order e3.1 W4, W_order e3.2 W0, W_order e4.1 W0, W_order e4.2 W0, W_order e5.1 W0, W_order e5.2 W3, Option.bind_some]
  have hl : ∀ z : List Bool, z = List.replicate 10 true → ((scrimlaw5_within.f a (z.length : Int)).bind fun t144 => (if 0 ≤ t144 then (if t144 < (z.length : Int) then (some (rdOf false z t144)) else (none)) else (none))) = some true := by
    rintro z rfl
    rw [List.length_replicate, within_f a _ (by decide) (by decide), Option.bind_some]
    have l1 := Int.emod_nonneg a (by decide : (10 : Int) ≠ 0)
    have l2 := Int.emod_lt_of_pos a (by decide : (0 : Int) < 10)
    show (if 0 ≤ a % 10 then (if a % 10 < 10 then _ else none) else none) = _
    rw [if_pos l1, if_pos l2]
    unfold rdOf
    rw [List.getD_eq_getElem?_getD, List.getElem?_replicate, if_pos (by omega)]
    rfl
  refine hl _ ?_
  decide +kernel

end Go.Proofs.Yteadclhlipcfpaa.Pure
