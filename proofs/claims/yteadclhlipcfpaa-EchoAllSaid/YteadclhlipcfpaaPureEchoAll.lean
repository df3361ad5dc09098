/- EchoAll: what is turned, added up, its Power, its bias, are the reference's: the plain law over the functions' plain forms. Conditions: none beyond the statement's own bounds. -/
import Derived.Test.YteadclhlipcfpaaMEchoAllx3
import Derived.Test.YteadclhlipcfpaaWalshPlain
namespace Go.Proofs.Yteadclhlipcfpaa.Pure
open Go.RowKit Go.Proofs.Yteadclhlipcfpaa.MEchoAll Go.Proofs.YteadclhlipcfpaaW.PrintWords Go.Proofs.YteadclhlipcfpaaW.PrintLast Go.Proofs.YteadclhlipcfpaaW.PrintMore Go.Proofs.Yteadclhlipcfpaa.Plain Go.Proofs.Yteadclhlipcfpaa.Flo Go.Proofs.Yteadclhlipcfpaa.FloWords

/-! ### Turn, Power, Echo -/
theorem F1 : F 1 = 4607182418800017408 := by decide +kernel
theorem F0 : F 0 = 0 := by decide +kernel
theorem Fm : F (-1) = 13830554455654793216 := by decide +kernel
theorem turn_f (n : Int) : echo_Turn.f n = some (F (iR n), F (iI n)) := by
  unfold echo_Turn.f
  congr 1
  rcases i_cases n with ⟨h, r, i⟩ | ⟨h, r, i⟩ | ⟨h, r, i⟩ | ⟨h, r, i⟩ <;> rw [h, r, i] <;> decide +kernel
theorem W_turn (n : Int) : W (F (iR n)) (iR n) ∧ W (F (iI n)) (iI n) := by
  have h := i_range n
  have big : (2 : Nat) ^ 53 = 9007199254740992 := by decide
  exact ⟨W_F (by omega), W_F (by omega)⟩
theorem sq_nonneg (a : Int) : 0 ≤ a * a := by rw [← Int.natAbs_mul_self (a := a)]; exact Int.natCast_nonneg _
theorem power_f {x y : Nat} {a b : Int} (hx : W x a) (hy : W y b) (ha : a.natAbs ≤ 1000000) (hb : b.natAbs ≤ 1000000) : echo_Power.f (x, y) = some (a * a + b * b) := by
  have e1 := W_ires hx
  have e2 := W_ires hy
  unfold echo_Power.f
  dsimp only
  rw [if_pos e1.1, if_pos e2.1, e1.2, e2.2]
  have h1 : a * a ≤ 1000000000000 ∧ 0 ≤ a * a := by
    have : (a * a).natAbs ≤ 1000000 * 1000000 := by rw [Int.natAbs_mul]; exact Nat.mul_le_mul ha ha
    have := sq_nonneg a
    omega
  have h2 : b * b ≤ 1000000000000 ∧ 0 ≤ b * b := by
    have : (b * b).natAbs ≤ 1000000 * 1000000 := by rw [Int.natAbs_mul]; exact Nat.mul_le_mul hb hb
    have := sq_nonneg b
    omega
  rw [w_of (x := a * a) (by omega) (by omega), w_of (x := b * b) (by omega) (by omega), w_of (by omega) (by omega)]
theorem echo_arg (t : List Int) (a : Int) (i : Nat) (ht : Bytes t) : (wrap64 ((wrap64 (t.getD i 0)) - wrap64 ((Int.tmod a 4) * ((i : Int) % 4)))) % 4 = (t.getD i 0 - a * (i : Int)) % 4 := by
  have hb := bytes_getD ht i
  rw [w_mod4, w_of (x := t.getD i 0) (by omega) (by omega), Int.sub_emod, w_mod4, ← Int.sub_emod]
  have e : ((Int.tmod a 4) * ((i : Int) % 4)) % 4 = (a * (i : Int)) % 4 := by
    have e1 : (Int.tmod a 4) % 4 = a % 4 := by
      have := Int.tmod_eq_emod (a := a) (b := 4)
      split at this <;> omega
    rw [Int.mul_emod, e1, Int.emod_emod_of_dvd _ (Int.dvd_refl 4), ← Int.mul_emod]
  rw [Int.sub_emod, e, ← Int.sub_emod]
theorem echo_loop (t : List Int) (ht : Bytes t) (hl : t.length ≤ 1000000) (a : Int) (d : Nat) : ∀ (k i : Nat), i + d = t.length → d < k →
    echo_Echo.l0 k t a (F (SR t a i), F (SI t a i)) (i : Int) = some (F (SR t a t.length), F (SI t a t.length)) := by
  induction d with
  | zero =>
    intro k i hd hk
    obtain ⟨k, rfl⟩ : ∃ m, k = m + 1 := ⟨k - 1, by omega⟩
    unfold echo_Echo.l0
    rw [if_neg (by omega), show i = t.length by omega]
  | succ d ih =>
    intro k i hd hk
    obtain ⟨k, rfl⟩ : ∃ m, k = m + 1 := ⟨k - 1, by omega⟩
    have big : (2 : Nat) ^ 53 = 9007199254740992 := by decide
    have hs := S_range t a i
    have hm := echo_arg t a i ht
    have e1 := iR_mod _ _ hm
    have e2 := iI_mod _ _ hm
    have hr := i_range (t.getD i 0 - a * (i : Int))
    unfold echo_Echo.l0
    rw [if_pos (by omega), rd_nat, turn_f, Option.bind_some, e1, e2]
    dsimp only
    have hc := C_addF (a1 := SR t a i) (a2 := SI t a i) (b1 := iR (t.getD i 0 - a * (i : Int))) (b2 := iI (t.getD i 0 - a * (i : Int))) (by omega) (by omega) (by omega) (by omega) (by omega) (by omega)
    rw [if_pos hc.1, hc.2, w_succ (by omega)]
    exact ih k (i + 1) (by omega) (by omega)
theorem echo_f (k : Nat) (t : List Int) (ht : Bytes t) (hl : t.length ≤ 1000000) (a : Int) (hk : t.length < k) : echo_Echo.f k t a = some (F (SR t a t.length), F (SI t a t.length)) := by
  unfold echo_Echo.f
  have := echo_loop t ht hl a t.length k 0 (by omega) hk
  rw [show SR t a 0 = 0 from rfl, show SI t a 0 = 0 from rfl, F0] at this
  exact this
theorem W_echo (t : List Int) (hl : t.length ≤ 1000000) (a : Int) : W (F (SR t a t.length)) (SR t a t.length) ∧ W (F (SI t a t.length)) (SI t a t.length) := by
  have hs := S_range t a t.length
  have big : (2 : Nat) ^ 53 = 9007199254740992 := by decide
  exact ⟨W_F (by omega), W_F (by omega)⟩

/-! ### known -/
theorem W0 : W 0 0 := by have := W_F (v := 0) (by decide); rwa [F0] at this
theorem W1 : W 4607182418800017408 1 := by have := W_F (v := 1) (by decide); rwa [F1] at this
theorem known_f (k : Nat) (hk : 10 ≤ k) : scrimlaw5_known.f k = some true := by
  unfold scrimlaw5_known.f
  have b0 : Bytes [] := fun x hx => by simp at hx
  have b1 : Bytes [0] := fun x hx => by simp at hx; omega
  rw [turn_f, Option.bind_some, echo_f k [] b0 (by simp) 3 (by simp only [List.length_nil]; omega), Option.bind_some]
  have e1 := W_echo [] (by simp) 3
  have e2 := W_echo [0] (by simp) 1
  have e3 := W_turn 1
  dsimp only
  rw [W_order e1.1 W0, W_order e1.2 W0, W_order e3.1 W0, W_order e3.2 W1, if_pos (by decide), if_pos (by decide), if_pos (by decide), power_f e3.1 e3.2 (by decide) (by decide), Option.bind_some, if_pos (by decide), echo_f k [0] b1 (by simp) 1 (by simp only [List.length_cons, List.length_nil]; omega), Option.bind_some]
  dsimp only
  rw [W_order e2.1 W1, W_order e2.2 W0]
  decide

/-! ### Bias -/
theorem even_fin : ∀ x : Fin 256, echo_even.f (x.val : Int) = some (decide (parN 8 x.val = 1)) := by decide +kernel
theorem even_f (x : Nat) (h : x < 256) : echo_even.f (x : Int) = some (decide (parN 8 x = 1)) := even_fin ⟨x, h⟩
theorem and_lt {a b : Nat} (h : a < 256) : a &&& b < 256 := Nat.lt_of_le_of_lt Nat.and_le_left h
theorem even_and (x y : Int) (hx : 0 ≤ x ∧ x < 256) (hy : 0 ≤ y ∧ y < 256) : echo_even.f (Go.bits .and .u8 x y) = some (decide (chi 8 x.toNat y.toNat = 1)) := by
  rw [u8_and x y hx.1 hx.2 hy.1 hy.2, even_f _ (and_lt (by omega)), chi_par]
/-- What Bias adds up. -/
def bs (t : List Int) (a b : Nat) (n : Nat) : Int := sumN (fun x => chi 8 (x % 256) a * chi 8 (t.getD x 0).toNat b) n
theorem bs_succ (t : List Int) (a b n : Nat) : bs t a b (n + 1) = bs t a b n + chi 8 (n % 256) a * chi 8 (t.getD n 0).toNat b := rfl
theorem bs_or (t : List Int) (a b i : Nat) : chi 8 (i % 256) a * chi 8 (t.getD i 0).toNat b = 1 ∨ chi 8 (i % 256) a * chi 8 (t.getD i 0).toNat b = -1 := by
  rcases chi_or 8 (i % 256) a with h | h <;> rcases chi_or 8 (t.getD i 0).toNat b with g | g <;> rw [h, g] <;> decide
theorem bs_range (t : List Int) (a b n : Nat) : -(n : Int) ≤ bs t a b n ∧ bs t a b n ≤ n := by
  have h := sumN_le (f := fun x => chi 8 (x % 256) a * chi 8 (t.getD x 0).toNat b) (c := 1) (fun i => by
    rcases bs_or t a b i with h | h <;> rw [h] <;> decide) n
  unfold bs
  rw [Nat.one_mul] at h
  exact h
theorem bias_test (p q : Int) (hp : p = 1 ∨ p = -1) (hq : q = 1 ∨ q = -1) : ((decide (p = 1) == decide (q = 1)) = true ∧ p * q = 1) ∨ (¬ (decide (p = 1) == decide (q = 1)) = true ∧ p * q = -1) := by
  rcases hp with rfl | rfl <;> rcases hq with rfl | rfl <;> decide
theorem bias_loop (t : List Int) (ht : Bytes t) (hl : t.length ≤ 1000000) (a b : Int) (ha : 0 ≤ a ∧ a < 256) (hb : 0 ≤ b ∧ b < 256) (d : Nat) : ∀ (k i : Nat), i + d = t.length → d < k →
    echo_Bias.l0 k a b (bs t a.toNat b.toNat i) t (t.length : Int) (i : Int) = some (bs t a.toNat b.toNat t.length) := by
  induction d with
  | zero =>
    intro k i hd hk
    obtain ⟨k, rfl⟩ : ∃ m, k = m + 1 := ⟨k - 1, by omega⟩
    unfold echo_Bias.l0
    rw [if_neg (by omega), show i = t.length by omega]
  | succ d ih =>
    intro k i hd hk
    obtain ⟨k, rfl⟩ : ∃ m, k = m + 1 := ⟨k - 1, by omega⟩
    have hr := bs_range t a.toNat b.toNat i
    have hg := bytes_getD ht i
    unfold echo_Bias.l0
    rw [if_pos (by omega), if_pos (by omega), if_pos (by omega), rd_nat, even_and ((i : Int) % 256) a (by omega) ha, Option.bind_some, even_and _ b hg hb, Option.bind_some, show ((i : Int) % 256).toNat = i % 256 from by omega, w_succ (by omega)]
    rcases bias_test _ _ (chi_or 8 (i % 256) a.toNat) (chi_or 8 (t.getD i 0).toNat b.toNat) with ⟨h, g⟩ | ⟨h, g⟩
    · rw [if_pos h, w_of (by omega) (by omega), ← g, ← bs_succ]
      exact ih k (i + 1) (by omega) (by omega)
    · rw [if_neg h, w_of (by omega) (by omega), show bs t a.toNat b.toNat i - 1 = bs t a.toNat b.toNat i + -1 from rfl, ← g, ← bs_succ]
      exact ih k (i + 1) (by omega) (by omega)
theorem bias_f (k : Nat) (t : List Int) (ht : Bytes t) (hl : t.length ≤ 1000000) (a b : Int) (ha : 0 ≤ a ∧ a < 256) (hb : 0 ≤ b ∧ b < 256) (hk : t.length < k) : echo_Bias.f k t a b = some (bs t a.toNat b.toNat t.length) :=
  bias_loop t ht hl a b ha hb t.length k 0 (by omega) hk

/-! ### the reference -/
theorem whole_f (n : Int) : scrimref5_whole.f n = some (iR n, iI n) := by
  unfold scrimref5_whole.f
  rw [turn_rest]
  rcases i_cases n with ⟨h, r, i⟩ | ⟨h, r, i⟩ | ⟨h, r, i⟩ | ⟨h, r, i⟩ <;> rw [h, r, i] <;> rfl
theorem float_fin : ∀ v : Fin 1301, floatOfInt .f64 ((v.val : Int) - 650) = F ((v.val : Int) - 650) := by decide +kernel
theorem float_F (v : Int) (h0 : -650 ≤ v) (h1 : v ≤ 650) : floatOfInt .f64 v = F v := by
  have := float_fin ⟨(v + 650).toNat, by omega⟩
  rwa [show (((v + 650).toNat : Nat) : Int) - 650 = v from by omega] at this
theorem rturn_f (n : Int) : scrimref5_Turn.f n = some (F (iR n), F (iI n)) := by
  unfold scrimref5_Turn.f
  have h := i_range n
  rw [whole_f, Option.bind_some]
  dsimp only
  rw [float_F _ (by omega) (by omega), float_F _ (by omega) (by omega)]
theorem recho_loop (t : List Int) (ht : Bytes t) (hl : t.length ≤ 600) (a : Int) (d : Nat) : ∀ (k i : Nat), i + d = t.length → d < k →
    scrimref5_Echo.l0 k t (a % 4) (SR t a i) (SI t a i) (i : Int) = some (F (SR t a t.length), F (SI t a t.length)) := by
  induction d with
  | zero =>
    intro k i hd hk
    obtain ⟨k, rfl⟩ : ∃ m, k = m + 1 := ⟨k - 1, by omega⟩
    have hs := S_range t a i
    unfold scrimref5_Echo.l0
    rw [if_neg (by omega), float_F _ (by omega) (by omega), float_F _ (by omega) (by omega), show i = t.length by omega]
  | succ d ih =>
    intro k i hd hk
    obtain ⟨k, rfl⟩ : ∃ m, k = m + 1 := ⟨k - 1, by omega⟩
    have hs := S_range t a i
    have hb := bytes_getD ht i
    have hm : (wrap64 ((wrap64 (t.getD i 0)) - wrap64 ((a % 4) * (i : Int)))) % 4 = (t.getD i 0 - a * (i : Int)) % 4 := by
      rw [w_mod4, w_of (x := t.getD i 0) (by omega) (by omega), Int.sub_emod, w_mod4, ← Int.sub_emod]
      have e : (a % 4 * (i : Int)) % 4 = (a * (i : Int)) % 4 := by
        rw [Int.mul_emod, Int.emod_emod_of_dvd _ (Int.dvd_refl 4), ← Int.mul_emod]
      rw [Int.sub_emod, e, ← Int.sub_emod]
    have e1 := iR_mod _ _ hm
    have e2 := iI_mod _ _ hm
    have hr := i_range (t.getD i 0 - a * (i : Int))
    unfold scrimref5_Echo.l0
    rw [if_pos (by omega), if_pos (by omega), rd_nat, whole_f, Option.bind_some, e1, e2]
    dsimp only
    rw [w_of (x := SR t a i + _) (by omega) (by omega), w_of (x := SI t a i + _) (by omega) (by omega), w_succ (by omega)]
    exact ih k (i + 1) (by omega) (by omega)
theorem recho_f (k : Nat) (t : List Int) (ht : Bytes t) (hl : t.length ≤ 600) (a : Int) (hk : t.length < k) : scrimref5_Echo.f k t a = some (F (SR t a t.length), F (SI t a t.length)) := by
  unfold scrimref5_Echo.f
  rw [turn_rest]
  exact recho_loop t ht hl a t.length k 0 (by omega) hk
theorem nought_f (v : Int) (h : v.natAbs < 2 ^ 53) : scrimlaw5_nought.f (F v) = some 0 := by
  by_cases h0 : v = 0
  · subst h0; decide +kernel
  · unfold scrimlaw5_nought.f
    rw [if_neg]
    rw [W_order (W_F h) W0]
    simpa using h0
theorem same_f (a b : Int) (ha : a.natAbs < 2 ^ 53) (hb : b.natAbs < 2 ^ 53) : scrimlaw5_same.f (F a, F b) (F a, F b) = some true := by
  unfold scrimlaw5_same.f
  dsimp only
  rw [W_order (W_F ha) (W_F ha), W_order (W_F hb) (W_F hb), if_pos (by simp), nought_f a ha, Option.bind_some, Option.bind_some, if_pos rfl, nought_f b hb, Option.bind_some, Option.bind_some]
  rfl
theorem rpower (p : Nat × Nat) : scrimref5_Power.f p = echo_Power.f p := rfl
theorem odd_fin : ∀ x : Fin 256, scrimref5_odd.f 10 (x.val : Int) = some (!decide (parN 8 x.val = 1)) := by decide +kernel
theorem odd_up (x : Int) (b : Bool) (h : scrimref5_odd.f 10 x = some b) (d : Nat) : scrimref5_odd.f (10 + d) x = some b := by
  induction d with
  | zero => exact h
  | succ d ih => exact scrimref5_odd.mono x (10 + d) b ih
theorem odd_f (k : Nat) (hk : 10 ≤ k) (x : Nat) (h : x < 256) : scrimref5_odd.f k (x : Int) = some (!decide (parN 8 x = 1)) := by
  obtain ⟨d, rfl⟩ : ∃ d, k = 10 + d := ⟨k - 10, by omega⟩
  exact odd_up x _ (odd_fin ⟨x, h⟩) d
theorem odd_and (k : Nat) (hk : 10 ≤ k) (x y : Int) (hx : 0 ≤ x ∧ x < 256) (hy : 0 ≤ y ∧ y < 256) : scrimref5_odd.f k (Go.bits .and .u8 x y) = some (!decide (chi 8 x.toNat y.toNat = 1)) := by
  rw [u8_and x y hx.1 hx.2 hy.1 hy.2, odd_f k hk _ (and_lt (by omega)), chi_par]
theorem bias_test' (p q : Int) (hp : p = 1 ∨ p = -1) (hq : q = 1 ∨ q = -1) : (((!decide (p = 1)) == !decide (q = 1)) = true ∧ p * q = 1) ∨ (¬ ((!decide (p = 1)) == !decide (q = 1)) = true ∧ p * q = -1) := by
  rcases hp with rfl | rfl <;> rcases hq with rfl | rfl <;> decide
theorem rbias_loop (t : List Int) (ht : Bytes t) (hl : t.length ≤ 1000000) (a b : Int) (ha : 0 ≤ a ∧ a < 256) (hb : 0 ≤ b ∧ b < 256) (d : Nat) : ∀ (k i : Nat), i + d = t.length → d + 10 < k →
    scrimref5_Bias.l0 k t a b (bs t a.toNat b.toNat i) (i : Int) = some (bs t a.toNat b.toNat t.length) := by
  induction d with
  | zero =>
    intro k i hd hk
    obtain ⟨k, rfl⟩ : ∃ m, k = m + 1 := ⟨k - 1, by omega⟩
    unfold scrimref5_Bias.l0
    rw [if_neg (by omega), show i = t.length by omega]
  | succ d ih =>
    intro k i hd hk
    obtain ⟨k, rfl⟩ : ∃ m, k = m + 1 := ⟨k - 1, by omega⟩
    have hr := bs_range t a.toNat b.toNat i
    have hg := bytes_getD ht i
    unfold scrimref5_Bias.l0
    rw [if_pos (by omega), odd_and k (by omega) ((i : Int) % 256) a (by omega) ha, Option.bind_some, if_pos (by omega), rd_nat, odd_and k (by omega) _ b hg hb, Option.bind_some, show ((i : Int) % 256).toNat = i % 256 from by omega, w_succ (by omega)]
    rcases bias_test' _ _ (chi_or 8 (i % 256) a.toNat) (chi_or 8 (t.getD i 0).toNat b.toNat) with ⟨h, g⟩ | ⟨h, g⟩
    · rw [if_pos h, w_of (by omega) (by omega), ← g, ← bs_succ]
      exact ih k (i + 1) (by omega) (by omega)
    · rw [if_neg h, w_of (by omega) (by omega), show bs t a.toNat b.toNat i - 1 = bs t a.toNat b.toNat i + -1 from rfl, ← g, ← bs_succ]
      exact ih k (i + 1) (by omega) (by omega)
theorem rbias_f (k : Nat) (t : List Int) (ht : Bytes t) (hl : t.length ≤ 1000000) (a b : Int) (ha : 0 ≤ a ∧ a < 256) (hb : 0 ≤ b ∧ b < 256) (hk : t.length + 10 < k) : scrimref5_Bias.f k t a b = some (bs t a.toNat b.toNat t.length) :=
  rbias_loop t ht hl a b ha hb t.length k 0 (by omega) hk

/-! ### the law -/
theorem all_loop (t l : List Int) (ht : Bytes t) (hl : t.length ≤ 600) (hl2 : l.length ≤ 1000) (x y : Int) (hx : 0 ≤ x ∧ x < 256) (hy : 0 ≤ y ∧ y < 256) (d : Nat) : ∀ (k i : Nat), i + d = l.length → d + 2000 < k →
    scrimlaw5_EchoAll.l0 k t x y l (i : Int) = some true := by
  induction d with
  | zero =>
    intro k i hd hk
    obtain ⟨k, rfl⟩ : ∃ m, k = m + 1 := ⟨k - 1, by omega⟩
    unfold scrimlaw5_EchoAll.l0
    rw [if_neg (by omega), bias_f k t ht (by omega) x y hx hy (by omega), Option.bind_some, rbias_f k t ht (by omega) x y hx hy (by omega), Option.bind_some]
    simp
  | succ d ih =>
    intro k i hd hk
    obtain ⟨k, rfl⟩ : ∃ m, k = m + 1 := ⟨k - 1, by omega⟩
    have big : (2 : Nat) ^ 53 = 9007199254740992 := by decide
    unfold scrimlaw5_EchoAll.l0
    generalize rd l (i : Int) = a
    have hs := S_range t a t.length
    have hr := i_range a
    have e := W_echo t (by omega) a
    rw [if_pos (by omega), if_pos (by omega), echo_f k t ht (by omega) a (by omega), Option.bind_some, turn_f, Option.bind_some, rturn_f, Option.bind_some, same_f _ _ (by omega) (by omega), Option.bind_some, if_pos rfl, recho_f k t ht (by omega) a (by omega), Option.bind_some, same_f _ _ (by omega) (by omega), Option.bind_some, if_pos rfl, rpower, power_f e.1 e.2 (by omega) (by omega), Option.bind_some, Option.bind_some, if_pos rfl, w_succ (by omega)]
    exact ih k (i + 1) (by omega) (by omega)
theorem EchoAll : scrimlaw5_EchoAll.Pure := by
  intro t a n x y _ _ ht _ _ hx hy
  obtain ⟨K, hK⟩ : ∃ K : Nat, 3000 ≤ K := ⟨_, Nat.le_refl _⟩
  refine ⟨K, ?_⟩
  unfold scrimlaw5_EchoAll.f
  rw [known_f K (by omega), Option.bind_some, if_pos rfl]
  by_cases hl : (t.length : Int) > 600
  · rw [if_pos hl]
  · rw [if_neg hl]
    exact all_loop t _ (fun q hq => wf_u8 (ht q hq)) (by omega) (by simp) x y (wf_u8 hx) (wf_u8 hy) 9 K 0 rfl (by omega)

end Go.Proofs.Yteadclhlipcfpaa.Pure
