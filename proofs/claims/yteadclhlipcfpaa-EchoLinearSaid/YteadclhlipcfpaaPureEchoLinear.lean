/- EchoLinear: of a table whose numbers are sums (xor) each bias is all or nothing: the plain law over the functions' plain forms. Conditions: none beyond the statement's own bounds. -/
import Derived.Test.YteadclhlipcfpaaMEchoLinearx2
import Derived.Test.YteadclhlipcfpaaWalshPlain
namespace Go.Proofs.Yteadclhlipcfpaa.Pure
open Go.RowKit Go.Proofs.Yteadclhlipcfpaa.MEchoLinear Go.Proofs.YteadclhlipcfpaaW.PrintWords Go.Proofs.YteadclhlipcfpaaW.PrintLast Go.Proofs.YteadclhlipcfpaaW.PrintMore Go.Proofs.Yteadclhlipcfpaa.Plain Go.Proofs.Yteadclhlipcfpaa.Flo Go.Proofs.Yteadclhlipcfpaa.FloWords

/-! ### Turn, Power, Echo -/
theorem F1 : F 1 = 4607182418800017408 := by decide +kernel
theorem F0 : F 0 = 0 := by decide +kernel
theorem Fm : F (-1) = 13830554455654793216 := by decide +kernel
theorem turn_f (n : Int) : echo_Turn.f n = some (F (iR n), F (iI n)) := by
  unfold echo_Turn.f
  congr 1
  rcases i_cases n with ⟨h, r, i⟩ | ⟨h, r, i⟩ | ⟨h, r, i⟩ | ⟨h, r, i⟩ <;> rw [h, r, i] <;> decide +kernel
theorem W_turn (n : Int) : W (F (iR n)) (iR n) ∧ W (F (iI n)) (iI n) := by
  have h := i_range n
  have big : (2 : Nat) ^ 53 = 9007199254740992 := by decide
  exact ⟨W_F (by omega), W_F (by omega)⟩
theorem sq_nonneg (a : Int) : 0 ≤ a * a := by rw [← Int.natAbs_mul_self (a := a)]; exact Int.natCast_nonneg _
theorem power_f {x y : Nat} {a b : Int} (hx : W x a) (hy : W y b) (ha : a.natAbs ≤ 1000000) (hb : b.natAbs ≤ 1000000) : echo_Power.f (x, y) = some (a * a + b * b) := by
  have e1 := W_ires hx
  have e2 := W_ires hy
  unfold echo_Power.f
  dsimp only
  rw [if_pos e1.1, if_pos e2.1, e1.2, e2.2]
  have h1 : a * a ≤ 1000000000000 ∧ 0 ≤ a * a := by
    have : (a * a).natAbs ≤ 1000000 * 1000000 := by rw [Int.natAbs_mul]; exact Nat.mul_le_mul ha ha
    have := sq_nonneg a
    omega
  have h2 : b * b ≤ 1000000000000 ∧ 0 ≤ b * b := by
    have : (b * b).natAbs ≤ 1000000 * 1000000 := by rw [Int.natAbs_mul]; exact Nat.mul_le_mul hb hb
    have := sq_nonneg b
    omega
  rw [w_of (x := a * a) (by omega) (by omega), w_of (x := b * b) (by omega) (by omega), w_of (by omega) (by omega)]
theorem echo_arg (t : List Int) (a : Int) (i : Nat) (ht : Bytes t) : (wrap64 ((wrap64 (t.getD i 0)) - wrap64 ((Int.tmod a 4) * ((i : Int) % 4)))) % 4 = (t.getD i 0 - a * (i : Int)) % 4 := by
  have hb := bytes_getD ht i
  rw [w_mod4, w_of (x := t.getD i 0) (by omega) (by omega), Int.sub_emod, w_mod4, ← Int.sub_emod]
  have e : ((Int.tmod a 4) * ((i : Int) % 4)) % 4 = (a * (i : Int)) % 4 := by
    have e1 : (Int.tmod a 4) % 4 = a % 4 := by
      have := Int.tmod_eq_emod (a := a) (b := 4)
      split at this <;> omega
    rw [Int.mul_emod, e1, Int.emod_emod_of_dvd _ (Int.dvd_refl 4), ← Int.mul_emod]
  rw [Int.sub_emod, e, ← Int.sub_emod]
theorem echo_loop (t : List Int) (ht : Bytes t) (hl : t.length ≤ 1000000) (a : Int) (d : Nat) : ∀ (k i : Nat), i + d = t.length → d < k →
    echo_Echo.l0 k t a (F (SR t a i), F (SI t a i)) (i : Int) = some (F (SR t a t.length), F (SI t a t.length)) := by
  induction d with
  | zero =>
    intro k i hd hk
    obtain ⟨k, rfl⟩ : ∃ m, k = m + 1 := ⟨k - 1, by omega⟩
    unfold echo_Echo.l0
    rw [if_neg (by omega), show i = t.length by omega]
  | succ d ih =>
    intro k i hd hk
    obtain ⟨k, rfl⟩ : ∃ m, k = m + 1 := ⟨k - 1, by omega⟩
    have big : (2 : Nat) ^ 53 = 9007199254740992 := by decide
    have hs := S_range t a i
    have hm := echo_arg t a i ht
    have e1 := iR_mod _ _ hm
    have e2 := iI_mod _ _ hm
    have hr := i_range (t.getD i 0 - a * (i : Int))
    unfold echo_Echo.l0
    rw [if_pos (by omega), rd_nat, turn_f, Option.bind_some, e1, e2]
    dsimp only
    have hc := C_addF (a1 := SR t a i) (a2 := SI t a i) (b1 := iR (t.getD i 0 - a * (i : Int))) (b2 := iI (t.getD i 0 - a * (i : Int))) (by omega) (by omega) (by omega) (by omega) (by omega) (by omega)
    rw [if_pos hc.1, hc.2, w_succ (by omega)]
    exact ih k (i + 1) (by omega) (by omega)
theorem echo_f (k : Nat) (t : List Int) (ht : Bytes t) (hl : t.length ≤ 1000000) (a : Int) (hk : t.length < k) : echo_Echo.f k t a = some (F (SR t a t.length), F (SI t a t.length)) := by
  unfold echo_Echo.f
  have := echo_loop t ht hl a t.length k 0 (by omega) hk
  rw [show SR t a 0 = 0 from rfl, show SI t a 0 = 0 from rfl, F0] at this
  exact this
theorem W_echo (t : List Int) (hl : t.length ≤ 1000000) (a : Int) : W (F (SR t a t.length)) (SR t a t.length) ∧ W (F (SI t a t.length)) (SI t a t.length) := by
  have hs := S_range t a t.length
  have big : (2 : Nat) ^ 53 = 9007199254740992 := by decide
  exact ⟨W_F (by omega), W_F (by omega)⟩

/-! ### known -/
theorem W0 : W 0 0 := by have := W_F (v := 0) (by decide); rwa [F0] at this
theorem W1 : W 4607182418800017408 1 := by have := W_F (v := 1) (by decide); rwa [F1] at this
theorem known_f (k : Nat) (hk : 10 ≤ k) : scrimlaw5_known.f k = some true := by
  unfold scrimlaw5_known.f
  have b0 : Bytes [] := fun x hx => by simp at hx
  have b1 : Bytes [0] := fun x hx => by simp at hx; omega
  rw [turn_f, Option.bind_some, echo_f k [] b0 (by simp) 3 (by simp only [List.length_nil]; omega), Option.bind_some]
  have e1 := W_echo [] (by simp) 3
  have e2 := W_echo [0] (by simp) 1
  have e3 := W_turn 1
  dsimp only
  rw [W_order e1.1 W0, W_order e1.2 W0, W_order e3.1 W0, W_order e3.2 W1, if_pos (by decide), if_pos (by decide), if_pos (by decide), power_f e3.1 e3.2 (by decide) (by decide), Option.bind_some, if_pos (by decide), echo_f k [0] b1 (by simp) 1 (by simp only [List.length_cons, List.length_nil]; omega), Option.bind_some]
  dsimp only
  rw [W_order e2.1 W1, W_order e2.2 W0]
  decide

/-! ### Bias -/
theorem even_fin : ∀ x : Fin 256, echo_even.f (x.val : Int) = some (decide (parN 8 x.val = 1)) := by decide +kernel
theorem even_f (x : Nat) (h : x < 256) : echo_even.f (x : Int) = some (decide (parN 8 x = 1)) := even_fin ⟨x, h⟩
theorem and_lt {a b : Nat} (h : a < 256) : a &&& b < 256 := Nat.lt_of_le_of_lt Nat.and_le_left h
theorem even_and (x y : Int) (hx : 0 ≤ x ∧ x < 256) (hy : 0 ≤ y ∧ y < 256) : echo_even.f (Go.bits .and .u8 x y) = some (decide (chi 8 x.toNat y.toNat = 1)) := by
  rw [u8_and x y hx.1 hx.2 hy.1 hy.2, even_f _ (and_lt (by omega)), chi_par]
/-- What Bias adds up. -/
def bs (t : List Int) (a b : Nat) (n : Nat) : Int := sumN (fun x => chi 8 (x % 256) a * chi 8 (t.getD x 0).toNat b) n
theorem bs_succ (t : List Int) (a b n : Nat) : bs t a b (n + 1) = bs t a b n + chi 8 (n % 256) a * chi 8 (t.getD n 0).toNat b := rfl
theorem bs_or (t : List Int) (a b i : Nat) : chi 8 (i % 256) a * chi 8 (t.getD i 0).toNat b = 1 ∨ chi 8 (i % 256) a * chi 8 (t.getD i 0).toNat b = -1 := by
  rcases chi_or 8 (i % 256) a with h | h <;> rcases chi_or 8 (t.getD i 0).toNat b with g | g <;> rw [h, g] <;> decide
theorem bs_range (t : List Int) (a b n : Nat) : -(n : Int) ≤ bs t a b n ∧ bs t a b n ≤ n := by
  have h := sumN_le (f := fun x => chi 8 (x % 256) a * chi 8 (t.getD x 0).toNat b) (c := 1) (fun i => by
    rcases bs_or t a b i with h | h <;> rw [h] <;> decide) n
  unfold bs
  rw [Nat.one_mul] at h
  exact h
theorem bias_test (p q : Int) (hp : p = 1 ∨ p = -1) (hq : q = 1 ∨ q = -1) : ((decide (p = 1) == decide (q = 1)) = true ∧ p * q = 1) ∨ (¬ (decide (p = 1) == decide (q = 1)) = true ∧ p * q = -1) := by
  rcases hp with rfl | rfl <;> rcases hq with rfl | rfl <;> decide
theorem bias_loop (t : List Int) (ht : Bytes t) (hl : t.length ≤ 1000000) (a b : Int) (ha : 0 ≤ a ∧ a < 256) (hb : 0 ≤ b ∧ b < 256) (d : Nat) : ∀ (k i : Nat), i + d = t.length → d < k →
    echo_Bias.l0 k a b (bs t a.toNat b.toNat i) t (t.length : Int) (i : Int) = some (bs t a.toNat b.toNat t.length) := by
  induction d with
  | zero =>
    intro k i hd hk
    obtain ⟨k, rfl⟩ : ∃ m, k = m + 1 := ⟨k - 1, by omega⟩
    unfold echo_Bias.l0
    rw [if_neg (by omega), show i = t.length by omega]
  | succ d ih =>
    intro k i hd hk
    obtain ⟨k, rfl⟩ : ∃ m, k = m + 1 := ⟨k - 1, by omega⟩
    have hr := bs_range t a.toNat b.toNat i
    have hg := bytes_getD ht i
    unfold echo_Bias.l0
    rw [if_pos (by omega), if_pos (by omega), if_pos (by omega), rd_nat, even_and ((i : Int) % 256) a (by omega) ha, Option.bind_some, even_and _ b hg hb, Option.bind_some, show ((i : Int) % 256).toNat = i % 256 from by omega, w_succ (by omega)]
    rcases bias_test _ _ (chi_or 8 (i % 256) a.toNat) (chi_or 8 (t.getD i 0).toNat b.toNat) with ⟨h, g⟩ | ⟨h, g⟩
    · rw [if_pos h, w_of (by omega) (by omega), ← g, ← bs_succ]
      exact ih k (i + 1) (by omega) (by omega)
    · rw [if_neg h, w_of (by omega) (by omega), show bs t a.toNat b.toNat i - 1 = bs t a.toNat b.toNat i + -1 from rfl, ← g, ← bs_succ]
      exact ih k (i + 1) (by omega) (by omega)
theorem bias_f (k : Nat) (t : List Int) (ht : Bytes t) (hl : t.length ≤ 1000000) (a b : Int) (ha : 0 ≤ a ∧ a < 256) (hb : 0 ≤ b ∧ b < 256) (hk : t.length < k) : echo_Bias.f k t a b = some (bs t a.toNat b.toNat t.length) :=
  bias_loop t ht hl a b ha hb t.length k 0 (by omega) hk

/-! ### the reference: odd and Bias -/
theorem odd_fin : ∀ x : Fin 256, scrimref5_odd.f 10 (x.val : Int) = some (!decide (parN 8 x.val = 1)) := by decide +kernel
theorem odd_up (x : Int) (b : Bool) (h : scrimref5_odd.f 10 x = some b) (d : Nat) : scrimref5_odd.f (10 + d) x = some b := by
  induction d with
  | zero => exact h
  | succ d ih => exact scrimref5_odd.mono x (10 + d) b ih
theorem odd_f (k : Nat) (hk : 10 ≤ k) (x : Nat) (h : x < 256) : scrimref5_odd.f k (x : Int) = some (!decide (parN 8 x = 1)) := by
  obtain ⟨d, rfl⟩ : ∃ d, k = 10 + d := ⟨k - 10, by omega⟩
  exact odd_up x _ (odd_fin ⟨x, h⟩) d
theorem odd_and (k : Nat) (hk : 10 ≤ k) (x y : Int) (hx : 0 ≤ x ∧ x < 256) (hy : 0 ≤ y ∧ y < 256) : scrimref5_odd.f k (Go.bits .and .u8 x y) = some (!decide (chi 8 x.toNat y.toNat = 1)) := by
  rw [u8_and x y hx.1 hx.2 hy.1 hy.2, odd_f k hk _ (and_lt (by omega)), chi_par]
theorem bias_test' (p q : Int) (hp : p = 1 ∨ p = -1) (hq : q = 1 ∨ q = -1) : (((!decide (p = 1)) == !decide (q = 1)) = true ∧ p * q = 1) ∨ (¬ ((!decide (p = 1)) == !decide (q = 1)) = true ∧ p * q = -1) := by
  rcases hp with rfl | rfl <;> rcases hq with rfl | rfl <;> decide
theorem rbias_loop (t : List Int) (ht : Bytes t) (hl : t.length ≤ 1000000) (a b : Int) (ha : 0 ≤ a ∧ a < 256) (hb : 0 ≤ b ∧ b < 256) (d : Nat) : ∀ (k i : Nat), i + d = t.length → d + 10 < k →
    scrimref5_Bias.l0 k t a b (bs t a.toNat b.toNat i) (i : Int) = some (bs t a.toNat b.toNat t.length) := by
  induction d with
  | zero =>
    intro k i hd hk
    obtain ⟨k, rfl⟩ : ∃ m, k = m + 1 := ⟨k - 1, by omega⟩
    unfold scrimref5_Bias.l0
    rw [if_neg (by omega), show i = t.length by omega]
  | succ d ih =>
    intro k i hd hk
    obtain ⟨k, rfl⟩ : ∃ m, k = m + 1 := ⟨k - 1, by omega⟩
    have hr := bs_range t a.toNat b.toNat i
    have hg := bytes_getD ht i
    unfold scrimref5_Bias.l0
    rw [if_pos (by omega), odd_and k (by omega) ((i : Int) % 256) a (by omega) ha, Option.bind_some, if_pos (by omega), rd_nat, odd_and k (by omega) _ b hg hb, Option.bind_some, show ((i : Int) % 256).toNat = i % 256 from by omega, w_succ (by omega)]
    rcases bias_test' _ _ (chi_or 8 (i % 256) a.toNat) (chi_or 8 (t.getD i 0).toNat b.toNat) with ⟨h, g⟩ | ⟨h, g⟩
    · rw [if_pos h, w_of (by omega) (by omega), ← g, ← bs_succ]
      exact ih k (i + 1) (by omega) (by omega)
    · rw [if_neg h, w_of (by omega) (by omega), show bs t a.toNat b.toNat i - 1 = bs t a.toNat b.toNat i + -1 from rfl, ← g, ← bs_succ]
      exact ih k (i + 1) (by omega) (by omega)
theorem rbias_f (k : Nat) (t : List Int) (ht : Bytes t) (hl : t.length ≤ 1000000) (a b : Int) (ha : 0 ≤ a ∧ a < 256) (hb : 0 ≤ b ∧ b < 256) (hk : t.length + 10 < k) : scrimref5_Bias.f k t a b = some (bs t a.toNat b.toNat t.length) :=
  rbias_loop t ht hl a b ha hb t.length k 0 (by omega) hk

/-! ### the law -/
theorem getD_set (l : List Int) (i j : Nat) (v : Int) : (l.set i v).getD j 0 = if i = j ∧ i < l.length then v else l.getD j 0 := by
  rw [List.getD_eq_getElem?_getD, List.getD_eq_getElem?_getD, List.getElem?_set]
  by_cases h : i = j
  · subst h
    by_cases h2 : i < l.length
    · simp [h2]
    · simp [h2]
  · simp [h]
theorem bytes_set {b : List Int} (h : Bytes b) (i : Nat) {v : Int} (hv : 0 ≤ v ∧ v < 256) : Bytes (b.set i v) := by
  intro x hx
  rcases List.mem_or_eq_of_mem_set hx with h' | h'
  · exact h x h'
  · exact h' ▸ hv
/-- The sum of the rows whose bits are set, of the first n. -/
def lin (r : List Int) (i : Nat) : Nat → Nat
  | 0 => 0
  | n + 1 => lin r i n ^^^ (if i.testBit n = true then (r.getD n 0).toNat else 0)
theorem lin_succ (r : List Int) (i n : Nat) : lin r i (n + 1) = lin r i n ^^^ (if i.testBit n = true then (r.getD n 0).toNat else 0) := rfl
theorem lin_lt (r : List Int) (hr : Bytes r) (i n : Nat) : lin r i n < 256 := by
  induction n with
  | zero => show 0 < 256; decide
  | succ n ih =>
    rw [lin_succ]
    have h := bytes_getD hr n
    have := Nat.xor_lt_two_pow (n := 8) (x := lin r i n) (y := if i.testBit n = true then (r.getD n 0).toNat else 0) ih (by
      split
      · have : (r.getD n 0).toNat < 256 := by omega
        exact this
      · decide)
    exact this
theorem pr_last (k : Nat) (c : Nat → Int) (i : Nat) : pr (k + 1) c i = pr k c i * (if i.testBit k = true then c k else 1) := by
  induction k generalizing c i with
  | zero =>
    show (if i % 2 = 1 then c 0 else 1) * 1 = 1 * _
    rw [Int.mul_one, Int.one_mul, Nat.testBit_zero]
    simp
  | succ k ih =>
    show (if i % 2 = 1 then c 0 else 1) * pr (k + 1) (fun j => c (j + 1)) (i / 2) = (if i % 2 = 1 then c 0 else 1) * pr k (fun j => c (j + 1)) (i / 2) * _
    rw [ih, Nat.testBit_succ, Int.mul_assoc]
theorem chi_lin (r : List Int) (i y n : Nat) : chi 8 (lin r i n) y = pr n (fun k => chi 8 (r.getD k 0).toNat y) i := by
  induction n with
  | zero => exact chi_zero 8 y
  | succ n ih =>
    rw [pr_last, lin_succ, chi_comm, chi_xor, chi_comm 8 y, chi_comm 8 y, ih]
    congr 1
    by_cases h : i.testBit n = true
    · rw [if_pos h, if_pos h]
    · rw [if_neg h, if_neg h, chi_zero]
theorem bs_linear (r t : List Int) (x y : Nat) (ht : ∀ i, i < 256 → t.getD i 0 = ((lin r i 8 : Nat) : Int)) : bs t x y 256 = 0 ∨ bs t x y 256 = 256 := by
  have e : bs t x y 256 = sumN (pr 8 (fun j => (if x.testBit j = true then -1 else 1) * chi 8 (r.getD j 0).toNat y)) 256 := by
    refine sumN_congr _ fun i hi => ?_
    rw [pr_mul, ht i hi, Int.toNat_natCast, chi_lin, Nat.mod_eq_of_lt hi, chi_comm 8 i x, pr_chi]
  rw [e]
  exact pr_sum 8 _ fun j => by
    rcases chi_or 8 (r.getD j 0).toNat y with h | h
    · rw [h]; split <;> simp
    · rw [h]; split <;> simp
theorem bit_fin : ∀ i : Fin 256, ∀ k : Fin 8, decide (Go.bits .and .i64 (shr .i64 (i.val : Int) (IntKind.u64.wrap (k.val : Int))) 1 = 1) = i.val.testBit k.val := by decide +kernel
theorem bit_at (i k : Nat) (hi : i < 256) (hk : k < 8) : (Go.bits .and .i64 (shr .i64 (i : Int) (IntKind.u64.wrap (k : Int))) 1 = 1) ↔ i.testBit k = true := by
  rw [← bit_fin ⟨i, hi⟩ ⟨k, hk⟩, decide_eq_true_iff]
theorem u64_small (k : Nat) (hk : k < 8) : IntKind.u64.wrap (k : Int) = (k : Int) := by
  simp [IntKind.wrap, IntKind.bits, IntKind.signed]; omega
theorem lin_end (k : Nat) (hk : 1000 ≤ k) (t r : List Int) (hl : t.length = 256) (hr : Bytes r) (ht : ∀ i, i < 256 → t.getD i 0 = ((lin r i 8 : Nat) : Int)) (x y : Int) (hx : 0 ≤ x ∧ x < 256) (hy : 0 ≤ y ∧ y < 256) :
    scrimlaw5_EchoLinear.l1 (k + 1) x y r t 256 = some true := by
  have hB : Bytes t := by
    intro v hv
    obtain ⟨i, hi, rfl⟩ := List.mem_iff_getElem.1 hv
    have h := ht i (by omega)
    rw [getD_lt hi] at h
    have := lin_lt r hr i 8
    omega
  unfold scrimlaw5_EchoLinear.l1
  have fb := bias_f k t hB (by omega) x y hx hy (by omega)
  have fr := rbias_f k t hB (by omega) x y hx hy (by omega)
  rw [hl] at fb fr
  rw [if_neg (by decide), fb, Option.bind_some]
  rcases bs_linear r t x.toNat y.toNat ht with h | h
  · rw [if_pos h, fr, Option.bind_some]; simp
  · rw [if_neg (by omega), if_pos h, fr, Option.bind_some]; simp
theorem lin_l2 (r : List Int) (hr : Bytes r) (hr8 : r.length = 8) (x y : Int) (i : Nat) (hi : i < 256) (d : Nat) : ∀ (kk k n : Nat) (t : List Int), n + d = 8 → d + kk + 1 ≤ k → t.length = 256 →
    (∀ j, j < i → t.getD j 0 = ((lin r j 8 : Nat) : Int)) → t.getD i 0 = ((lin r i n : Nat) : Int) → (∀ j, i < j → j < 256 → t.getD j 0 = 0) →
    (∀ (k' : Nat) (t' : List Int), kk ≤ k' → t'.length = 256 → (∀ j, j < i + 1 → t'.getD j 0 = ((lin r j 8 : Nat) : Int)) → (∀ j, i < j → j < 256 → t'.getD j 0 = 0) → scrimlaw5_EchoLinear.l1 k' x y r t' ((i + 1 : Nat) : Int) = some true) →
    scrimlaw5_EchoLinear.l2 k x y r t (i : Int) (n : Int) = some true := by
  induction d with
  | zero =>
    intro kk k n t hn hk hl h1 h2 h3 next
    obtain ⟨k, rfl⟩ : ∃ m, k = m + 1 := ⟨k - 1, by omega⟩
    obtain rfl : n = 8 := by omega
    conv => lhs; unfold scrimlaw5_EchoLinear.l2
    rw [if_neg (by omega), w_succ (by omega)]
    refine next k t (by omega) hl (fun j hj => ?_) h3
    by_cases hji : j = i
    · rw [hji]; exact h2
    · exact h1 j (by omega)
  | succ d ih =>
    intro kk k n t hn hk hl h1 h2 h3 next
    obtain ⟨k, rfl⟩ : ∃ m, k = m + 1 := ⟨k - 1, by omega⟩
    have hb := bit_at i n hi (by omega)
    have hu := u64_small n (by omega)
    conv => lhs; unfold scrimlaw5_EchoLinear.l2
    by_cases hbit : i.testBit n = true
    · have hb' := hb.2 hbit
      rw [if_pos (by omega), if_pos (by rw [hu]; omega), if_pos hb', if_pos (by omega), if_pos (by omega), if_pos (by omega), if_pos (by omega), w_succ (by omega), rd_nat, rd_nat, Int.toNat_natCast, h2]
      have hl2 := lin_lt r hr i n
      have hg := bytes_getD hr n
      have e : Go.bits .xor .u8 ((lin r i n : Nat) : Int) (r.getD n 0) = ((lin r i (n + 1) : Nat) : Int) := by
        rw [u8_xor _ _ (by omega) (by omega) hg.1 hg.2, lin_succ, if_pos hbit, Int.toNat_natCast]
      rw [e]
      refine ih kk k (n + 1) _ (by omega) (by omega) (by simpa using hl) (fun j hj => ?_) ?_ (fun j hj hj2 => ?_) next
      · rw [getD_set, if_neg (by omega)]; exact h1 j hj
      · rw [getD_set, if_pos ⟨rfl, by omega⟩]
      · rw [getD_set, if_neg (by omega)]; exact h3 j hj hj2
    · have hb' := fun h => hbit (hb.1 h)
      rw [if_pos (by omega), if_pos (by rw [hu]; omega), if_neg hb', w_succ (by omega)]
      refine ih kk k (n + 1) t (by omega) (by omega) hl h1 ?_ h3 next
      rw [lin_succ, if_neg hbit, Nat.xor_zero]; exact h2
theorem lin_l1 (r : List Int) (hr : Bytes r) (hr8 : r.length = 8) (x y : Int) (hx : 0 ≤ x ∧ x < 256) (hy : 0 ≤ y ∧ y < 256) (c : Nat) (hc : 1001 ≤ c) (d : Nat) : ∀ (k i : Nat) (t : List Int), i + d = 256 → 10 * d + c ≤ k → t.length = 256 →
    (∀ j, j < i → t.getD j 0 = ((lin r j 8 : Nat) : Int)) → (∀ j, i ≤ j → j < 256 → t.getD j 0 = 0) → scrimlaw5_EchoLinear.l1 k x y r t (i : Int) = some true := by
  induction d with
  | zero =>
    intro k i t hi hk hl h1 h3
    obtain ⟨k, rfl⟩ : ∃ m, k = m + 1 := ⟨k - 1, by omega⟩
    obtain rfl : i = 256 := by omega
    exact lin_end k (by omega) t r hl hr h1 x y hx hy
  | succ d ih =>
    intro k i t hi hk hl h1 h3
    obtain ⟨k, rfl⟩ : ∃ m, k = m + 1 := ⟨k - 1, by omega⟩
    conv => lhs; unfold scrimlaw5_EchoLinear.l1
    rw [if_pos (by omega)]
    refine lin_l2 r hr hr8 x y i (by omega) 8 (10 * d + c) k 0 t rfl (by omega) hl h1 (h3 i (by omega) (by omega)) (fun j hj hj2 => h3 j (by omega) hj2) fun k' t' hk' hl' h1' h3' => ?_
    exact ih k' (i + 1) t' (by omega) hk' hl' h1' (fun j hj hj2 => h3' j (by omega) hj2)
theorem lj1_f (k : Nat) (x y : Int) (r : List Int) : scrimlaw5_EchoLinear.j1 (k + 1) x y r = (if 256 ≤ 281474976710656 then (scrimlaw5_EchoLinear.l1 k x y r (List.replicate 256 0) 0) else (none)) := rfl
theorem lin_j1 (r : List Int) (hr : Bytes r) (hr8 : r.length = 8) (x y : Int) (hx : 0 ≤ x ∧ x < 256) (hy : 0 ≤ y ∧ y < 256) (k : Nat) (hk : 4000 ≤ k) : scrimlaw5_EchoLinear.j1 k x y r = some true := by
  obtain ⟨k, rfl⟩ : ∃ m, k = m + 1 := ⟨k - 1, by omega⟩
  rw [lj1_f, if_pos (by omega)]
  refine lin_l1 r hr hr8 x y hx hy 1001 (Nat.le_refl _) 256 k 0 _ rfl (by omega) List.length_replicate (fun j hj => by omega) (fun j _ hj => ?_)
  rw [List.getD_eq_getElem?_getD, List.getElem?_replicate, if_pos hj]; rfl
theorem lin_l0 (b : List Int) (hb : Bytes b) (x y : Int) (hx : 0 ≤ x ∧ x < 256) (hy : 0 ≤ y ∧ y < 256) (d : Nat) : ∀ (k i : Nat) (r : List Int), i + d = 8 → d + 4001 ≤ k → r.length = 8 → Bytes r → scrimlaw5_EchoLinear.l0 k b x y r (i : Int) = some true := by
  induction d with
  | zero =>
    intro k i r hi hk hl hr
    obtain ⟨k, rfl⟩ : ∃ m, k = m + 1 := ⟨k - 1, by omega⟩
    conv => lhs; unfold scrimlaw5_EchoLinear.l0
    rw [if_neg (by omega)]
    exact lin_j1 r hr hl x y hx hy k (by omega)
  | succ d ih =>
    intro k i r hi hk hl hr
    obtain ⟨k, rfl⟩ : ∃ m, k = m + 1 := ⟨k - 1, by omega⟩
    conv => lhs; unfold scrimlaw5_EchoLinear.l0
    rw [if_pos (by omega)]
    by_cases h : (i : Int) < (b.length : Int)
    · rw [if_pos h, if_pos (by omega), if_pos (by omega), rd_nat, w_succ (by omega)]
      exact ih k (i + 1) _ (by omega) (by omega) (by simpa using hl) (bytes_set hr _ (bytes_getD hb i))
    · rw [if_neg h]
      exact lin_j1 r hr hl x y hx hy k (by omega)
theorem EchoLinear : scrimlaw5_EchoLinear.Pure := by
  intro b x y _ _ hb hx hy
  obtain ⟨K, hK⟩ : ∃ K : Nat, 5000 ≤ K := ⟨_, Nat.le_refl _⟩
  refine ⟨K, ?_⟩
  unfold scrimlaw5_EchoLinear.f
  rw [known_f K (by omega), Option.bind_some, if_pos rfl]
  refine lin_l0 b (fun q hq => wf_u8 (hb q hq)) x y (wf_u8 hx) (wf_u8 hy) 8 K 0 _ (by omega) (by omega) (by simp) (fun v hv => ?_)
  have := (List.mem_replicate.1 hv).2
  omega

end Go.Proofs.Yteadclhlipcfpaa.Pure
