/- EchoSquares: the Powers of the four together are four times those of the sums over the places of one rest by 4: the plain law over the functions' plain forms. Conditions: none beyond the statement's own bounds. -/
import Derived.Test.YteadclhlipcfpaaMEchoSquaresx1
import Derived.Test.YteadclhlipcfpaaEchoPlain
namespace Go.Proofs.Yteadclhlipcfpaa.Pure
open Go.RowKit Go.Proofs.Yteadclhlipcfpaa.MEchoSquares Go.Proofs.YteadclhlipcfpaaW.PrintWords Go.Proofs.YteadclhlipcfpaaW.PrintLast Go.Proofs.YteadclhlipcfpaaW.PrintMore Go.Proofs.Yteadclhlipcfpaa.Plain Go.Proofs.Yteadclhlipcfpaa.Flo Go.Proofs.Yteadclhlipcfpaa.FloWords

/-! ### Turn, Power, Echo -/
theorem F1 : F 1 = 4607182418800017408 := by decide +kernel
theorem F0 : F 0 = 0 := by decide +kernel
theorem Fm : F (-1) = 13830554455654793216 := by decide +kernel
theorem turn_f (n : Int) : echo_Turn.f n = some (F (iR n), F (iI n)) := by
  unfold echo_Turn.f
  congr 1
  rcases i_cases n with ⟨h, r, i⟩ | ⟨h, r, i⟩ | ⟨h, r, i⟩ | ⟨h, r, i⟩ <;> rw [h, r, i] <;> decide +kernel
theorem W_turn (n : Int) : W (F (iR n)) (iR n) ∧ W (F (iI n)) (iI n) := by
  have h := i_range n
  have big : (2 : Nat) ^ 53 = 9007199254740992 := by decide
  exact ⟨W_F (by omega), W_F (by omega)⟩
theorem sq_nonneg (a : Int) : 0 ≤ a * a := by rw [← Int.natAbs_mul_self (a := a)]; exact Int.natCast_nonneg _
theorem power_f {x y : Nat} {a b : Int} (hx : W x a) (hy : W y b) (ha : a.natAbs ≤ 1000000) (hb : b.natAbs ≤ 1000000) : echo_Power.f (x, y) = some (a * a + b * b) := by
  have e1 := W_ires hx
  have e2 := W_ires hy
  unfold echo_Power.f
  dsimp only
  rw [if_pos e1.1, if_pos e2.1, e1.2, e2.2]
  have h1 : a * a ≤ 1000000000000 ∧ 0 ≤ a * a := by
    have : (a * a).natAbs ≤ 1000000 * 1000000 := by rw [Int.natAbs_mul]; exact Nat.mul_le_mul ha ha
    have := sq_nonneg a
    omega
  have h2 : b * b ≤ 1000000000000 ∧ 0 ≤ b * b := by
    have : (b * b).natAbs ≤ 1000000 * 1000000 := by rw [Int.natAbs_mul]; exact Nat.mul_le_mul hb hb
    have := sq_nonneg b
    omega
  rw [w_of (x := a * a) (by omega) (by omega), w_of (x := b * b) (by omega) (by omega), w_of (by omega) (by omega)]
theorem echo_arg (t : List Int) (a : Int) (i : Nat) (ht : Bytes t) : (wrap64 ((wrap64 (t.getD i 0)) - wrap64 ((Int.tmod a 4) * ((i : Int) % 4)))) % 4 = (t.getD i 0 - a * (i : Int)) % 4 := by
  have hb := bytes_getD ht i
  rw [w_mod4, w_of (x := t.getD i 0) (by omega) (by omega), Int.sub_emod, w_mod4, ← Int.sub_emod]
  have e : ((Int.tmod a 4) * ((i : Int) % 4)) % 4 = (a * (i : Int)) % 4 := by
    have e1 : (Int.tmod a 4) % 4 = a % 4 := by
      have := Int.tmod_eq_emod (a := a) (b := 4)
      split at this <;> omega
    rw [Int.mul_emod, e1, Int.emod_emod_of_dvd _ (Int.dvd_refl 4), ← Int.mul_emod]
  rw [Int.sub_emod, e, ← Int.sub_emod]
theorem echo_loop (t : List Int) (ht : Bytes t) (hl : t.length ≤ 1000000) (a : Int) (d : Nat) : ∀ (k i : Nat), i + d = t.length → d < k →
    echo_Echo.l0 k t a (F (SR t a i), F (SI t a i)) (i : Int) = some (F (SR t a t.length), F (SI t a t.length)) := by
  induction d with
  | zero =>
    intro k i hd hk
    obtain ⟨k, rfl⟩ : ∃ m, k = m + 1 := ⟨k - 1, by omega⟩
    unfold echo_Echo.l0
    rw [if_neg (by omega), show i = t.length by omega]
  | succ d ih =>
    intro k i hd hk
    obtain ⟨k, rfl⟩ : ∃ m, k = m + 1 := ⟨k - 1, by omega⟩
    have big : (2 : Nat) ^ 53 = 9007199254740992 := by decide
    have hs := S_range t a i
    have hm := echo_arg t a i ht
    have e1 := iR_mod _ _ hm
    have e2 := iI_mod _ _ hm
    have hr := i_range (t.getD i 0 - a * (i : Int))
    unfold echo_Echo.l0
    rw [if_pos (by omega), rd_nat, turn_f, Option.bind_some, e1, e2]
    dsimp only
    have hc := C_addF (a1 := SR t a i) (a2 := SI t a i) (b1 := iR (t.getD i 0 - a * (i : Int))) (b2 := iI (t.getD i 0 - a * (i : Int))) (by omega) (by omega) (by omega) (by omega) (by omega) (by omega)
    rw [if_pos hc.1, hc.2, w_succ (by omega)]
    exact ih k (i + 1) (by omega) (by omega)
theorem echo_f (k : Nat) (t : List Int) (ht : Bytes t) (hl : t.length ≤ 1000000) (a : Int) (hk : t.length < k) : echo_Echo.f k t a = some (F (SR t a t.length), F (SI t a t.length)) := by
  unfold echo_Echo.f
  have := echo_loop t ht hl a t.length k 0 (by omega) hk
  rw [show SR t a 0 = 0 from rfl, show SI t a 0 = 0 from rfl, F0] at this
  exact this
theorem W_echo (t : List Int) (hl : t.length ≤ 1000000) (a : Int) : W (F (SR t a t.length)) (SR t a t.length) ∧ W (F (SI t a t.length)) (SI t a t.length) := by
  have hs := S_range t a t.length
  have big : (2 : Nat) ^ 53 = 9007199254740992 := by decide
  exact ⟨W_F (by omega), W_F (by omega)⟩

/-! ### known -/
theorem W0 : W 0 0 := by have := W_F (v := 0) (by decide); rwa [F0] at this
theorem W1 : W 4607182418800017408 1 := by have := W_F (v := 1) (by decide); rwa [F1] at this
theorem known_f (k : Nat) (hk : 10 ≤ k) : scrimlaw5_known.f k = some true := by
  unfold scrimlaw5_known.f
  have b0 : Bytes [] := fun x hx => by simp at hx
  have b1 : Bytes [0] := fun x hx => by simp at hx; omega
  rw [turn_f, Option.bind_some, echo_f k [] b0 (by simp) 3 (by simp only [List.length_nil]; omega), Option.bind_some]
  have e1 := W_echo [] (by simp) 3
  have e2 := W_echo [0] (by simp) 1
  have e3 := W_turn 1
  dsimp only
  rw [W_order e1.1 W0, W_order e1.2 W0, W_order e3.1 W0, W_order e3.2 W1, if_pos (by decide), if_pos (by decide), if_pos (by decide), power_f e3.1 e3.2 (by decide) (by decide), Option.bind_some, if_pos (by decide), echo_f k [0] b1 (by simp) 1 (by simp only [List.length_cons, List.length_nil]; omega), Option.bind_some]
  dsimp only
  rw [W_order e2.1 W1, W_order e2.2 W0]
  decide

/-! ### the law -/
def pR (t : List Int) (r : Nat) (n : Nat) : Int := sumN (fun x => if x % 4 = r then iR (t.getD x 0) else 0) n
def pI (t : List Int) (r : Nat) (n : Nat) : Int := sumN (fun x => if x % 4 = r then iI (t.getD x 0) else 0) n
theorem p_range (t : List Int) (r n : Nat) : -(n : Int) ≤ pR t r n ∧ pR t r n ≤ n ∧ -(n : Int) ≤ pI t r n ∧ pI t r n ≤ n := by
  have h1 := sumN_le (f := fun x => if x % 4 = r then iR (t.getD x 0) else 0) (c := 1) (fun i => by have := i_range (t.getD i 0); split <;> omega) n
  have h2 := sumN_le (f := fun x => if x % 4 = r then iI (t.getD x 0) else 0) (c := 1) (fun i => by have := i_range (t.getD i 0); split <;> omega) n
  unfold pR pI
  rw [Nat.one_mul] at h1 h2
  omega
theorem pR_succ (t : List Int) (r n : Nat) : pR t r (n + 1) = pR t r n + if n % 4 = r then iR (t.getD n 0) else 0 := rfl
theorem pI_succ (t : List Int) (r n : Nat) : pI t r (n + 1) = pI t r n + if n % 4 = r then iI (t.getD n 0) else 0 := rfl
theorem p_four (t : List Int) (r n : Nat) (h : n % 4 = r) : pR t r (n + 4) = pR t r n + iR (t.getD n 0) ∧ pI t r (n + 4) = pI t r n + iI (t.getD n 0) := by
  constructor
  · rw [show n + 4 = n + 1 + 1 + 1 + 1 from rfl, pR_succ, pR_succ, pR_succ, pR_succ, if_pos h, if_neg (by omega), if_neg (by omega), if_neg (by omega)]; omega
  · rw [show n + 4 = n + 1 + 1 + 1 + 1 from rfl, pI_succ, pI_succ, pI_succ, pI_succ, if_pos h, if_neg (by omega), if_neg (by omega), if_neg (by omega)]; omega
theorem p_start (t : List Int) (r : Nat) (h : r < 4) : pR t r r = 0 ∧ pI t r r = 0 := by
  have : r = 0 ∨ r = 1 ∨ r = 2 ∨ r = 3 := by omega
  rcases this with rfl | rfl | rfl | rfl <;> exact ⟨rfl, rfl⟩
theorem p_skip (t : List Int) (r n : Nat) (d : Nat) (h : ∀ j, j < d → (n + j) % 4 ≠ r) : pR t r (n + d) = pR t r n ∧ pI t r (n + d) = pI t r n := by
  induction d with
  | zero => exact ⟨rfl, rfl⟩
  | succ d ih =>
    have i := ih fun j hj => h j (by omega)
    rw [← Nat.add_assoc, pR_succ, pI_succ, if_neg (h d (by omega)), if_neg (h d (by omega)), i.1, i.2]
    omega
theorem i_minus (t : Int) : iR (t - 1) = iI t ∧ iI (t - 1) = -iR t ∧ iR (t - 2) = -iR t ∧ iI (t - 2) = -iI t ∧ iR (t - 3) = -iI t ∧ iI (t - 3) = iR t := by
  rcases i_cases t with ⟨h, r, i⟩ | ⟨h, r, i⟩ | ⟨h, r, i⟩ | ⟨h, r, i⟩ <;>
  (unfold iR iI at *
   simp only [show ∀ c : Int, (t - c) % 4 = ((t % 4) - c) % 4 from fun c => by omega, h]
   decide)
theorem S_parts (t : List Int) (n : Nat) :
    (SR t 0 n = pR t 0 n + pR t 1 n + pR t 2 n + pR t 3 n ∧ SI t 0 n = pI t 0 n + pI t 1 n + pI t 2 n + pI t 3 n) ∧
    (SR t 1 n = pR t 0 n + pI t 1 n - pR t 2 n - pI t 3 n ∧ SI t 1 n = pI t 0 n - pR t 1 n - pI t 2 n + pR t 3 n) ∧
    (SR t 2 n = pR t 0 n - pR t 1 n + pR t 2 n - pR t 3 n ∧ SI t 2 n = pI t 0 n - pI t 1 n + pI t 2 n - pI t 3 n) ∧
    (SR t 3 n = pR t 0 n - pI t 1 n - pR t 2 n + pI t 3 n ∧ SI t 3 n = pI t 0 n + pR t 1 n - pI t 2 n - pR t 3 n) := by
  induction n with
  | zero => simp [SR, SI, pR, pI, sumN]
  | succ n ih =>
    obtain ⟨⟨a0, b0⟩, ⟨a1, b1⟩, ⟨a2, b2⟩, ⟨a3, b3⟩⟩ := ih
    have sR : ∀ a, SR t a (n + 1) = SR t a n + iR (t.getD n 0 - a * (n : Int)) := fun a => rfl
    have sI : ∀ a, SI t a (n + 1) = SI t a n + iI (t.getD n 0 - a * (n : Int)) := fun a => rfl
    have m := i_minus (t.getD n 0)
    simp only [sR, sI, pR_succ, pI_succ, a0, b0, a1, b1, a2, b2, a3, b3]
    clear a0 b0 a1 b1 a2 b2 a3 b3 sR sI
    generalize t.getD n 0 = v at m
    have hn : n % 4 = 0 ∨ n % 4 = 1 ∨ n % 4 = 2 ∨ n % 4 = 3 := by omega
    have q : ∀ (a c : Int), (v - a * (n : Int)) % 4 = (v - c) % 4 → iR (v - a * (n : Int)) = iR (v - c) ∧ iI (v - a * (n : Int)) = iI (v - c) := fun a c h => ⟨iR_mod _ _ h, iI_mod _ _ h⟩
    have z : iR (v - 0) = iR v ∧ iI (v - 0) = iI v := by rw [Int.sub_zero]; exact ⟨rfl, rfl⟩
    rcases hn with h | h | h | h
    · have q0 := q 0 0 (by omega)
      have q1 := q 1 0 (by omega)
      have q2 := q 2 0 (by omega)
      have q3 := q 3 0 (by omega)
      simp only [h, q0.1, q0.2, q1.1, q1.2, q2.1, q2.2, q3.1, q3.2, z.1, z.2]
      simp only [if_true, if_false, (by decide : ¬ (0 : Nat) = 1), (by decide : ¬ (0 : Nat) = 2), (by decide : ¬ (0 : Nat) = 3)]
      omega
    · have q0 := q 0 0 (by omega)
      have q1 := q 1 1 (by omega)
      have q2 := q 2 2 (by omega)
      have q3 := q 3 3 (by omega)
      simp only [h, q0.1, q0.2, q1.1, q1.2, q2.1, q2.2, q3.1, q3.2, z.1, z.2, m.1, m.2.1, m.2.2.1, m.2.2.2.1, m.2.2.2.2.1, m.2.2.2.2.2]
      simp only [if_true, if_false, (by decide : ¬ (1 : Nat) = 0), (by decide : ¬ (1 : Nat) = 2), (by decide : ¬ (1 : Nat) = 3)]
      omega
    · have q0 := q 0 0 (by omega)
      have q1 := q 1 2 (by omega)
      have q2 := q 2 0 (by omega)
      have q3 := q 3 2 (by omega)
      simp only [h, q0.1, q0.2, q1.1, q1.2, q2.1, q2.2, q3.1, q3.2, z.1, z.2, m.2.2.1, m.2.2.2.1]
      simp only [if_true, if_false, (by decide : ¬ (2 : Nat) = 0), (by decide : ¬ (2 : Nat) = 1), (by decide : ¬ (2 : Nat) = 3)]
      omega
    · have q0 := q 0 0 (by omega)
      have q1 := q 1 3 (by omega)
      have q2 := q 2 2 (by omega)
      have q3 := q 3 1 (by omega)
      simp only [h, q0.1, q0.2, q1.1, q1.2, q2.1, q2.2, q3.1, q3.2, z.1, z.2, m.1, m.2.1, m.2.2.1, m.2.2.2.1, m.2.2.2.2.1, m.2.2.2.2.2]
      simp only [if_true, if_false, (by decide : ¬ (3 : Nat) = 0), (by decide : ¬ (3 : Nat) = 1), (by decide : ¬ (3 : Nat) = 2)]
      omega
theorem squares (p0 p1 p2 p3 q0 q1 q2 q3 : Int) : (p0+p1+p2+p3)*(p0+p1+p2+p3) + (q0+q1+q2+q3)*(q0+q1+q2+q3) + ((p0+q1-p2-q3)*(p0+q1-p2-q3) + (q0-p1-q2+p3)*(q0-p1-q2+p3)) + ((p0-p1+p2-p3)*(p0-p1+p2-p3) + (q0-q1+q2-q3)*(q0-q1+q2-q3)) + ((p0-q1-p2+q3)*(p0-q1-p2+q3) + (q0+p1-q2-p3)*(q0+p1-q2-p3)) = 4 * (p0*p0+q0*q0+(p1*p1+q1*q1)+(p2*p2+q2*q2)+(p3*p3+q3*q3)) := by grind
def PP (t : List Int) (r : Nat) : Int := pR t r t.length * pR t r t.length + pI t r t.length * pI t r t.length
def EE (t : List Int) (a : Int) : Int := SR t a t.length * SR t a t.length + SI t a t.length * SI t a t.length
theorem sq_le {a : Int} (h : a.natAbs ≤ 1000) : 0 ≤ a * a ∧ a * a ≤ 1000000 := by
  have : (a * a).natAbs ≤ 1000 * 1000 := by rw [Int.natAbs_mul]; exact Nat.mul_le_mul h h
  have := sq_nonneg a
  omega
theorem PP_range (t : List Int) (hl : t.length ≤ 1000) (r : Nat) : 0 ≤ PP t r ∧ PP t r ≤ 2000000 := by
  have h := p_range t r t.length
  have h1 := sq_le (a := pR t r t.length) (by omega)
  have h2 := sq_le (a := pI t r t.length) (by omega)
  unfold PP; omega
theorem EE_range (t : List Int) (hl : t.length ≤ 1000) (a : Int) : 0 ≤ EE t a ∧ EE t a ≤ 2000000 := by
  have h := S_range t a t.length
  have h1 := sq_le (a := SR t a t.length) (by omega)
  have h2 := sq_le (a := SI t a t.length) (by omega)
  unfold EE; omega
theorem sl2_f (k : Nat) (x0 : List Int) (x3 x5 x6 : Int) (x7 : Nat × Nat) (x8 : Int) : scrimlaw5_EchoSquares.l2 (k + 1) x0 x3 x5 x6 x7 x8 = if x8 < (x0.length : Int) then (if 0 ≤ x8 then ((echo_Turn.f (wrap64 (rd x0 x8))).bind fun t112 => (if (cop .add x7.1 x7.2 t112.1 t112.2).isSome = true then (scrimlaw5_EchoSquares.l2 k x0 x3 x5 x6 (cres .add x7.1 x7.2 t112.1 t112.2) (wrap64 (x8 + 4))) else (none))) else (none)) else ((echo_Power.f x7).bind fun t113 => (scrimlaw5_EchoSquares.l1 k x0 x3 (wrap64 (x5 + t113)) (wrap64 (x6 + 1)))) := by
  conv => lhs; unfold scrimlaw5_EchoSquares.l2
theorem sl1_f (k : Nat) (x0 : List Int) (x3 x5 x6 : Int) : scrimlaw5_EchoSquares.l1 (k + 1) x0 x3 x5 x6 = if x6 < 4 then (scrimlaw5_EchoSquares.l2 k x0 x3 x5 x6 (0, 0) x6) else (some (x3 == (wrap64 (4 * x5)))) := by
  conv => lhs; unfold scrimlaw5_EchoSquares.l1
theorem sl0_f (k : Nat) (x0 : List Int) (x3 x4 : Int) : scrimlaw5_EchoSquares.l0 (k + 1) x0 x3 x4 = if x4 < 4 then ((echo_Echo.f k x0 x4).bind fun t109 => ((echo_Power.f t109).bind fun t110 => (scrimlaw5_EchoSquares.l0 k x0 (wrap64 (x3 + t110)) (wrap64 (x4 + 1))))) else (scrimlaw5_EchoSquares.l1 k x0 x3 0 0) := by
  conv => lhs; unfold scrimlaw5_EchoSquares.l0
theorem w_four (x : Nat) (h : x ≤ 100000000) : wrap64 ((x : Int) + 4) = ((x + 4 : Nat) : Int) := by unfold wrap64; omega
theorem w_one (x : Nat) (h : x ≤ 100000000) : wrap64 ((x : Int) + 1) = ((x + 1 : Nat) : Int) := by unfold wrap64; omega
theorem sq_l2 (t : List Int) (ht : Bytes t) (hl : t.length ≤ 1000) (x3 x5 : Int) (h5 : 0 ≤ x5 ∧ x5 ≤ 100000000) (r : Nat) (hr : r < 4) (kk : Nat) (h : ∀ k, kk ≤ k → scrimlaw5_EchoSquares.l1 k t x3 (x5 + PP t r) ((r + 1 : Nat) : Int) = some true) (d : Nat) :
    ∀ (k x : Nat), t.length + 4 ≤ x + d → kk + 1 + d ≤ k → x % 4 = r → x < t.length + 4 → scrimlaw5_EchoSquares.l2 k t x3 x5 (r : Int) (F (pR t r x), F (pI t r x)) (x : Int) = some true := by
  induction d with
  | zero => intro k x hd hk hx hx2; omega
  | succ d ih =>
    intro k x hd hk hx hx2
    obtain ⟨k, rfl⟩ : ∃ m, k = m + 1 := ⟨k - 1, by omega⟩
    have big : (2 : Nat) ^ 53 = 9007199254740992 := by decide
    have hp := p_range t r x
    rw [sl2_f]
    by_cases hx3 : x < t.length
    · have hb := bytes_getD ht x
      have hi := i_range (t.getD x 0)
      have hc := C_addF (a1 := pR t r x) (a2 := pI t r x) (b1 := iR (t.getD x 0)) (b2 := iI (t.getD x 0)) (by omega) (by omega) (by omega) (by omega) (by omega) (by omega)
      have p4 := p_four t r x hx
      rw [if_pos (by omega), if_pos (by omega), rd_nat, w_of (x := t.getD x 0) (by omega) (by omega), turn_f, Option.bind_some]
      dsimp only
      rw [if_pos hc.1, hc.2, w_four x (by omega), ← p4.1, ← p4.2]
      exact ih k (x + 4) (by omega) (by omega) (by omega) (by omega)
    · have hs := p_skip t r t.length (x - t.length) (fun j hj => by omega)
      rw [show t.length + (x - t.length) = x by omega] at hs
      have hpp := PP_range t hl r
      rw [if_neg (by omega), power_f (W_F (v := pR t r x) (by omega)) (W_F (v := pI t r x) (by omega)) (by omega) (by omega), Option.bind_some, hs.1, hs.2]
      rw [w_one r (by omega), show pR t r t.length * pR t r t.length + pI t r t.length * pI t r t.length = PP t r from rfl, w_of (x := x5 + PP t r) (by omega) (by omega)]
      exact h k (by omega)
theorem sq_l1 (t : List Int) (ht : Bytes t) (hl : t.length ≤ 1000) (x3 x5 : Int) (h5 : 0 ≤ x5 ∧ x5 ≤ 100000000) (r : Nat) (hr : r < 4) (kk : Nat) (h : ∀ k, kk ≤ k → scrimlaw5_EchoSquares.l1 k t x3 (x5 + PP t r) ((r + 1 : Nat) : Int) = some true) :
    ∀ k, kk + 1010 ≤ k → scrimlaw5_EchoSquares.l1 k t x3 x5 (r : Int) = some true := by
  intro k hk
  obtain ⟨k, rfl⟩ : ∃ m, k = m + 1 := ⟨k - 1, by omega⟩
  have ps := p_start t r hr
  have := sq_l2 t ht hl x3 x5 h5 r hr kk h 1005 k r (by omega) (by omega) (by omega) (by omega)
  rw [ps.1, ps.2, F0] at this
  rw [sl1_f, if_pos (by omega)]
  exact this
theorem sq_l0 (t : List Int) (ht : Bytes t) (hl : t.length ≤ 1000) (k : Nat) (x3 : Int) (h3 : 0 ≤ x3 ∧ x3 ≤ 100000000) (a : Nat) (ha : a < 4) (hk : 1001 ≤ k) :
    scrimlaw5_EchoSquares.l0 (k + 1) t x3 (a : Int) = scrimlaw5_EchoSquares.l0 k t (x3 + EE t (a : Int)) ((a + 1 : Nat) : Int) := by
  have hs := S_range t (a : Int) t.length
  have he := EE_range t hl (a : Int)
  have w := W_echo t (by omega) (a : Int)
  rw [sl0_f, if_pos (by omega), echo_f k t ht (by omega) _ (by omega), Option.bind_some, power_f w.1 w.2 (by omega) (by omega), Option.bind_some]
  rw [w_one a (by omega), show SR t (a : Int) t.length * SR t (a : Int) t.length + SI t (a : Int) t.length * SI t (a : Int) t.length = EE t (a : Int) from rfl, w_of (x := x3 + EE t (a : Int)) (by omega) (by omega)]
theorem EchoSquares : scrimlaw5_EchoSquares.Pure := by
  intro t _ _ htw
  obtain ⟨K, hK⟩ : ∃ K : Nat, 10000 ≤ K := ⟨_, Nat.le_refl _⟩
  refine ⟨K, ?_⟩
  have ht : Bytes t := fun x hx => wf_u8 (htw x hx)
  unfold scrimlaw5_EchoSquares.f
  rw [known_f K (by omega), Option.bind_some, if_pos rfl]
  by_cases hlen : (t.length : Int) > 1000
  · rw [if_pos hlen]
  rw [if_neg hlen]
  have hl : t.length ≤ 1000 := by omega
  obtain ⟨K, rfl⟩ : ∃ m, K = m + 5 := ⟨K - 5, by omega⟩
  have r0 := EE_range t hl 0
  have r1 := EE_range t hl 1
  have r2 := EE_range t hl 2
  have r3 := EE_range t hl 3
  have s0 := PP_range t hl 0
  have s1 := PP_range t hl 1
  have s2 := PP_range t hl 2
  have s3 := PP_range t hl 3
  have u0 := sq_l0 t ht hl (K + 4) 0 (by omega) 0 (by omega) (by omega)
  have u1 := sq_l0 t ht hl (K + 3) (0 + EE t 0) (by omega) 1 (by omega) (by omega)
  have u2 := sq_l0 t ht hl (K + 2) (0 + EE t 0 + EE t 1) (by omega) 2 (by omega) (by omega)
  have u3 := sq_l0 t ht hl (K + 1) (0 + EE t 0 + EE t 1 + EE t 2) (by omega) 3 (by omega) (by omega)
  have fin : 0 + EE t 0 + EE t 1 + EE t 2 + EE t 3 = 4 * (0 + PP t 0 + PP t 1 + PP t 2 + PP t 3) := by
    obtain ⟨⟨a0, b0⟩, ⟨a1, b1⟩, ⟨a2, b2⟩, ⟨a3, b3⟩⟩ := S_parts t t.length
    have := squares (pR t 0 t.length) (pR t 1 t.length) (pR t 2 t.length) (pR t 3 t.length) (pI t 0 t.length) (pI t 1 t.length) (pI t 2 t.length) (pI t 3 t.length)
    unfold EE PP
    rw [a0, b0, a1, b1, a2, b2, a3, b3]
    omega
  refine u0.trans (u1.trans (u2.trans (u3.trans ?_)))
  generalize EE t 0 = e0 at *
  generalize EE t 1 = e1 at *
  generalize EE t 2 = e2 at *
  generalize EE t 3 = e3 at *
  show scrimlaw5_EchoSquares.l0 (K + 1) t (0 + e0 + e1 + e2 + e3) 4 = some true
  rw [sl0_f, if_neg (by decide)]
  have last : ∀ k, 1 ≤ k → scrimlaw5_EchoSquares.l1 k t (0 + e0 + e1 + e2 + e3) (0 + PP t 0 + PP t 1 + PP t 2 + PP t 3) ((3 + 1 : Nat) : Int) = some true := by
    intro k hk
    obtain ⟨k, rfl⟩ : ∃ m, k = m + 1 := ⟨k - 1, by omega⟩
    rw [sl1_f, if_neg (by decide), w_of (by omega) (by omega), fin]
    simp
  have l3 := sq_l1 t ht hl (0 + e0 + e1 + e2 + e3) (0 + PP t 0 + PP t 1 + PP t 2) (by omega) 3 (by omega) 1 last
  have l2 := sq_l1 t ht hl (0 + e0 + e1 + e2 + e3) (0 + PP t 0 + PP t 1) (by omega) 2 (by omega) _ l3
  have l1 := sq_l1 t ht hl (0 + e0 + e1 + e2 + e3) (0 + PP t 0) (by omega) 1 (by omega) _ l2
  exact sq_l1 t ht hl (0 + e0 + e1 + e2 + e3) 0 (by omega) 0 (by omega) _ l1 K (by omega)

end Go.Proofs.Yteadclhlipcfpaa.Pure
