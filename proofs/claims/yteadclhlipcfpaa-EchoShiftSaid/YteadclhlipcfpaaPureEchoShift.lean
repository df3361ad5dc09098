/- EchoShift: each number of a table one more: all is turned by one: the plain law over the functions' plain forms. Conditions: none beyond the statement's own bounds. -/
import Derived.Test.YteadclhlipcfpaaMEchoShiftx1
import Derived.Test.YteadclhlipcfpaaEchoPlain
namespace Go.Proofs.Yteadclhlipcfpaa.Pure
open Go.RowKit Go.Proofs.Yteadclhlipcfpaa.MEchoShift Go.Proofs.YteadclhlipcfpaaW.PrintWords Go.Proofs.YteadclhlipcfpaaW.PrintLast Go.Proofs.YteadclhlipcfpaaW.PrintMore Go.Proofs.Yteadclhlipcfpaa.Plain Go.Proofs.Yteadclhlipcfpaa.Flo Go.Proofs.Yteadclhlipcfpaa.FloWords

/-! ### Turn, Power, Echo -/
theorem F1 : F 1 = 4607182418800017408 := by decide +kernel
theorem F0 : F 0 = 0 := by decide +kernel
theorem Fm : F (-1) = 13830554455654793216 := by decide +kernel
theorem turn_f (n : Int) : echo_Turn.f n = some (F (iR n), F (iI n)) := by
  unfold echo_Turn.f
  congr 1
  rcases i_cases n with ⟨h, r, i⟩ | ⟨h, r, i⟩ | ⟨h, r, i⟩ | ⟨h, r, i⟩ <;> rw [h, r, i] <;> decide +kernel
theorem W_turn (n : Int) : W (F (iR n)) (iR n) ∧ W (F (iI n)) (iI n) := by
  have h := i_range n
  have big : (2 : Nat) ^ 53 = 9007199254740992 := by decide
  exact ⟨W_F (by omega), W_F (by omega)⟩
theorem sq_nonneg (a : Int) : 0 ≤ a * a := by rw [← Int.natAbs_mul_self (a := a)]; exact Int.natCast_nonneg _
theorem power_f {x y : Nat} {a b : Int} (hx : W x a) (hy : W y b) (ha : a.natAbs ≤ 1000000) (hb : b.natAbs ≤ 1000000) : echo_Power.f (x, y) = some (a * a + b * b) := by
  have e1 := W_ires hx
  have e2 := W_ires hy
  unfold echo_Power.f
  dsimp only
  rw [if_pos e1.1, if_pos e2.1, e1.2, e2.2]
  have h1 : a * a ≤ 1000000000000 ∧ 0 ≤ a * a := by
    have : (a * a).natAbs ≤ 1000000 * 1000000 := by rw [Int.natAbs_mul]; exact Nat.mul_le_mul ha ha
    have := sq_nonneg a
    omega
  have h2 : b * b ≤ 1000000000000 ∧ 0 ≤ b * b := by
    have : (b * b).natAbs ≤ 1000000 * 1000000 := by rw [Int.natAbs_mul]; exact Nat.mul_le_mul hb hb
    have := sq_nonneg b
    omega
  rw [w_of (x := a * a) (by omega) (by omega), w_of (x := b * b) (by omega) (by omega), w_of (by omega) (by omega)]
theorem echo_arg (t : List Int) (a : Int) (i : Nat) (ht : Bytes t) : (wrap64 ((wrap64 (t.getD i 0)) - wrap64 ((Int.tmod a 4) * ((i : Int) % 4)))) % 4 = (t.getD i 0 - a * (i : Int)) % 4 := by
  have hb := bytes_getD ht i
  rw [w_mod4, w_of (x := t.getD i 0) (by omega) (by omega), Int.sub_emod, w_mod4, ← Int.sub_emod]
  have e : ((Int.tmod a 4) * ((i : Int) % 4)) % 4 = (a * (i : Int)) % 4 := by
    have e1 : (Int.tmod a 4) % 4 = a % 4 := by
      have := Int.tmod_eq_emod (a := a) (b := 4)
      split at this <;> omega
    rw [Int.mul_emod, e1, Int.emod_emod_of_dvd _ (Int.dvd_refl 4), ← Int.mul_emod]
  rw [Int.sub_emod, e, ← Int.sub_emod]
theorem echo_loop (t : List Int) (ht : Bytes t) (hl : t.length ≤ 1000000) (a : Int) (d : Nat) : ∀ (k i : Nat), i + d = t.length → d < k →
    echo_Echo.l0 k t a (F (SR t a i), F (SI t a i)) (i : Int) = some (F (SR t a t.length), F (SI t a t.length)) := by
  induction d with
  | zero =>
    intro k i hd hk
    obtain ⟨k, rfl⟩ : ∃ m, k = m + 1 := ⟨k - 1, by omega⟩
    unfold echo_Echo.l0
    rw [if_neg (by omega), show i = t.length by omega]
  | succ d ih =>
    intro k i hd hk
    obtain ⟨k, rfl⟩ : ∃ m, k = m + 1 := ⟨k - 1, by omega⟩
    have big : (2 : Nat) ^ 53 = 9007199254740992 := by decide
    have hs := S_range t a i
    have hm := echo_arg t a i ht
    have e1 := iR_mod _ _ hm
    have e2 := iI_mod _ _ hm
    have hr := i_range (t.getD i 0 - a * (i : Int))
    unfold echo_Echo.l0
    rw [if_pos (by omega), rd_nat, turn_f, Option.bind_some, e1, e2]
    dsimp only
    have hc := C_addF (a1 := SR t a i) (a2 := SI t a i) (b1 := iR (t.getD i 0 - a * (i : Int))) (b2 := iI (t.getD i 0 - a * (i : Int))) (by omega) (by omega) (by omega) (by omega) (by omega) (by omega)
    rw [if_pos hc.1, hc.2, w_succ (by omega)]
    exact ih k (i + 1) (by omega) (by omega)
theorem echo_f (k : Nat) (t : List Int) (ht : Bytes t) (hl : t.length ≤ 1000000) (a : Int) (hk : t.length < k) : echo_Echo.f k t a = some (F (SR t a t.length), F (SI t a t.length)) := by
  unfold echo_Echo.f
  have := echo_loop t ht hl a t.length k 0 (by omega) hk
  rw [show SR t a 0 = 0 from rfl, show SI t a 0 = 0 from rfl, F0] at this
  exact this
theorem W_echo (t : List Int) (hl : t.length ≤ 1000000) (a : Int) : W (F (SR t a t.length)) (SR t a t.length) ∧ W (F (SI t a t.length)) (SI t a t.length) := by
  have hs := S_range t a t.length
  have big : (2 : Nat) ^ 53 = 9007199254740992 := by decide
  exact ⟨W_F (by omega), W_F (by omega)⟩

/-! ### known -/
theorem W0 : W 0 0 := by have := W_F (v := 0) (by decide); rwa [F0] at this
theorem W1 : W 4607182418800017408 1 := by have := W_F (v := 1) (by decide); rwa [F1] at this
theorem known_f (k : Nat) (hk : 10 ≤ k) : scrimlaw5_known.f k = some true := by
  unfold scrimlaw5_known.f
  have b0 : Bytes [] := fun x hx => by simp at hx
  have b1 : Bytes [0] := fun x hx => by simp at hx; omega
  rw [turn_f, Option.bind_some, echo_f k [] b0 (by simp) 3 (by simp only [List.length_nil]; omega), Option.bind_some]
  have e1 := W_echo [] (by simp) 3
  have e2 := W_echo [0] (by simp) 1
  have e3 := W_turn 1
  dsimp only
  rw [W_order e1.1 W0, W_order e1.2 W0, W_order e3.1 W0, W_order e3.2 W1, if_pos (by decide), if_pos (by decide), if_pos (by decide), power_f e3.1 e3.2 (by decide) (by decide), Option.bind_some, if_pos (by decide), echo_f k [0] b1 (by simp) 1 (by simp only [List.length_cons, List.length_nil]; omega), Option.bind_some]
  dsimp only
  rw [W_order e2.1 W1, W_order e2.2 W0]
  decide

/-! ### the law -/
def upL (t : List Int) (by_ : Int) : List Int := t.map fun x => (x + by_) % 256
theorem upL_getD (t : List Int) (b : Int) (i : Nat) (h : i < t.length) : (upL t b).getD i 0 = (t.getD i 0 + b) % 256 := by
  rw [getD_lt (by simpa [upL] using h), getD_lt h]; simp [upL]
theorem upL_bytes (t : List Int) (b : Int) : Bytes (upL t b) := by
  intro x hx
  simp only [upL, List.mem_map] at hx
  obtain ⟨y, _, rfl⟩ := hx
  omega
theorem getD_set (l : List Int) (i j : Nat) (v : Int) : (l.set i v).getD j 0 = if i = j ∧ i < l.length then v else l.getD j 0 := by
  rw [List.getD_eq_getElem?_getD, List.getD_eq_getElem?_getD, List.getElem?_set]
  by_cases h : i = j
  · subst h
    by_cases h2 : i < l.length
    · simp [h2]
    · simp [h2]
  · simp [h]
theorem ext_getD {a b : List Int} (hl : a.length = b.length) (h : ∀ i, i < a.length → a.getD i 0 = b.getD i 0) : a = b := by
  apply List.ext_getElem hl
  intro i h1 h2
  have := h i h1
  rwa [getD_lt h1, getD_lt h2] at this
theorem S_shift (t : List Int) (a b : Int) (n : Nat) (hn : n ≤ t.length) : SR (upL t b) a n = SR t a n * iR b - SI t a n * iI b ∧ SI (upL t b) a n = SR t a n * iI b + SI t a n * iR b := by
  induction n with
  | zero => simp [SR, SI, sumN]
  | succ n ih =>
    have h := ih (by omega)
    have e : (upL t b).getD n 0 - a * (n : Int) = (t.getD n 0 + b) % 256 - a * (n : Int) := by rw [upL_getD _ _ _ (by omega)]
    have hm : ((upL t b).getD n 0 - a * (n : Int)) % 4 = ((t.getD n 0 - a * (n : Int)) + b) % 4 := by rw [e]; omega
    have hi := i_add (t.getD n 0 - a * (n : Int)) b
    have r1 : SR (upL t b) a (n + 1) = SR (upL t b) a n + iR ((upL t b).getD n 0 - a * (n : Int)) := rfl
    have r2 : SI (upL t b) a (n + 1) = SI (upL t b) a n + iI ((upL t b).getD n 0 - a * (n : Int)) := rfl
    have r3 : SR t a (n + 1) = SR t a n + iR (t.getD n 0 - a * (n : Int)) := rfl
    have r4 : SI t a (n + 1) = SI t a n + iI (t.getD n 0 - a * (n : Int)) := rfl
    rw [r1, r2, r3, r4, iR_mod _ _ hm, iI_mod _ _ hm, hi.1, hi.2, h.1, h.2]
    constructor
    · rw [Int.add_mul, Int.add_mul]; omega
    · rw [Int.add_mul, Int.add_mul]; omega
theorem shift_end (K : Nat) (t u : List Int) (a b : Int) (hK : 1000 ≤ K) (ht : Bytes t) (hu : u = upL t b) (hl : t.length ≤ 500) (hb : 0 ≤ b ∧ b < 256) :
    ((echo_Echo.f K u a).bind fun t114 => ((echo_Echo.f K t a).bind fun t115 => ((echo_Turn.f (wrap64 (b))).bind fun t116 => (if (cop .mul t115.1 t115.2 t116.1 t116.2).isSome = true then (if ((FloatKind.f64.format.order t114.1 ((cres .mul t115.1 t115.2 t116.1 t116.2).1) == some .eq) && (FloatKind.f64.format.order t114.2 ((cres .mul t115.1 t115.2 t116.1 t116.2).2) == some .eq)) = true then ((echo_Echo.f K u a).bind fun t117 => ((echo_Power.f t117).bind fun t118 => ((echo_Echo.f K t a).bind fun t119 => ((echo_Power.f t119).bind fun t120 => (some (t118 == t120)))))) else (some false)) else (none))))) = some true := by
  have hul : u.length = t.length := by rw [hu]; simp [upL]
  have hub : Bytes u := by rw [hu]; exact upL_bytes t b
  have sh := S_shift t a b t.length (Nat.le_refl _)
  have s1 := S_range t a t.length
  have s2 := S_range u a u.length
  have e1 := W_echo u (by omega) a
  have e2 := W_echo t (by omega) a
  have e3 := W_turn b
  have hr := i_range b
  rw [hul] at e1 s2
  rw [w_of (x := b) (by omega) (by omega), echo_f K u hub (by omega) a (by omega), Option.bind_some, echo_f K t ht (by omega) a (by omega), Option.bind_some, turn_f, Option.bind_some, hul]
  have big : (2 : Nat) ^ 51 = 2251799813685248 := by decide
  have small : ∀ x y : Int, x.natAbs ≤ 500 → y.natAbs ≤ 1 → (x * y).natAbs < 2 ^ 51 := by
    intro x y hx hy
    have : (x * y).natAbs ≤ 500 * 1 := by rw [Int.natAbs_mul]; exact Nat.mul_le_mul hx hy
    omega
  have c := C_mul e2.1 e2.2 e3.1 e3.2 (small _ _ (by omega) (by omega)) (small _ _ (by omega) (by omega)) (small _ _ (by omega) (by omega)) (small _ _ (by omega) (by omega))
  dsimp only
  rw [if_pos c.1, W_order e1.1 c.2.1, W_order e1.2 c.2.2]
  subst hu
  rw [sh.1, sh.2] at s2 ⊢
  rw [sh.1, sh.2] at e1
  rw [if_pos (by simp), Option.bind_some, power_f e1.1 e1.2 (by omega) (by omega), Option.bind_some, Option.bind_some, power_f e2.1 e2.2 (by omega) (by omega), Option.bind_some]
  congr 1
  generalize SR t a t.length = x
  generalize SI t a t.length = y
  rw [beq_iff_eq]
  rcases i_cases b with ⟨_, ra, ia⟩ | ⟨_, ra, ia⟩ | ⟨_, ra, ia⟩ | ⟨_, ra, ia⟩ <;> (rw [ra, ia]; grind)
theorem shift_loop (t : List Int) (a b : Int) (ht : Bytes t) (hl : t.length ≤ 500) (hb : 0 ≤ b ∧ b < 256) (d : Nat) : ∀ (k i : Nat) (u : List Int), i + d = t.length → 1001 + d ≤ k → u.length = t.length → (∀ j, j < i → u.getD j 0 = (upL t b).getD j 0) →
    scrimlaw5_EchoShift.l0 k t a b u (i : Int) = some true := by
  induction d with
  | zero =>
    intro k i u hd hk hu hj
    obtain ⟨k, rfl⟩ : ∃ m, k = m + 1 := ⟨k - 1, by omega⟩
    unfold scrimlaw5_EchoShift.l0
    rw [if_neg (by omega)]
    exact shift_end k t u a b (by omega) ht (ext_getD (by simp [upL]; omega) fun j h => hj j (by omega)) hl hb
  | succ d ih =>
    intro k i u hd hk hu hj
    obtain ⟨k, rfl⟩ : ∃ m, k = m + 1 := ⟨k - 1, by omega⟩
    unfold scrimlaw5_EchoShift.l0
    rw [if_pos (by omega), if_pos (by omega), if_pos (by omega), rd_nat, Int.toNat_natCast, w_succ (by omega)]
    refine ih k (i + 1) _ (by omega) (by omega) (by simpa using hu) fun j h => ?_
    rw [getD_set]
    by_cases h1 : i = j
    · subst h1
      rw [if_pos ⟨rfl, by omega⟩, upL_getD _ _ _ (by omega)]
    · rw [if_neg (fun h2 => h1 h2.1)]
      exact hj j (by omega)
theorem EchoShift : scrimlaw5_EchoShift.Pure := by
  intro t a b _ _ ht _ hb
  obtain ⟨K, hK⟩ : ∃ K : Nat, 2000 ≤ K := ⟨_, Nat.le_refl _⟩
  refine ⟨K, ?_⟩
  unfold scrimlaw5_EchoShift.f
  rw [known_f K (by omega), Option.bind_some, if_pos rfl]
  by_cases hl : (t.length : Int) > 500
  · rw [if_pos hl]
  · rw [if_neg hl, if_pos (by omega), if_pos (by omega)]
    exact shift_loop t a b (fun x hx => wf_u8 (ht x hx)) (by omega) (wf_u8 hb) t.length K 0 _ (by omega) (by omega) (by simp) (fun j h => by omega)

end Go.Proofs.Yteadclhlipcfpaa.Pure
