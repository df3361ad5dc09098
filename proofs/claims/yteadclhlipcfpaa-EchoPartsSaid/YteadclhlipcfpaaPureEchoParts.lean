/- EchoParts: of two tables one behind the other, the first of a length by four, it is the sum: the plain law over the functions' plain forms. Conditions: none beyond the statement's own bounds. -/
import Derived.Test.YteadclhlipcfpaaMEchoPartsx1
import Derived.Test.YteadclhlipcfpaaEchoPlain
namespace Go.Proofs.Yteadclhlipcfpaa.Pure
open Go.RowKit Go.Proofs.Yteadclhlipcfpaa.MEchoParts Go.Proofs.YteadclhlipcfpaaW.PrintWords Go.Proofs.YteadclhlipcfpaaW.PrintLast Go.Proofs.YteadclhlipcfpaaW.PrintMore Go.Proofs.Yteadclhlipcfpaa.Plain Go.Proofs.Yteadclhlipcfpaa.Flo Go.Proofs.Yteadclhlipcfpaa.FloWords

/-! ### Turn, Power, Echo -/
theorem F1 : F 1 = 4607182418800017408 := by decide +kernel
theorem F0 : F 0 = 0 := by decide +kernel
theorem Fm : F (-1) = 13830554455654793216 := by decide +kernel
theorem turn_f (n : Int) : echo_Turn.f n = some (F (iR n), F (iI n)) := by
  unfold echo_Turn.f
  congr 1
  rcases i_cases n with ⟨h, r, i⟩ | ⟨h, r, i⟩ | ⟨h, r, i⟩ | ⟨h, r, i⟩ <;> rw [h, r, i] <;> decide +kernel
theorem W_turn (n : Int) : W (F (iR n)) (iR n) ∧ W (F (iI n)) (iI n) := by
  have h := i_range n
  have big : (2 : Nat) ^ 53 = 9007199254740992 := by decide
  exact ⟨W_F (by omega), W_F (by omega)⟩
theorem sq_nonneg (a : Int) : 0 ≤ a * a := by rw [← Int.natAbs_mul_self (a := a)]; exact Int.natCast_nonneg _
theorem power_f {x y : Nat} {a b : Int} (hx : W x a) (hy : W y b) (ha : a.natAbs ≤ 1000000) (hb : b.natAbs ≤ 1000000) : echo_Power.f (x, y) = some (a * a + b * b) := by
  have e1 := W_ires hx
  have e2 := W_ires hy
  unfold echo_Power.f
  dsimp only
  rw [if_pos e1.1, if_pos e2.1, e1.2, e2.2]
  have h1 : a * a ≤ 1000000000000 ∧ 0 ≤ a * a := by
    have : (a * a).natAbs ≤ 1000000 * 1000000 := by rw [Int.natAbs_mul]; exact Nat.mul_le_mul ha ha
    have := sq_nonneg a
    omega
  have h2 : b * b ≤ 1000000000000 ∧ 0 ≤ b * b := by
    have : (b * b).natAbs ≤ 1000000 * 1000000 := by rw [Int.natAbs_mul]; exact Nat.mul_le_mul hb hb
    have := sq_nonneg b
    omega
  rw [w_of (x := a * a) (by omega) (by omega), w_of (x := b * b) (by omega) (by omega), w_of (by omega) (by omega)]
theorem echo_arg (t : List Int) (a : Int) (i : Nat) (ht : Bytes t) : (wrap64 ((wrap64 (t.getD i 0)) - wrap64 ((Int.tmod a 4) * ((i : Int) % 4)))) % 4 = (t.getD i 0 - a * (i : Int)) % 4 := by
  have hb := bytes_getD ht i
  rw [w_mod4, w_of (x := t.getD i 0) (by omega) (by omega), Int.sub_emod, w_mod4, ← Int.sub_emod]
  have e : ((Int.tmod a 4) * ((i : Int) % 4)) % 4 = (a * (i : Int)) % 4 := by
    have e1 : (Int.tmod a 4) % 4 = a % 4 := by
      have := Int.tmod_eq_emod (a := a) (b := 4)
      split at this <;> omega
    rw [Int.mul_emod, e1, Int.emod_emod_of_dvd _ (Int.dvd_refl 4), ← Int.mul_emod]
  rw [Int.sub_emod, e, ← Int.sub_emod]
theorem echo_loop (t : List Int) (ht : Bytes t) (hl : t.length ≤ 1000000) (a : Int) (d : Nat) : ∀ (k i : Nat), i + d = t.length → d < k →
    echo_Echo.l0 k t a (F (SR t a i), F (SI t a i)) (i : Int) = some (F (SR t a t.length), F (SI t a t.length)) := by
  induction d with
  | zero =>
    intro k i hd hk
    obtain ⟨k, rfl⟩ : ∃ m, k = m + 1 := ⟨k - 1, by omega⟩
    unfold echo_Echo.l0
    rw [if_neg (by omega), show i = t.length by omega]
  | succ d ih =>
    intro k i hd hk
    obtain ⟨k, rfl⟩ : ∃ m, k = m + 1 := ⟨k - 1, by omega⟩
    have big : (2 : Nat) ^ 53 = 9007199254740992 := by decide
    have hs := S_range t a i
    have hm := echo_arg t a i ht
    have e1 := iR_mod _ _ hm
    have e2 := iI_mod _ _ hm
    have hr := i_range (t.getD i 0 - a * (i : Int))
    unfold echo_Echo.l0
    rw [if_pos (by omega), rd_nat, turn_f, Option.bind_some, e1, e2]
    dsimp only
    have hc := C_addF (a1 := SR t a i) (a2 := SI t a i) (b1 := iR (t.getD i 0 - a * (i : Int))) (b2 := iI (t.getD i 0 - a * (i : Int))) (by omega) (by omega) (by omega) (by omega) (by omega) (by omega)
    rw [if_pos hc.1, hc.2, w_succ (by omega)]
    exact ih k (i + 1) (by omega) (by omega)
theorem echo_f (k : Nat) (t : List Int) (ht : Bytes t) (hl : t.length ≤ 1000000) (a : Int) (hk : t.length < k) : echo_Echo.f k t a = some (F (SR t a t.length), F (SI t a t.length)) := by
  unfold echo_Echo.f
  have := echo_loop t ht hl a t.length k 0 (by omega) hk
  rw [show SR t a 0 = 0 from rfl, show SI t a 0 = 0 from rfl, F0] at this
  exact this
theorem W_echo (t : List Int) (hl : t.length ≤ 1000000) (a : Int) : W (F (SR t a t.length)) (SR t a t.length) ∧ W (F (SI t a t.length)) (SI t a t.length) := by
  have hs := S_range t a t.length
  have big : (2 : Nat) ^ 53 = 9007199254740992 := by decide
  exact ⟨W_F (by omega), W_F (by omega)⟩

/-! ### known -/
theorem W0 : W 0 0 := by have := W_F (v := 0) (by decide); rwa [F0] at this
theorem W1 : W 4607182418800017408 1 := by have := W_F (v := 1) (by decide); rwa [F1] at this
theorem known_f (k : Nat) (hk : 10 ≤ k) : scrimlaw5_known.f k = some true := by
  unfold scrimlaw5_known.f
  have b0 : Bytes [] := fun x hx => by simp at hx
  have b1 : Bytes [0] := fun x hx => by simp at hx; omega
  rw [turn_f, Option.bind_some, echo_f k [] b0 (by simp) 3 (by simp only [List.length_nil]; omega), Option.bind_some]
  have e1 := W_echo [] (by simp) 3
  have e2 := W_echo [0] (by simp) 1
  have e3 := W_turn 1
  dsimp only
  rw [W_order e1.1 W0, W_order e1.2 W0, W_order e3.1 W0, W_order e3.2 W1, if_pos (by decide), if_pos (by decide), if_pos (by decide), power_f e3.1 e3.2 (by decide) (by decide), Option.bind_some, if_pos (by decide), echo_f k [0] b1 (by simp) 1 (by simp only [List.length_cons, List.length_nil]; omega), Option.bind_some]
  dsimp only
  rw [W_order e2.1 W1, W_order e2.2 W0]
  decide

/-! ### within -/
theorem within_f (a n : Int) (h0 : 0 < n) (h1 : n ≤ 1099511627776) : scrimlaw5_within.f a n = some (a % n) := by
  unfold scrimlaw5_within.f
  rw [if_neg (by omega)]
  have e := Int.tmod_eq_emod (a := a) (b := n)
  have l1 := Int.emod_nonneg a (by omega : n ≠ 0)
  have l2 := Int.emod_lt_of_pos a h0
  by_cases hc : 0 ≤ a ∨ n ∣ a
  · rw [if_pos hc] at e
    rw [if_neg (by omega)]
    congr 1; omega
  · rw [if_neg hc] at e
    have hn : (n.natAbs : Int) = n := by omega
    have hnz : a % n ≠ 0 := fun z => hc (.inr (Int.dvd_of_emod_eq_zero z))
    rw [if_pos (by omega)]
    congr 1
    unfold wrap64; omega

/-! ### the law -/
theorem arg_up (v a : Int) (q i : Nat) : (v - a * ((4 * q + i : Nat) : Int)) % 4 = (v - a * (i : Int)) % 4 := by
  have e : a * ((4 * q + i : Nat) : Int) = a * (i : Int) + 4 * (a * (q : Int)) := by push_cast; grind
  rw [e]
  omega
theorem S_append (p u : List Int) (a : Int) (q m : Nat) (hq : p.length = 4 * q) :
    SR (p ++ u) a (p.length + m) = SR p a p.length + SR u a m ∧ SI (p ++ u) a (p.length + m) = SI p a p.length + SI u a m := by
  constructor
  · unfold SR
    rw [sumN_add]
    congr 1
    · refine sumN_congr _ fun i hi => ?_
      rw [getD_append, if_pos hi]
    · refine sumN_congr _ fun i _ => ?_
      rw [getD_append, if_neg (by omega), show p.length + i - p.length = i from by omega, hq]
      exact iR_mod _ _ (arg_up _ a q i)
  · unfold SI
    rw [sumN_add]
    congr 1
    · refine sumN_congr _ fun i hi => ?_
      rw [getD_append, if_pos hi]
    · refine sumN_congr _ fun i _ => ?_
      rw [getD_append, if_neg (by omega), show p.length + i - p.length = i from by omega, hq]
      exact iI_mod _ _ (arg_up _ a q i)
theorem S_four (t : List Int) (a : Int) (n : Nat) : SR t (a + 4) n = SR t a n ∧ SI t (a + 4) n = SI t a n := by
  have e : ∀ i : Nat, (t.getD i 0 - (a + 4) * (i : Int)) % 4 = (t.getD i 0 - a * (i : Int)) % 4 := fun i => by
    rw [Int.add_mul]; omega
  exact ⟨sumN_congr _ fun i _ => iR_mod _ _ (e i), sumN_congr _ fun i _ => iI_mod _ _ (e i)⟩
theorem bytes_take {b : List Int} (h : Bytes b) (n : Nat) : Bytes (b.take n) := fun x hx => h x (List.mem_of_mem_take hx)
theorem bytes_append {a b : List Int} (ha : Bytes a) (hb : Bytes b) : Bytes (a ++ b) := fun x hx => by
  rcases List.mem_append.1 hx with h | h
  · exact ha x h
  · exact hb x h
theorem parts_end (K : Nat) (p u : List Int) (a : Int) (q : Nat) (hK : 3000 ≤ K) (hp : Bytes p) (hu : Bytes u) (hq : p.length = 4 * q) (hl : p.length ≤ 400) (hu4 : u.length ≤ 400) :
    ((echo_Echo.f K (p ++ u) a).bind fun t119 => ((echo_Echo.f K p a).bind fun t121 => ((echo_Echo.f K u a).bind fun t122 => (if (cop .add t121.1 t121.2 t122.1 t122.2).isSome = true then (if ((FloatKind.f64.format.order t119.1 ((cres .add t121.1 t121.2 t122.1 t122.2).1) == some .eq) && (FloatKind.f64.format.order t119.2 ((cres .add t121.1 t121.2 t122.1 t122.2).2) == some .eq)) = true then ((scrimlaw5_within.f a 1000).bind fun t123 => ((echo_Echo.f K (p ++ u) t123).bind fun t124 => ((scrimlaw5_within.f a 1000).bind fun t125 => ((echo_Echo.f K (p ++ u) (wrap64 (t125 + 4))).bind fun t126 => (some ((FloatKind.f64.format.order t124.1 t126.1 == some .eq) && (FloatKind.f64.format.order t124.2 t126.2 == some .eq))))))) else (none)) else (none))))) = some true := by
  have hb : Bytes (p ++ u) := bytes_append hp hu
  have hbl : (p ++ u).length = p.length + u.length := List.length_append
  have sa := S_append p u a q u.length hq
  have s1 := S_range p a p.length
  have s2 := S_range u a u.length
  have e1 := W_echo (p ++ u) (by omega) a
  have e2 := W_echo p (by omega) a
  have e3 := W_echo u (by omega) a
  have big : (2 : Nat) ^ 53 = 9007199254740992 := by decide
  have c := C_add e2.1 e2.2 e3.1 e3.2 (by omega) (by omega)
  rw [echo_f K (p ++ u) hb (by omega) a (by omega), Option.bind_some, echo_f K p hp (by omega) a (by omega), Option.bind_some, echo_f K u hu (by omega) a (by omega), Option.bind_some]
  dsimp only
  rw [if_pos c.1, W_order e1.1 c.2.1, W_order e1.2 c.2.2, hbl, sa.1, sa.2, if_pos (by simp), within_f a 1000 (by decide) (by decide), Option.bind_some]
  have l1 := Int.emod_nonneg a (by decide : (1000 : Int) ≠ 0)
  have l2 := Int.emod_lt_of_pos a (by decide : (0 : Int) < 1000)
  generalize a % 1000 = x at l1 l2
  have e4 := W_echo (p ++ u) (by omega) x
  have e5 := W_echo (p ++ u) (by omega) (x + 4)
  have s4 := S_four (p ++ u) x (p ++ u).length
  rw [echo_f K (p ++ u) hb (by omega) x (by omega), Option.bind_some, Option.bind_some, w_of (x := x + 4) (by omega) (by omega), echo_f K (p ++ u) hb (by omega) (x + 4) (by omega), Option.bind_some]
  dsimp only
  rw [W_order e4.1 e5.1, W_order e4.2 e5.2, s4.1, s4.2]
  simp
theorem EchoParts : scrimlaw5_EchoParts.Pure := by
  intro t u a _ _ ht _ _ hu _
  obtain ⟨K, hK⟩ : ∃ K : Nat, 3000 ≤ K := ⟨_, Nat.le_refl _⟩
  refine ⟨K + 1, ?_⟩
  have hub : Bytes u := fun x hx => wf_u8 (hu x hx)
  have htb : Bytes t := fun x hx => wf_u8 (ht x hx)
  unfold scrimlaw5_EchoParts.f
  rw [known_f (K + 1) (by omega), Option.bind_some, if_pos rfl]
  by_cases hl : (t.length : Int) > 400
  · rw [if_pos hl]; rfl
  · rw [if_neg hl]
    by_cases hl2 : (u.length : Int) > 400
    · rw [decide_eq_true hl2]; rfl
    · have e1 : wrap64 ((t.length : Int) / 4) = ((t.length / 4 : Nat) : Int) := by unfold wrap64; omega
      have e2 : wrap64 (((t.length / 4 : Nat) : Int) * 4) = ((4 * (t.length / 4) : Nat) : Int) := by unfold wrap64; omega
      have hp : (t.take (4 * (t.length / 4))).length = 4 * (t.length / 4) := by rw [List.length_take]; omega
      rw [decide_eq_false hl2]
      conv => lhs; unfold scrimlaw5_EchoParts.j0
      dsimp only
      rw [if_neg (by decide), Option.bind_some, e1, e2, Int.toNat_natCast, if_pos (by omega), if_pos (by omega), if_pos (by rw [List.length_nil]; omega), Option.bind_some, List.nil_append, if_pos (by omega), Option.bind_some]
      exact parts_end K (t.take (4 * (t.length / 4))) u a (t.length / 4) hK (bytes_take htb _) hub hp (by omega) (by omega)

end Go.Proofs.Yteadclhlipcfpaa.Pure
