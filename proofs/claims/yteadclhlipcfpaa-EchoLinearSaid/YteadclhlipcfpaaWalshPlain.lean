/- Walsh sums over k bits, their squares together, tables whose numbers are sums, orders of all numbers: plain lists and numbers, no program in sight. Conditions: none. -/
import Derived.Test.YteadclhlipcfpaaEchoPlain
namespace Go.Proofs.Yteadclhlipcfpaa.Plain
open Go.RowKit Go.Proofs.YteadclhlipcfpaaW.PrintWords

/-! ### sums over pairs -/
theorem sumN_two (f : Nat → Int) (n : Nat) : sumN f (2 * n) = sumN (fun i => f (2 * i)) n + sumN (fun i => f (2 * i + 1)) n := by
  induction n with
  | zero => rfl
  | succ n ih =>
    rw [show 2 * (n + 1) = 2 * n + 1 + 1 from by omega, sumN_succ, sumN_succ, sumN_succ, sumN_succ, ih]
    omega
theorem sumN_const (c : Int) (n : Nat) : sumN (fun _ => c) n = c * (n : Int) := by
  induction n with
  | zero => simp [sumN]
  | succ n ih => rw [sumN_succ, ih]; rw [Int.natCast_succ, Int.mul_add, Int.mul_one]
/-- One bit of two: less one, where both are set. -/
def ch1 (a x : Nat) : Int := if a % 2 = 1 ∧ x % 2 = 1 then -1 else 1
/-- The sign of the count of k bits that two have both. -/
def chi : Nat → Nat → Nat → Int
  | 0, _, _ => 1
  | k + 1, a, x => ch1 a x * chi k (a / 2) (x / 2)
theorem ch1_or (a x : Nat) : ch1 a x = 1 ∨ ch1 a x = -1 := by unfold ch1; split <;> simp
theorem chi_or (k a x : Nat) : chi k a x = 1 ∨ chi k a x = -1 := by
  induction k generalizing a x with
  | zero => exact .inl rfl
  | succ k ih => unfold chi; rcases ch1_or a x with h | h <;> rcases ih (a / 2) (x / 2) with g | g <;> rw [h, g] <;> decide
theorem chi_zero (k x : Nat) : chi k 0 x = 1 := by
  induction k generalizing x with
  | zero => rfl
  | succ k ih =>
    unfold chi
    rw [show 0 / 2 = 0 from rfl, ih]; unfold ch1; rw [if_neg (by omega)]; rfl
theorem ch1_comm (a x : Nat) : ch1 a x = ch1 x a := by
  unfold ch1
  by_cases h : a % 2 = 1 <;> by_cases g : x % 2 = 1 <;> simp [h, g]
theorem chi_comm (k a x : Nat) : chi k a x = chi k x a := by
  induction k generalizing a x with
  | zero => rfl
  | succ k ih => unfold chi; rw [ih, ch1_comm]
/-- The Walsh sums of g over k bits. -/
def wal (k : Nat) (g : Nat → Int) (a : Nat) : Int := sumN (fun x => chi k a x * g x) (2 ^ k)
theorem wal_step (k : Nat) (g : Nat → Int) (a : Nat) : wal (k + 1) g a = wal k (fun x => g (2 * x)) (a / 2) + ch1 a 1 * wal k (fun x => g (2 * x + 1)) (a / 2) := by
  unfold wal
  rw [Nat.pow_succ, Nat.mul_comm, sumN_two, Int.mul_comm (ch1 a 1), ← sumN_mul]
  congr 1
  · refine sumN_congr _ fun i _ => ?_
    show ch1 a (2 * i) * chi k (a / 2) (2 * i / 2) * _ = _
    rw [show 2 * i / 2 = i from by omega]
    have : ch1 a (2 * i) = 1 := by unfold ch1; rw [if_neg (by omega)]
    rw [this, Int.one_mul]
  · refine sumN_congr _ fun i _ => ?_
    show ch1 a (2 * i + 1) * chi k (a / 2) ((2 * i + 1) / 2) * _ = _
    rw [show (2 * i + 1) / 2 = i from by omega]
    have : ch1 a (2 * i + 1) = ch1 a 1 := by unfold ch1; rw [show (2 * i + 1) % 2 = 1 % 2 from by omega]
    rw [this, Int.mul_assoc, Int.mul_comm (ch1 a 1)]
/-- The squares of all the sums together. -/
theorem parseval (k : Nat) (g : Nat → Int) : sumN (fun a => wal k g a * wal k g a) (2 ^ k) = 2 ^ k * sumN (fun x => g x * g x) (2 ^ k) := by
  induction k generalizing g with
  | zero => simp [wal, chi, sumN]
  | succ k ih =>
    have h0 := ih (fun x => g (2 * x))
    have h1 := ih (fun x => g (2 * x + 1))
    rw [show (2 : Nat) ^ (k + 1) = 2 * 2 ^ k from by rw [Nat.pow_succ, Nat.mul_comm], sumN_two, sumN_two (fun x => g x * g x)]
    have e0 : ∀ i, wal (k + 1) g (2 * i) = wal k (fun x => g (2 * x)) i + wal k (fun x => g (2 * x + 1)) i := fun i => by
      rw [wal_step, show 2 * i / 2 = i from by omega]
      have : ch1 (2 * i) 1 = 1 := by unfold ch1; rw [if_neg (by omega)]
      rw [this, Int.one_mul]
    have e1 : ∀ i, wal (k + 1) g (2 * i + 1) = wal k (fun x => g (2 * x)) i - wal k (fun x => g (2 * x + 1)) i := fun i => by
      rw [wal_step, show (2 * i + 1) / 2 = i from by omega]
      have : ch1 (2 * i + 1) 1 = -1 := by unfold ch1; rw [if_pos (by omega)]
      rw [this]; omega
    rw [← sumN_plus]
    have e2 : sumN (fun i => wal (k + 1) g (2 * i) * wal (k + 1) g (2 * i) + wal (k + 1) g (2 * i + 1) * wal (k + 1) g (2 * i + 1)) (2 ^ k) = sumN (fun i => (wal k (fun x => g (2 * x)) i * wal k (fun x => g (2 * x)) i + wal k (fun x => g (2 * x + 1)) i * wal k (fun x => g (2 * x + 1)) i) * 2) (2 ^ k) := by
      refine sumN_congr _ fun i _ => ?_
      simp only [e0, e1]
      generalize wal k (fun x => g (2 * x)) i = u
      generalize wal k (fun x => g (2 * x + 1)) i = v
      grind
    rw [e2, sumN_mul, sumN_plus, h0, h1, Int.pow_succ]
    grind
/-- Of no g: but for nothing, all bits fall out. -/
theorem wal_one (k a : Nat) : wal k (fun _ => 1) a = if a % 2 ^ k = 0 then 2 ^ k else 0 := by
  induction k generalizing a with
  | zero => simp [wal, chi, sumN, Nat.mod_one]
  | succ k ih =>
    rw [wal_step, ih]
    have hm : a % 2 ^ (k + 1) = 0 ↔ a % 2 = 0 ∧ a / 2 % 2 ^ k = 0 := by
      rw [Nat.pow_succ, Nat.mul_comm, Nat.mod_mul]; omega
    by_cases h : a % 2 = 0
    · have : ch1 a 1 = 1 := by unfold ch1; rw [if_neg (by omega)]
      rw [this, Int.one_mul]
      by_cases g : a / 2 % 2 ^ k = 0
      · rw [if_pos g, if_pos (hm.2 ⟨h, g⟩), Int.pow_succ]; omega
      · rw [if_neg g, if_neg (fun q => g (hm.1 q).2)]; rfl
    · have : ch1 a 1 = -1 := by unfold ch1; rw [if_pos (by omega)]
      rw [this, if_neg (fun q => h (hm.1 q).1)]; omega
/-- Signs of sums. -/
theorem sumN_or_mod (f : Nat → Int) (n : Nat) (h : ∀ i, i < n → f i = 1 ∨ f i = -1) : (sumN f n) % 2 = n % 2 := by
  induction n with
  | zero => rfl
  | succ n ih =>
    have := ih fun i hi => h i (by omega)
    rcases h n (by omega) with e | e <;> rw [sumN_succ, e] <;> omega
/-- Of two rows of signs, each one's sum by 4: the products' sum, too (the count a whole number by 4). -/
theorem four (f g : Nat → Int) (n : Nat) (hf : ∀ i, i < n → f i = 1 ∨ f i = -1) (hg : ∀ i, i < n → g i = 1 ∨ g i = -1) : (sumN (fun i => f i * g i) n - sumN f n - sumN g n + n) % 4 = 0 := by
  induction n with
  | zero => rfl
  | succ n ih =>
    have := ih (fun i hi => hf i (by omega)) (fun i hi => hg i (by omega))
    rcases hf n (by omega) with e | e <;> rcases hg n (by omega) with e2 | e2 <;> simp only [sumN_succ, e, e2] <;> omega
/-! ### parity -/
def parN : Nat → Nat → Int
  | 0, _ => 1
  | k + 1, x => (if x % 2 = 1 then -1 else 1) * parN k (x / 2)
theorem and_two (a x : Nat) : (a &&& x) % 2 = 1 ↔ a % 2 = 1 ∧ x % 2 = 1 := by
  rw [Nat.and_mod_two_eq_one]
theorem chi_par (k a x : Nat) : chi k a x = parN k (a &&& x) := by
  induction k generalizing a x with
  | zero => rfl
  | succ k ih =>
    unfold chi parN
    rw [ih, Nat.and_div_two]
    congr 1
    unfold ch1
    simp only [and_two]
theorem ch1_xor (a x y : Nat) : ch1 a (x ^^^ y) = ch1 a x * ch1 a y := by
  have h : (x ^^^ y) % 2 = (x + y) % 2 := by
    have := Nat.xor_mod_two_eq_one (a := x) (b := y)
    omega
  unfold ch1
  rw [h]
  by_cases ha : a % 2 = 1 <;> by_cases hx : x % 2 = 1 <;> by_cases hy : y % 2 = 1
  all_goals
    first
    | rw [if_neg (by omega), if_neg (by omega), if_neg (by omega)]; rfl
    | rw [if_neg (by omega), if_pos (by omega), if_pos (by omega)]; rfl
    | rw [if_pos (by omega), if_pos (by omega), if_neg (by omega)]; rfl
    | rw [if_pos (by omega), if_neg (by omega), if_pos (by omega)]; rfl
theorem chi_xor (k a x y : Nat) : chi k a (x ^^^ y) = chi k a x * chi k a y := by
  induction k generalizing a x y with
  | zero => rfl
  | succ k ih =>
    unfold chi
    rw [Nat.xor_div_two, ih, ch1_xor]
    generalize ch1 a x = p
    generalize ch1 a y = q
    generalize chi k (a / 2) (x / 2) = r
    generalize chi k (a / 2) (y / 2) = s
    grind
/-- A product over the bits that are set. -/
def pr : Nat → (Nat → Int) → Nat → Int
  | 0, _, _ => 1
  | k + 1, c, i => (if i % 2 = 1 then c 0 else 1) * pr k (fun j => c (j + 1)) (i / 2)
theorem pr_sum (k : Nat) (c : Nat → Int) (h : ∀ j, c j = 1 ∨ c j = -1) : sumN (pr k c) (2 ^ k) = 0 ∨ sumN (pr k c) (2 ^ k) = 2 ^ k := by
  induction k generalizing c with
  | zero => right; rfl
  | succ k ih =>
    rw [show (2 : Nat) ^ (k + 1) = 2 * 2 ^ k from by rw [Nat.pow_succ, Nat.mul_comm], sumN_two]
    have e0 : sumN (fun i => pr (k + 1) c (2 * i)) (2 ^ k) = sumN (pr k (fun j => c (j + 1))) (2 ^ k) := sumN_congr _ fun i _ => by
      show (if 2 * i % 2 = 1 then c 0 else 1) * pr k (fun j => c (j + 1)) (2 * i / 2) = _
      rw [if_neg (by omega), show 2 * i / 2 = i from by omega, Int.one_mul]
    have e1 : sumN (fun i => pr (k + 1) c (2 * i + 1)) (2 ^ k) = sumN (pr k (fun j => c (j + 1))) (2 ^ k) * c 0 := by
      rw [← sumN_mul]
      exact sumN_congr _ fun i _ => by
        show (if (2 * i + 1) % 2 = 1 then c 0 else 1) * pr k (fun j => c (j + 1)) ((2 * i + 1) / 2) = _
        rw [if_pos (by omega), show (2 * i + 1) / 2 = i from by omega, Int.mul_comm]
    rw [e0, e1]
    rcases h 0 with q | q <;> rw [q]
    · rcases ih (fun j => c (j + 1)) (fun j => h (j + 1)) with w | w
      · left; rw [w]; rfl
      · right; rw [w, Int.pow_succ]; omega
    · left; omega
theorem pr_mul (k : Nat) (c d : Nat → Int) (i : Nat) : pr k (fun j => c j * d j) i = pr k c i * pr k d i := by
  induction k generalizing c d i with
  | zero => rfl
  | succ k ih =>
    unfold pr
    rw [ih (fun j => c (j + 1)) (fun j => d (j + 1))]
    by_cases h : i % 2 = 1
    · rw [if_pos h, if_pos h, if_pos h]
      generalize pr k (fun j => c (j + 1)) (i / 2) = p
      generalize pr k (fun j => d (j + 1)) (i / 2) = q
      grind
    · rw [if_neg h, if_neg h, if_neg h]; simp only [Int.one_mul]
theorem pr_chi (k a i : Nat) : chi k a i = pr k (fun j => if a.testBit j = true then -1 else 1) i := by
  induction k generalizing a i with
  | zero => rfl
  | succ k ih =>
    unfold chi pr
    rw [ih]
    congr 1
    · unfold ch1
      simp only [Nat.testBit_zero]
      by_cases h : a % 2 = 1 <;> by_cases g : i % 2 = 1 <;> simp [h, g]
    · congr 1
      funext j
      simp only [Nat.testBit_succ]
/-! ### tables of all of n numbers -/
theorem sumN_list (f : Nat → Int) (n : Nat) : sumN f n = ((List.range n).map f).sum := by
  induction n with
  | zero => rfl
  | succ n ih => simp [List.range_succ, sumN_succ, ih]
theorem perm_sum {a b : List Int} (h : a.Perm b) : a.sum = b.sum := by
  induction h with
  | nil => rfl
  | cons x _ ih => simp [ih]
  | swap x y l => simp; omega
  | trans _ _ i j => exact i.trans j
theorem map_getD (t : List Int) (g : Int → Int) : (List.range t.length).map (fun j => g (t.getD j 0)) = t.map g := by
  apply List.ext_getElem (by simp)
  intro i h1 h2
  have h3 : i < t.length := by simpa using h1
  rw [List.getElem_map, List.getElem_map, List.getElem_range, List.getD_eq_getElem?_getD, List.getElem?_eq_getElem h3]
  rfl
/-- The numbers 0 to n less 1. -/
def upB (n : Nat) : List Int := (List.range n).map fun i : Nat => (i : Int)
theorem upB_length (n : Nat) : (upB n).length = n := by simp [upB]
theorem upB_succ (n : Nat) : upB (n + 1) = upB n ++ [(n : Int)] := by simp [upB, List.range_succ]
theorem sum_perm (t : List Int) (n : Nat) (h : t.Perm (upB n)) (g : Int → Int) : sumN (fun x => g (t.getD x 0)) n = sumN (fun x => g (x : Int)) n := by
  have hl : t.length = n := by rw [h.length_eq, upB_length]
  rw [sumN_list, sumN_list, ← hl, map_getD, perm_sum (List.Perm.map g h), hl, upB, List.map_map]
  rfl
/-- Two places of a list, exchanged. -/
theorem swap_perm (t : List Int) (i j : Int) (hi : i.toNat < t.length) (hj : j.toNat < t.length) :
    ((t.set j.toNat (rd t i)).set i.toNat (rd t j)).Perm t := by
  unfold rd
  generalize i.toNat = a at hi
  generalize j.toNat = b at hj
  rw [List.getD_eq_getElem?_getD, List.getElem?_eq_getElem hi, List.getD_eq_getElem?_getD, List.getElem?_eq_getElem hj, Option.getD_some, Option.getD_some]
  refine List.perm_iff_count.2 fun x => ?_
  rw [List.count_set (by simpa using hi), List.count_set hj]
  have c1 : t[a] = x → 1 ≤ List.count x t := fun e => List.count_pos_iff.2 (e ▸ List.getElem_mem hi)
  have c2 : t[b] = x → 1 ≤ List.count x t := fun e => List.count_pos_iff.2 (e ▸ List.getElem_mem hj)
  rw [List.getElem_set]
  by_cases e : b = a
  · subst e
    by_cases h2 : t[b] = x
    · have := c2 h2; simp [h2]; omega
    · simp [h2]
  · by_cases h1 : t[a] = x <;> by_cases h2 : t[b] = x
    · have := c1 h1; simp [h1, h2, e]; omega
    · simp [h1, h2, e]
    · have := c2 h2; simp [h1, h2, e]; omega
    · simp [h1, h2, e]
end Go.Proofs.Yteadclhlipcfpaa.Plain
