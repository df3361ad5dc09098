/- Powers of i and sums of them, as whole numbers and as words: plain lists and numbers, no program in sight. Conditions: numbers of less than 53 bits. -/
import Derived.Test.YteadclhlipcfpaaFloWords
import Derived.Test.YteadclhlipcfpaaFloatPlain
import Derived.Test.YteadclhlipcfpaaWMore
namespace Go.Proofs.Yteadclhlipcfpaa.Plain
open Go.RowKit Go.Proofs.YteadclhlipcfpaaW.PrintWords Go.Proofs.Yteadclhlipcfpaa.Flo Go.Proofs.Yteadclhlipcfpaa.FloWords

def Bytes (b : List Int) : Prop := ∀ x ∈ b, 0 ≤ x ∧ x < 256
theorem wf_u8 {x : Int} (h : (Lit.int .u8 x).wf = true) : 0 ≤ x ∧ x < 256 := by
  simp [Lit.wf, IntKind.min, IntKind.max, IntKind.signed, IntKind.bits] at h; omega
theorem wf_i64 {x : Int} (h : (Lit.int .i64 x).wf = true) : -9223372036854775808 ≤ x ∧ x ≤ 9223372036854775807 := by
  simp [Lit.wf, IntKind.min, IntKind.max, IntKind.signed, IntKind.bits] at h; omega
theorem w_of {x : Int} (h0 : -9223372036854775808 ≤ x) (h1 : x ≤ 9223372036854775807) : wrap64 x = x := by unfold wrap64; omega
theorem w_succ {i : Nat} (h : i ≤ 281474976710656) : wrap64 ((i : Int) + 1) = ((i + 1 : Nat) : Int) := by unfold wrap64; omega
theorem w_mod4 (x : Int) : wrap64 x % 4 = x % 4 := by unfold wrap64; omega
theorem rd_nat (xs : List Int) (i : Nat) : rd xs (i : Int) = xs.getD i 0 := by unfold rd; rw [Int.toNat_natCast]
theorem getD_lt {l : List Int} {i : Nat} (h : i < l.length) : l.getD i 0 = l[i] := by
  rw [List.getD_eq_getElem?_getD, List.getElem?_eq_getElem h]; rfl
theorem getD_over {b : List Int} {j : Nat} (h : b.length ≤ j) : b.getD j 0 = 0 := by
  rw [List.getD_eq_getElem?_getD, List.getElem?_eq_none h]; rfl
theorem bytes_getD {b : List Int} (h : Bytes b) (i : Nat) : 0 ≤ b.getD i 0 ∧ b.getD i 0 < 256 := by
  by_cases hi : i < b.length
  · rw [getD_lt hi]; exact h _ (List.getElem_mem hi)
  · rw [getD_over (by omega)]; omega
theorem getD_append (a b : List Int) (j : Nat) : (a ++ b).getD j 0 = if j < a.length then a.getD j 0 else b.getD (j - a.length) 0 := by
  rw [List.getD_eq_getElem?_getD, List.getD_eq_getElem?_getD, List.getD_eq_getElem?_getD, List.getElem?_append]
  split <;> rfl
theorem getD_take (a : List Int) (m j : Nat) : (a.take m).getD j 0 = if j < m then a.getD j 0 else 0 := by
  rw [List.getD_eq_getElem?_getD, List.getElem?_take]
  by_cases h : j < m
  · simp [h]
  · simp [h]

/-! ### words -/
/-- A word of a whole number (a nought may bear a sign). -/
def W (x : Nat) (v : Int) : Prop := ∃ s m, x = wd s m ∧ m < 2 ^ 53 ∧ val s m = v
/-- The word of a whole number. -/
def F (v : Int) : Nat := wd (decide (v < 0)) v.natAbs
theorem val_F (v : Int) : val (decide (v < 0)) v.natAbs = v := by
  unfold val
  by_cases h : v < 0
  · rw [decide_eq_true h, if_pos rfl]; omega
  · rw [decide_eq_false h, if_neg (by simp)]; omega
theorem W_F {v : Int} (h : v.natAbs < 2 ^ 53) : W (F v) v := ⟨_, _, rfl, h, val_F v⟩
theorem F_add {a b : Int} (ha : a.natAbs < 2 ^ 53) (hb : b.natAbs < 2 ^ 53) (h : (a + b).natAbs < 2 ^ 53) : floatBits .add .f64 (F a) (F b) = some (F (a + b)) := by
  have e := add_wd (decide (a < 0)) (decide (b < 0)) a.natAbs b.natAbs ha hb (by rw [val_F, val_F]; exact h)
  rw [val_F, val_F] at e
  show Ieee.double.add (F a) (F b) = _
  unfold F
  rw [e]
  congr 1
  by_cases h0 : a + b = 0
  · rw [if_pos h0]
    have : (decide (a < 0) && decide (b < 0)) = decide (a + b < 0) := by
      rw [Bool.eq_iff_iff]; simp; omega
    rw [this]
  · rw [if_neg h0]
theorem W_add {x y : Nat} {a b : Int} (hx : W x a) (hy : W y b) (h : (a + b).natAbs < 2 ^ 53) : ∃ r, floatBits .add .f64 x y = some r ∧ W r (a + b) := by
  obtain ⟨s, m, rfl, hm, rfl⟩ := hx
  obtain ⟨t, n, rfl, hn, rfl⟩ := hy
  refine ⟨_, add_wd s t m n hm hn h, _, _, rfl, h, ?_⟩
  generalize hv : val s m + val t n = v at h
  unfold val
  by_cases h0 : v = 0
  · subst h0; rw [if_pos rfl]; split <;> rfl
  · rw [if_neg h0]
    by_cases h1 : v < 0
    · rw [decide_eq_true h1, if_pos rfl]; omega
    · rw [decide_eq_false h1, if_neg (by simp)]; omega
theorem val_not (s : Bool) (m : Nat) : val (!s) m = - val s m := by cases s <;> simp [val]
theorem W_sub {x y : Nat} {a b : Int} (hx : W x a) (hy : W y b) (h : (a - b).natAbs < 2 ^ 53) : ∃ r, floatBits .sub .f64 x y = some r ∧ W r (a - b) := by
  obtain ⟨s, m, rfl, hm, rfl⟩ := hx
  obtain ⟨t, n, rfl, hn, rfl⟩ := hy
  have h' : (val s m + val (!t) n).natAbs < 2 ^ 53 := by rw [val_not]; exact h
  refine ⟨_, sub_wd s t m n hm hn h', _, _, rfl, h', ?_⟩
  rw [val_not, show val s m + -val t n = val s m - val t n from rfl] at *
  generalize hv : val s m - val t n = v at h
  unfold val
  by_cases h0 : v = 0
  · subst h0; rw [if_pos rfl]; split <;> rfl
  · rw [if_neg h0]
    by_cases h1 : v < 0
    · rw [decide_eq_true h1, if_pos rfl]; omega
    · rw [decide_eq_false h1, if_neg (by simp)]; omega
theorem val_mul (s t : Bool) (m n : Nat) : val (s ^^ t) (m * n) = val s m * val t n := by
  cases s <;> cases t <;> simp [val, Int.neg_mul, Int.mul_neg]
theorem W_mul {x y : Nat} {a b : Int} (hx : W x a) (hy : W y b) (h : (a * b).natAbs < 2 ^ 53) : ∃ r, floatBits .mul .f64 x y = some r ∧ W r (a * b) := by
  obtain ⟨s, m, rfl, hm, rfl⟩ := hx
  obtain ⟨t, n, rfl, hn, rfl⟩ := hy
  have h' : m * n < 2 ^ 53 := by
    rw [Int.natAbs_mul, val_abs, val_abs] at h; exact h
  exact ⟨_, mul_wd s t m n hm hn h', _, _, rfl, h', val_mul s t m n⟩
theorem W_order {x y : Nat} {a b : Int} (hx : W x a) (hy : W y b) : (FloatKind.f64.format.order x y == some .eq) = decide (a = b) := by
  obtain ⟨s, m, rfl, hm, rfl⟩ := hx
  obtain ⟨t, n, rfl, hn, rfl⟩ := hy
  exact order_wd s t m n hm hn
theorem W_int {x : Nat} {a : Int} (hx : W x a) : floatToIntVal .f64 x .i64 = some a := by
  obtain ⟨s, m, rfl, hm, rfl⟩ := hx
  have e := toInt_wd s m hm
  unfold floatToIntVal
  show (match (Ieee.double.read (wd s m)).toInt .zero with | some n => if IntKind.i64.min ≤ n ∧ n ≤ IntKind.i64.max then some n else none | none => none) = _
  rw [e]
  have h1 : -9007199254740992 ≤ val s m ∧ val s m ≤ 9007199254740992 := by
    have := val_abs s m
    have h2 : (2 : Nat) ^ 53 = 9007199254740992 := by decide
    rw [h2] at hm
    omega
  have h3 : IntKind.i64.min = -9223372036854775808 := by decide
  have h4 : IntKind.i64.max = 9223372036854775807 := by decide
  dsimp only
  rw [if_pos ⟨by omega, by omega⟩]
theorem W_ires {x : Nat} {a : Int} (hx : W x a) : (floatToIntVal .f64 x .i64).isSome = true ∧ ires .i64 x = a := by
  have e := W_int hx
  refine ⟨by rw [e]; rfl, ?_⟩
  unfold ires; rw [e]; rfl

/-! ### complex numbers -/
/-- A sum of two. -/
theorem C_add {x1 x2 y1 y2 : Nat} {a1 a2 b1 b2 : Int} (h1 : W x1 a1) (h2 : W x2 a2) (h3 : W y1 b1) (h4 : W y2 b2) (hr : (a1 + b1).natAbs < 2 ^ 53) (hi : (a2 + b2).natAbs < 2 ^ 53) :
    (cop .add x1 x2 y1 y2).isSome = true ∧ W (cres .add x1 x2 y1 y2).1 (a1 + b1) ∧ W (cres .add x1 x2 y1 y2).2 (a2 + b2) := by
  obtain ⟨r, er, wr⟩ := W_add h1 h3 hr
  obtain ⟨i, ei, wi⟩ := W_add h2 h4 hi
  have e : cop .add x1 x2 y1 y2 = some (r, i) := by
    show cSumBits .add .f64 x1 x2 y1 y2 = _
    unfold cSumBits; rw [er, ei]; rfl
  unfold cres
  rw [e]
  exact ⟨rfl, wr, wi⟩
/-- A sum of two, the words. -/
theorem C_addF {a1 a2 b1 b2 : Int} (h1 : a1.natAbs < 2 ^ 53) (h2 : a2.natAbs < 2 ^ 53) (h3 : b1.natAbs < 2 ^ 53) (h4 : b2.natAbs < 2 ^ 53) (hr : (a1 + b1).natAbs < 2 ^ 53) (hi : (a2 + b2).natAbs < 2 ^ 53) :
    (cop .add (F a1) (F a2) (F b1) (F b2)).isSome = true ∧ cres .add (F a1) (F a2) (F b1) (F b2) = (F (a1 + b1), F (a2 + b2)) := by
  have e : cop .add (F a1) (F a2) (F b1) (F b2) = some (F (a1 + b1), F (a2 + b2)) := by
    show cSumBits .add .f64 _ _ _ _ = _
    unfold cSumBits; rw [F_add h1 h3 hr, F_add h2 h4 hi]; rfl
  unfold cres
  rw [e]
  exact ⟨rfl, rfl⟩
/-- A product. -/
theorem C_mul {x1 x2 y1 y2 : Nat} {a1 a2 b1 b2 : Int} (h1 : W x1 a1) (h2 : W x2 a2) (h3 : W y1 b1) (h4 : W y2 b2)
    (p1 : (a1 * b1).natAbs < 2 ^ 51) (p2 : (a2 * b2).natAbs < 2 ^ 51) (p3 : (a1 * b2).natAbs < 2 ^ 51) (p4 : (a2 * b1).natAbs < 2 ^ 51) :
    (cop .mul x1 x2 y1 y2).isSome = true ∧ W (cres .mul x1 x2 y1 y2).1 (a1 * b1 - a2 * b2) ∧ W (cres .mul x1 x2 y1 y2).2 (a1 * b2 + a2 * b1) := by
  have big : (2 : Nat) ^ 51 = 2251799813685248 := by decide
  have big2 : (2 : Nat) ^ 53 = 9007199254740992 := by decide
  obtain ⟨ac, e1, w1⟩ := W_mul h1 h3 (by omega)
  obtain ⟨bd, e2, w2⟩ := W_mul h2 h4 (by omega)
  obtain ⟨re, e3, w3⟩ := W_sub w1 w2 (by omega)
  obtain ⟨ad, e4, w4⟩ := W_mul h1 h4 (by omega)
  obtain ⟨bc, e5, w5⟩ := W_mul h2 h3 (by omega)
  obtain ⟨im, e6, w6⟩ := W_add w4 w5 (by omega)
  have e : cop .mul x1 x2 y1 y2 = some (re, im) := by
    show cMulBits x1 x2 y1 y2 = _
    unfold cMulBits; rw [e1, Option.bind_some, e2, Option.bind_some, e3, Option.bind_some, e4, Option.bind_some, e5, Option.bind_some, e6, Option.bind_some]
  unfold cres
  rw [e]
  exact ⟨rfl, w3, w6⟩

/-! ### powers of i -/
def iR (n : Int) : Int := if n % 4 = 0 then 1 else if n % 4 = 2 then -1 else 0
def iI (n : Int) : Int := if n % 4 = 1 then 1 else if n % 4 = 3 then -1 else 0
theorem iR_mod (n m : Int) (h : n % 4 = m % 4) : iR n = iR m := by unfold iR; rw [h]
theorem iI_mod (n m : Int) (h : n % 4 = m % 4) : iI n = iI m := by unfold iI; rw [h]
theorem i_range (n : Int) : -1 ≤ iR n ∧ iR n ≤ 1 ∧ -1 ≤ iI n ∧ iI n ≤ 1 := by
  unfold iR iI
  repeat' split
  all_goals omega
theorem i_cases (n : Int) : (n % 4 = 0 ∧ iR n = 1 ∧ iI n = 0) ∨ (n % 4 = 1 ∧ iR n = 0 ∧ iI n = 1) ∨ (n % 4 = 2 ∧ iR n = -1 ∧ iI n = 0) ∨ (n % 4 = 3 ∧ iR n = 0 ∧ iI n = -1) := by
  unfold iR iI
  have : n % 4 = 0 ∨ n % 4 = 1 ∨ n % 4 = 2 ∨ n % 4 = 3 := by omega
  rcases this with h | h | h | h <;> rw [h] <;> decide
theorem i_add (a b : Int) : iR (a + b) = iR a * iR b - iI a * iI b ∧ iI (a + b) = iR a * iI b + iI a * iR b := by
  rcases i_cases a with ⟨ha, ra, ia⟩ | ⟨ha, ra, ia⟩ | ⟨ha, ra, ia⟩ | ⟨ha, ra, ia⟩ <;>
  rcases i_cases b with ⟨hb, rb, ib⟩ | ⟨hb, rb, ib⟩ | ⟨hb, rb, ib⟩ | ⟨hb, rb, ib⟩ <;>
  rcases i_cases (a + b) with ⟨hc, rc, ic⟩ | ⟨hc, rc, ic⟩ | ⟨hc, rc, ic⟩ | ⟨hc, rc, ic⟩ <;>
  first
  | (exfalso; omega)
  | (rw [ra, ia, rb, ib, rc, ic]; decide)
/-! ### sums -/
def sumN (f : Nat → Int) : Nat → Int
  | 0 => 0
  | n + 1 => sumN f n + f n
theorem sumN_succ (f : Nat → Int) (n : Nat) : sumN f (n + 1) = sumN f n + f n := rfl
theorem sumN_le {f : Nat → Int} {c : Nat} (h : ∀ i, -(c : Int) ≤ f i ∧ f i ≤ c) (n : Nat) : -((c * n : Nat) : Int) ≤ sumN f n ∧ sumN f n ≤ ((c * n : Nat) : Int) := by
  induction n with
  | zero => simp [sumN]
  | succ n ih =>
    have := h n
    rw [sumN_succ, Nat.mul_succ]
    omega
theorem sumN_congr {f g : Nat → Int} (n : Nat) (h : ∀ i, i < n → f i = g i) : sumN f n = sumN g n := by
  induction n with
  | zero => rfl
  | succ n ih => rw [sumN_succ, sumN_succ, ih fun i hi => h i (by omega), h n (by omega)]
theorem sumN_add (f : Nat → Int) (n m : Nat) : sumN f (n + m) = sumN f n + sumN (fun i => f (n + i)) m := by
  induction m with
  | zero => simp [sumN]
  | succ m ih => rw [Nat.add_succ, sumN_succ, sumN_succ, ih]; omega
theorem sumN_plus (f g : Nat → Int) (n : Nat) : sumN (fun i => f i + g i) n = sumN f n + sumN g n := by
  induction n with
  | zero => rfl
  | succ n ih => rw [sumN_succ, sumN_succ, sumN_succ, ih]; omega
theorem sumN_mul (f : Nat → Int) (c : Int) (n : Nat) : sumN (fun i => f i * c) n = sumN f n * c := by
  induction n with
  | zero => simp [sumN]
  | succ n ih => rw [sumN_succ, sumN_succ, ih, Int.add_mul]
/-- The real parts of what Echo adds up. -/
def SR (t : List Int) (a : Int) (n : Nat) : Int := sumN (fun j => iR (t.getD j 0 - a * (j : Int))) n
def SI (t : List Int) (a : Int) (n : Nat) : Int := sumN (fun j => iI (t.getD j 0 - a * (j : Int))) n
theorem S_range (t : List Int) (a : Int) (n : Nat) : -(n : Int) ≤ SR t a n ∧ SR t a n ≤ n ∧ -(n : Int) ≤ SI t a n ∧ SI t a n ≤ n := by
  have h1 := sumN_le (f := fun j => iR (t.getD j 0 - a * (j : Int))) (c := 1) (fun i => by have := i_range (t.getD i 0 - a * (i : Int)); omega) n
  have h2 := sumN_le (f := fun j => iI (t.getD j 0 - a * (j : Int))) (c := 1) (fun i => by have := i_range (t.getD i 0 - a * (i : Int)); omega) n
  unfold SR SI
  rw [Nat.one_mul] at h1 h2
  omega
end Go.Proofs.Yteadclhlipcfpaa.Plain
