/- Small whole numbers as floats: the word of each, and that '+', '-', '*' and '==' on such words are those of the numbers. Conditions: of less than 53 bits. -/
import Derived.Laws.ComplexArith
import Derived.Laws.FloatBits
namespace Go.Proofs.Yteadclhlipcfpaa.Flo
open Ieee

/-- The word of a sign and a whole number of less than 53 bits. -/
def wd (s : Bool) (n : Nat) : Nat :=
  double.word s (if n = 0 then 0 else (n.log2 + 1022) * 2 ^ 52 + n * 2 ^ (52 - n.log2))

theorem log_le {n : Nat} (h0 : n ≠ 0) (h : n < 2 ^ 53) : n.log2 ≤ 52 := by
  have := (Nat.log2_lt h0).2 h
  omega
theorem log_mul {n : Nat} (h0 : n ≠ 0) (q : Nat) : (n * 2 ^ q).log2 = n.log2 + q := by
  have hp : n * 2 ^ q ≠ 0 := Nat.mul_ne_zero h0 (Nat.pos_iff_ne_zero.1 (Nat.two_pow_pos q))
  have l1 : 2 ^ n.log2 ≤ n := Nat.log2_self_le h0
  have l2 : n < 2 ^ (n.log2 + 1) := Nat.lt_log2_self
  have a : n.log2 + q ≤ (n * 2 ^ q).log2 := (Nat.le_log2 hp).2 (by rw [Nat.pow_add]; exact Nat.mul_le_mul_right _ l1)
  have b : (n * 2 ^ q).log2 < n.log2 + q + 1 := (Nat.log2_lt hp).2 (by
    rw [show n.log2 + q + 1 = (n.log2 + 1) + q by omega, Nat.pow_add]
    exact Nat.mul_lt_mul_of_pos_right l2 (Nat.two_pow_pos q))
  omega
/-- The significand, as it is kept. -/
theorem kept_range {n : Nat} (h0 : n ≠ 0) (h : n < 2 ^ 53) : 2 ^ 52 ≤ n * 2 ^ (52 - n.log2) ∧ n * 2 ^ (52 - n.log2) < 2 ^ 53 := by
  have hL := log_le h0 h
  have l1 : 2 ^ n.log2 ≤ n := Nat.log2_self_le h0
  have l2 : n < 2 ^ (n.log2 + 1) := Nat.lt_log2_self
  constructor
  · calc 2 ^ 52 = 2 ^ n.log2 * 2 ^ (52 - n.log2) := by rw [← Nat.pow_add]; congr 1; omega
      _ ≤ n * 2 ^ (52 - n.log2) := Nat.mul_le_mul_right _ l1
  · calc n * 2 ^ (52 - n.log2) < 2 ^ (n.log2 + 1) * 2 ^ (52 - n.log2) := Nat.mul_lt_mul_of_pos_right l2 (Nat.two_pow_pos _)
      _ = 2 ^ 53 := by rw [← Nat.pow_add]; congr 1; omega

theorem cut_exact (way : Toward) (s : Bool) (a d : Nat) (hd : d ≤ (a * 2 ^ d).log2 + 2) : way.cut s (a * 2 ^ d) d = a := by
  unfold Toward.cut
  have hm : min d ((a * 2 ^ d).log2 + 2) = d := Nat.min_eq_left hd
  have hp : 0 < 2 ^ d := Nat.two_pow_pos d
  simp only [hm, Nat.shiftLeft_eq, Nat.one_mul]
  rw [Nat.mul_div_cancel _ hp, Nat.mul_mod_left]
  cases way <;> simp <;> omega

theorem nearest_eq (s : Bool) (n q : Nat) (h : n < 2 ^ 53) : double.nearest s (n <<< q) (-(q : Int)) = wd s n := by
  unfold Format.nearest wd
  by_cases h0 : n = 0
  · subst h0; simp
  have hs : n <<< q = n * 2 ^ q := Nat.shiftLeft_eq n q
  have hne : n <<< q ≠ 0 := by rw [hs]; exact Nat.mul_ne_zero h0 (Nat.pos_iff_ne_zero.1 (Nat.two_pow_pos q))
  have hL := log_le h0 h
  have hk := kept_range h0 h
  rw [if_neg hne, if_neg h0, hs, log_mul h0 q]
  have hlast : max (-(q : Int) + ((n.log2 + q : Nat) : Int) - (double.fractionBits : Int)) double.leastPlace = (n.log2 : Int) - 52 := by
    have e1 : (double.fractionBits : Int) = 52 := rfl
    have e2 : double.leastPlace = -1074 := by decide
    rw [e1, e2]; omega
  dsimp only
  rw [hlast]
  have hkept : Toward.even.cut s ((n * 2 ^ q) <<< (-(q : Int) - ((n.log2 : Int) - 52)).toNat) ((n.log2 : Int) - 52 - -(q : Int)).toNat = n * 2 ^ (52 - n.log2) := by
    rw [Nat.shiftLeft_eq]
    by_cases hq : q + n.log2 ≤ 52
    · have a1 : (-(q : Int) - ((n.log2 : Int) - 52)).toNat = 52 - n.log2 - q := by omega
      have a2 : ((n.log2 : Int) - 52 - -(q : Int)).toNat = 0 := by omega
      rw [a1, a2, Nat.mul_assoc, ← Nat.pow_add, show q + (52 - n.log2 - q) = 52 - n.log2 by omega]
      have := cut_exact .even s (n * 2 ^ (52 - n.log2)) 0 (by omega)
      rwa [Nat.pow_zero, Nat.mul_one] at this
    · have a1 : (-(q : Int) - ((n.log2 : Int) - 52)).toNat = 0 := by omega
      have a2 : ((n.log2 : Int) - 52 - -(q : Int)).toNat = q + n.log2 - 52 := by omega
      rw [a1, a2, Nat.pow_zero, Nat.mul_one]
      have e : n * 2 ^ q = (n * 2 ^ (52 - n.log2)) * 2 ^ (q + n.log2 - 52) := by
        rw [Nat.mul_assoc, ← Nat.pow_add]; congr 2; omega
      rw [e]
      refine cut_exact .even s _ _ ?_
      rw [← e, log_mul h0 q]; omega
  rw [hkept]
  have hb : double.binade = 2 ^ 52 := rfl
  have hi : double.infRung = 2047 * 2 ^ 52 := by decide
  have e2 : double.leastPlace = -1074 := by decide
  have ht : ((n.log2 : Int) - 52 - double.leastPlace).toNat = n.log2 + 1022 := by rw [e2]; omega
  rw [ht, hb, hi, Nat.min_eq_left]
  refine Nat.le_trans (Nat.add_le_add (Nat.mul_le_mul_right _ (by omega : n.log2 + 1022 ≤ 1074)) (Nat.le_of_lt hk.2)) ?_
  decide

theorem sw : double.signWeight = 2 ^ 63 := by decide
theorem word_parts (s : Bool) (r : Nat) (h : r < 2 ^ 63) : (double.word s r / double.signWeight % 2 == 1) = s ∧ double.word s r % double.signWeight = r := by
  unfold Format.word
  rw [sw]
  cases s
  · simp only [Bool.false_eq_true, if_false]
    refine ⟨?_, Nat.mod_eq_of_lt h⟩
    rw [Nat.div_eq_of_lt h]; rfl
  · simp only [if_true]
    refine ⟨?_, by omega⟩
    rw [show (2 ^ 63 + r) / 2 ^ 63 = 1 by omega]; rfl

/-- How far a word's last place stands below one. -/
def pl (n : Nat) : Nat := if n = 0 then 1074 else 52 - n.log2
/-- What such a word stands for. -/
theorem read_pl (s : Bool) (n : Nat) (h : n < 2 ^ 53) : double.read (wd s n) = .number s (n <<< pl n) (-(pl n : Int)) := by
  unfold wd pl
  by_cases h0 : n = 0
  · subst h0
    rw [if_pos rfl, if_pos rfl]
    have hw := word_parts s 0 (by decide)
    unfold Format.read
    dsimp only
    rw [hw.1, hw.2, if_pos (by decide)]
    simp only [Nat.zero_shiftLeft]
    congr 1
  · have hL := log_le h0 h
    have hk := kept_range h0 h
    rw [if_neg h0, if_neg h0]
    obtain ⟨f, hf⟩ : ∃ f, n * 2 ^ (52 - n.log2) = 2 ^ 52 + f := ⟨n * 2 ^ (52 - n.log2) - 2 ^ 52, by omega⟩
    have hf2 : f < 2 ^ 52 := by omega
    have e : (n.log2 + 1022) * 2 ^ 52 + n * 2 ^ (52 - n.log2) = (n.log2 + 1023) * 2 ^ 52 + f := by rw [hf]; omega
    rw [e]
    have hu : (n.log2 + 1023) * 2 ^ 52 + f < 2047 * 2 ^ 52 :=
      Nat.lt_of_lt_of_le (Nat.add_lt_add_of_le_of_lt (Nat.mul_le_mul_right _ (by omega : n.log2 + 1023 ≤ 1075)) hf2) (by decide)
    have hl : ¬ (n.log2 + 1023) * 2 ^ 52 + f < 2 ^ 52 :=
      Nat.not_lt.2 (Nat.le_trans (Nat.le_trans (by decide : 2 ^ 52 ≤ 1 * 2 ^ 52) (Nat.mul_le_mul_right _ (by omega : 1 ≤ n.log2 + 1023))) (Nat.le_add_right _ _))
    have hw := word_parts s ((n.log2 + 1023) * 2 ^ 52 + f) (Nat.lt_of_lt_of_le hu (by decide))
    have hb : double.binade = 2 ^ 52 := rfl
    have hi : double.infRung = 2047 * 2 ^ 52 := by decide
    have e2 : double.leastPlace = -1074 := by decide
    have m1 : ((n.log2 + 1023) * 2 ^ 52 + f) % 2 ^ 52 = f := by rw [Nat.mul_comm, Nat.mul_add_mod]; exact Nat.mod_eq_of_lt hf2
    have m2 : ((n.log2 + 1023) * 2 ^ 52 + f) / 2 ^ 52 = n.log2 + 1023 := by
      rw [Nat.mul_comm, Nat.mul_add_div (Nat.two_pow_pos 52), Nat.div_eq_of_lt hf2, Nat.add_zero]
    unfold Format.read
    dsimp only
    rw [hw.1, hw.2, hb, hi, if_neg hl, if_pos hu, m1, m2, e2, ← hf, Nat.shiftLeft_eq]
    have e9 : (-1074 + ((n.log2 + 1023 - 1 : Nat) : Int)) = -((52 - n.log2 : Nat) : Int) := by clear hw hu hl hf hf2 e m1 m2 hb hi hk; omega
    rw [e9]

theorem read_wd (s : Bool) (n : Nat) (h : n < 2 ^ 53) : ∃ q : Nat, double.read (wd s n) = .number s (n <<< q) (-(q : Int)) := ⟨pl n, read_pl s n h⟩

theorem signed_shift (s : Bool) (n a b : Nat) : signed s (n <<< a) b = (if s then -(n : Int) else (n : Int)) * 2 ^ (a + b) := by
  unfold signed
  rw [← Nat.shiftLeft_add, Nat.shiftLeft_eq]
  split
  · rw [Int.natCast_mul, Int.natCast_pow, Int.neg_mul]; rfl
  · rw [Int.natCast_mul, Int.natCast_pow]; rfl

/-- The number of a sign and a size. -/
def val (s : Bool) (n : Nat) : Int := if s then -(n : Int) else (n : Int)
theorem val_abs (s : Bool) (n : Nat) : (val s n).natAbs = n := by cases s <;> simp [val]

theorem pow_pos' (q : Nat) : (0 : Int) < 2 ^ q := by
  have : (0 : Int) < ((2 ^ q : Nat) : Int) := by exact_mod_cast Nat.two_pow_pos q
  simpa using this

/-- A sum. -/
theorem add_wd (s t : Bool) (m n : Nat) (hm : m < 2 ^ 53) (hn : n < 2 ^ 53) (h : (val s m + val t n).natAbs < 2 ^ 53) :
    double.add (wd s m) (wd t n) = some (wd (if val s m + val t n = 0 then s && t else decide (val s m + val t n < 0)) (val s m + val t n).natAbs) := by
  obtain ⟨p, hp⟩ := read_wd s m hm
  obtain ⟨q, hq⟩ := read_wd t n hn
  unfold Format.add
  rw [hp, hq]
  unfold Datum.sum
  dsimp only
  obtain ⟨b, hb⟩ : ∃ b : Nat, b = max p q := ⟨_, rfl⟩
  have hbase : min (-(p : Int)) (-(q : Int)) = -(b : Int) := by omega
  rw [hbase]
  have e1 : signed s (m <<< p) (-(p : Int) - -(b : Int)).toNat = val s m * 2 ^ b := by
    rw [signed_shift]; unfold val; congr 2; omega
  have e2 : signed t (n <<< q) (-(q : Int) - -(b : Int)).toNat = val t n * 2 ^ b := by
    rw [signed_shift]; unfold val; congr 2; omega
  rw [e1, e2, ← Int.add_mul]
  have hpos := pow_pos' b
  generalize hv : val s m + val t n = v at h
  have hz : (v * 2 ^ b = 0) ↔ (v = 0) := by
    constructor
    · intro h'
      rcases Int.mul_eq_zero.1 h' with h' | h'
      · exact h'
      · omega
    · intro h'; rw [h', Int.zero_mul]
  have hlt : (v * 2 ^ b < 0) ↔ (v < 0) := by
    constructor
    · intro h'
      by_cases hc : v < 0
      · exact hc
      · have := Int.mul_nonneg (by omega : 0 ≤ v) (Int.le_of_lt hpos); omega
    · intro h'; exact Int.mul_neg_of_neg_of_pos h' hpos
  have habs : (v * 2 ^ b).natAbs = v.natAbs <<< b := by
    rw [Int.natAbs_mul, Nat.shiftLeft_eq, Int.natAbs_pow]; rfl
  show some (double.write _) = _
  unfold Format.write
  dsimp only
  rw [habs, nearest_eq _ _ _ h]
  simp only [hz, hlt]

/-- A product. -/
theorem mul_wd (s t : Bool) (m n : Nat) (hm : m < 2 ^ 53) (hn : n < 2 ^ 53) (h : m * n < 2 ^ 53) :
    double.mul (wd s m) (wd t n) = some (wd (s ^^ t) (m * n)) := by
  obtain ⟨p, hp⟩ := read_wd s m hm
  obtain ⟨q, hq⟩ := read_wd t n hn
  unfold Format.mul
  rw [hp, hq]
  unfold Datum.product
  show some (double.write _) = _
  unfold Format.write
  dsimp only
  have e : m <<< p * n <<< q = (m * n) <<< (p + q) := by
    rw [Nat.shiftLeft_eq, Nat.shiftLeft_eq, Nat.shiftLeft_eq, Nat.pow_add]
    rw [Nat.mul_assoc, Nat.mul_assoc]; congr 1
    rw [Nat.mul_left_comm]
  rw [e, show -(p : Int) + -(q : Int) = -((p + q : Nat) : Int) by omega, nearest_eq _ _ _ h]

/-- The other sign. -/
theorem read_opp (t : Bool) (n : Nat) (h : n < 2 ^ 53) : ∃ q : Nat, (double.read (wd t n)).opposite = .number (!t) (n <<< q) (-(q : Int)) := by
  obtain ⟨q, hq⟩ := read_wd t n h
  exact ⟨q, by rw [hq]; rfl⟩
/-- A difference. -/
theorem sub_wd (s t : Bool) (m n : Nat) (hm : m < 2 ^ 53) (hn : n < 2 ^ 53) (h : (val s m + val (!t) n).natAbs < 2 ^ 53) :
    double.sub (wd s m) (wd t n) = some (wd (if val s m + val (!t) n = 0 then s && !t else decide (val s m + val (!t) n < 0)) (val s m + val (!t) n).natAbs) := by
  have e := add_wd s (!t) m n hm hn h
  unfold Format.add at e
  unfold Format.sub
  rw [← e, read_pl t n hn, read_pl (!t) n hn]
  rfl

/-- Which stands first. -/
theorem order_wd (s t : Bool) (m n : Nat) (hm : m < 2 ^ 53) (hn : n < 2 ^ 53) : (double.order (wd s m) (wd t n) == some .eq) = decide (val s m = val t n) := by
  obtain ⟨p, hp⟩ := read_wd s m hm
  obtain ⟨q, hq⟩ := read_wd t n hn
  unfold Format.order
  rw [hp, hq]
  unfold Datum.order
  dsimp only
  obtain ⟨b, hb⟩ : ∃ b : Nat, b = max p q := ⟨_, rfl⟩
  have hbase : min (-(p : Int)) (-(q : Int)) = -(b : Int) := by omega
  rw [hbase]
  have e1 : signed s (m <<< p) (-(p : Int) - -(b : Int)).toNat = val s m * 2 ^ b := by
    rw [signed_shift]; unfold val; congr 2; omega
  have e2 : signed t (n <<< q) (-(q : Int) - -(b : Int)).toNat = val t n * 2 ^ b := by
    rw [signed_shift]; unfold val; congr 2; omega
  rw [e1, e2]
  have hpos := pow_pos' b
  by_cases h : val s m = val t n
  · rw [h, decide_eq_true rfl]
    simp [compare, compareOfLessAndEq]
  · rw [decide_eq_false h]
    have : val s m * 2 ^ b ≠ val t n * 2 ^ b := fun h' => h (Int.eq_of_mul_eq_mul_right (by omega) h')
    simp [compare, compareOfLessAndEq, this]
    split <;> simp

/-- As a whole number again. -/
theorem toInt_wd (s : Bool) (n : Nat) (h : n < 2 ^ 53) : (double.read (wd s n)).toInt .zero = some (val s n) := by
  obtain ⟨q, hq⟩ := read_wd s n h
  rw [hq]
  unfold Datum.toInt Datum.integral
  dsimp only
  have a1 : (-(q : Int)).toNat = 0 := by omega
  have a2 : (- -(q : Int)).toNat = q := by omega
  rw [a1, a2, Nat.shiftLeft_zero, Nat.shiftLeft_eq]
  have hc : Toward.zero.cut s (n * 2 ^ q) q = n := by
    by_cases h0 : n = 0
    · subst h0
      unfold Toward.cut
      simp
    · exact cut_exact .zero s n q (by rw [log_mul h0]; omega)
  rw [hc]
  have := signed_shift s n 0 0
  rw [Nat.shiftLeft_zero] at this
  rw [this]; simp [val]
end Go.Proofs.Yteadclhlipcfpaa.Flo
