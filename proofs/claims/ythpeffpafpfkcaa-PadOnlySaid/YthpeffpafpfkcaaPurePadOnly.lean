/- PadOnly: a block that has a padding is just what is added to what is left: the plain law over the functions' plain forms. Conditions: none beyond the statement's own bounds. -/
import Derived.Test.YthpeffpafpfkcaaMPadOnlyx4
import Derived.Test.YthpeffpafpfkcaaPadPlain
namespace Go.Proofs.Ythpeffpafpfkcaa.Pure
open Go.RowKit Go.Proofs.Ythpeffpafpfkcaa.MPadOnly Go.Proofs.YthpeffpafpfkcaaW.PrintWords Go.Proofs.YthpeffpafpfkcaaW.PrintLast Go.Proofs.YthpeffpafpfkcaaW.PrintMore Go.Proofs.Ythpeffpafpfkcaa.Plain

/-! ### within -/
theorem within_f (a n : Int) (h0 : 0 < n) (h1 : n ≤ 1099511627776) : scrimlaw14_within.f a n = some (a % n) := by
  unfold scrimlaw14_within.f
  rw [if_neg (by omega)]
  have e := Int.tmod_eq_emod (a := a) (b := n)
  have l1 := Int.emod_nonneg a (by omega : n ≠ 0)
  have l2 := Int.emod_lt_of_pos a h0
  by_cases hc : 0 ≤ a ∨ n ∣ a
  · rw [if_pos hc] at e
    rw [if_neg (by omega)]
    congr 1; omega
  · rw [if_neg hc] at e
    have hn : (n.natAbs : Int) = n := by omega
    have hnz : a % n ≠ 0 := fun z => hc (.inr (Int.dvd_of_emod_eq_zero z))
    rw [if_pos (by omega)]
    congr 1
    unfold wrap64; omega

/-! ### made and Add -/
theorem made_loop (n : Nat) (hn : 1 ≤ n) (hn2 : n ≤ 64) (d : Nat) : ∀ (k i : Nat) (xs : List Int), i + d = n → d < k → xs.length = n → (∀ j, j < i → xs.getD j 0 = (n : Int) % 256) → pad_made.l0 k (n : Int) xs (n : Int) (i : Int) = some (List.replicate n ((n : Int) % 256)) := by
  induction d with
  | zero =>
    intro k i xs hd hk hl hx
    obtain ⟨k, rfl⟩ : ∃ m, k = m + 1 := ⟨k - 1, by omega⟩
    unfold pad_made.l0
    have e : wrap64 ((n : Int) - 1) = ((n - 1 : Nat) : Int) := by unfold wrap64; omega
    rw [if_neg (by omega), e, if_pos (by omega), if_pos (by omega), Int.toNat_natCast]
    congr 1
    refine ext_getD (by simpa using hl) fun j hj => ?_
    rw [List.length_set] at hj
    rw [getD_set, getD_replicate, if_pos (by omega : j < n)]
    split
    · rfl
    · exact hx j (by omega)
  | succ d ih =>
    intro k i xs hd hk hl hx
    obtain ⟨k, rfl⟩ : ∃ m, k = m + 1 := ⟨k - 1, by omega⟩
    unfold pad_made.l0
    rw [if_pos (by omega), if_pos (by omega), if_pos (by omega), w_succ (by omega), Int.toNat_natCast]
    refine ih k (i + 1) _ (by omega) (by omega) (by simpa using hl) fun j hj => ?_
    rw [getD_set]
    split
    · rfl
    · exact hx j (by omega)
theorem made_f (k : Nat) (hk : 1000 ≤ k) (kind : Int) (n : Nat) (hn : 1 ≤ n) (hn2 : n ≤ 64) : pad_made.f k kind (n : Int) = some (madeS kind n) := by
  unfold pad_made.f
  have e : wrap64 ((n : Int) - 1) = ((n - 1 : Nat) : Int) := by unfold wrap64; omega
  rw [if_pos (by omega), if_pos (by omega), Option.bind_some, Int.toNat_natCast, List.length_replicate, e]
  unfold madeS
  by_cases h1 : kind = 1
  · rw [if_pos h1, if_pos h1]
    exact made_loop n hn hn2 n k 0 _ (by omega) (by omega) (by simp) (by intro j hj; omega)
  · rw [if_neg h1, if_neg h1]
    by_cases h3 : kind = 3
    · rw [if_pos h3, if_pos h3, if_pos (by omega), if_pos (by omega), Int.toNat_natCast]
    · rw [if_neg h3, if_neg h3]
      by_cases h2 : kind = 2
      · rw [if_pos h2, if_pos h2, if_pos (by omega)]; rfl
      · rw [if_neg h2, if_neg h2]
theorem concat_f (k : Nat) (hk : 1000 ≤ k) (a b : List Int) (ha : a.length ≤ 64) (hb : b.length ≤ 64) : slices_Concat_byte_byte.f k [a, b] = some (a ++ b) := by
  obtain ⟨k, rfl⟩ : ∃ m, k = m + 9 := ⟨k - 9, by omega⟩
  have r0 : rd_L1 [a, b] 0 = a := rfl
  have r1 : rd_L1 [a, b] 1 = b := rfl
  have w1 : wrap64 ((0 : Int) + 1) = 1 := by unfold wrap64; omega
  have w2 : wrap64 ((1 : Int) + 1) = 2 := by unfold wrap64; omega
  have wa : wrap64 (0 + (a.length : Int)) = (a.length : Int) := by unfold wrap64; omega
  have wb : wrap64 ((a.length : Int) + (b.length : Int)) = (a.length : Int) + (b.length : Int) := by unfold wrap64; omega
  have two : (([a, b] : List (List Int)).length : Int) = 2 := rfl
  unfold slices_Concat_byte_byte.f
  rw [two]
  unfold slices_Concat_byte_byte.l0
  rw [if_pos (by omega), if_pos (by omega), if_pos (by rw [two]; omega), r0, wa, if_neg (by omega), w1]
  unfold slices_Concat_byte_byte.l0
  rw [if_pos (by omega), if_pos (by omega), if_pos (by rw [two]; omega), r1, wb, if_neg (by omega), w2]
  unfold slices_Concat_byte_byte.l0
  rw [if_neg (by omega), if_pos (by omega), two]
  unfold slices_Concat_byte_byte.l1
  rw [if_pos (by omega), if_pos (by omega), if_pos (by rw [two]; omega), r0, if_pos (by simp only [List.length_nil]; omega), w1]
  unfold slices_Concat_byte_byte.l1
  rw [if_pos (by omega), if_pos (by omega), if_pos (by rw [two]; omega), r1, if_pos (by simp only [List.nil_append]; omega), w2]
  unfold slices_Concat_byte_byte.l1
  rw [if_neg (by omega)]
  rfl
theorem tell_f (kind : Int) : pad_tell.f kind = some (decide (kind = 1 ∨ kind = 2 ∨ kind = 3)) := by
  unfold pad_tell.f
  by_cases h1 : kind = 1
  · rw [if_pos h1]; subst h1; decide
  · rw [if_neg h1]
    by_cases h2 : kind = 2
    · rw [if_pos h2]; subst h2; decide
    · rw [if_neg h2]
      by_cases h3 : kind = 3
      · rw [if_pos h3]; subst h3; decide
      · rw [if_neg h3, decide_eq_false (by omega)]
theorem sized_f (n : Int) : pad_sized.f n = some (decide (n = 8 ∨ n = 16)) := by
  unfold pad_sized.f
  by_cases h1 : n = 8
  · rw [if_pos h1]; subst h1; decide
  · rw [if_neg h1]
    congr 1
    by_cases h2 : n = 16
    · subst h2; decide
    · rw [decide_eq_false (by omega)]; simpa using h2
/-- What Add answers. -/
def addS (kind size : Int) (l : List Int) : List Int × Int :=
  if kind = 1 ∨ kind = 2 ∨ kind = 3 then
    if (size = 8 ∨ size = 16) ∧ (l.length : Int) < size then (l ++ madeS kind (size.toNat - l.length), 0) else ([], 1)
  else ([], 3)
theorem addj0_f (k : Nat) (x0 x1 : Int) (x2 : List Int) (t : Bool) : pad_Add.j0 (k + 1) x0 x1 x2 t = if t = true then (some (([] : List Int), 1)) else ((pad_made.f k x0 (wrap64 (x1 - (x2.length : Int)))).bind fun t103 => ((slices_Concat_byte_byte.f k (([x2, t103] : List (List Int)))).bind fun t109 => (some (t109, 0)))) := rfl
theorem add_f (k : Nat) (hk : 1001 ≤ k) (kind size : Int) (l : List Int) (hl : l.length ≤ 140737488355328) : pad_Add.f k kind size l = some (addS kind size l) := by
  obtain ⟨k, rfl⟩ : ∃ m, k = m + 1 := ⟨k - 1, by omega⟩
  unfold pad_Add.f addS
  rw [tell_f, Option.bind_some]
  by_cases hK : kind = 1 ∨ kind = 2 ∨ kind = 3
  · rw [decide_eq_true hK, if_pos rfl, if_pos hK, sized_f, Option.bind_some]
    by_cases hS : size = 8 ∨ size = 16
    · rw [decide_eq_true hS, if_pos rfl]
      rw [addj0_f]
      by_cases hL : (l.length : Int) < size
      · rw [decide_eq_false (by omega), if_neg (by simp : ¬ false = true), if_pos ⟨hS, hL⟩]
        have e : wrap64 (size - (l.length : Int)) = ((size.toNat - l.length : Nat) : Int) := by unfold wrap64; omega
        rw [e, made_f k (by omega) kind _ (by omega) (by omega), Option.bind_some, concat_f k (by omega) _ _ (by omega) (by rw [madeS_length]; omega), Option.bind_some]
      · rw [decide_eq_true (by omega), if_pos rfl, if_neg (fun h => hL h.2)]
    · rw [decide_eq_false hS, if_neg (by simp), if_neg (fun h => hS h.1), addj0_f, Bool.not_false, if_pos rfl]
  · rw [decide_eq_false hK, if_neg (by simp), if_neg hK]
theorem addS_of {kind size : Int} {l : List Int} (hk : kind = 1 ∨ kind = 2 ∨ kind = 3) (hs : size = 8 ∨ size = 16) (hl : (l.length : Int) < size) : addS kind size l = (l ++ madeS kind (size.toNat - l.length), 0) := by
  unfold addS; rw [if_pos hk, if_pos ⟨hs, hl⟩]
theorem addS_not {kind size : Int} {l : List Int} (hk : kind = 1 ∨ kind = 2 ∨ kind = 3) (hl : ¬ (l.length : Int) < size) : addS kind size l = ([], 1) := by
  unfold addS; rw [if_pos hk, if_neg (by omega)]
theorem addS_bytes (kind size : Int) (l : List Int) (h : Bytes l) : Bytes (addS kind size l).1 := by
  unfold addS; repeat' split
  · exact bytes_append h (madeS_bytes _ _)
  all_goals exact fun x hx => by simp at hx

/-! ### long and Strip -/
theorem last_loop (b : List Int) (c : Int) (hb : b.length ≤ 281474976710656) (n : Nat) : ∀ (k : Nat), n ≤ b.length → n < k → bytealg_LastIndexByte.l0 k b c ((n : Int) - 1) = some (lastS b c n) := by
  induction n with
  | zero =>
    intro k _ hk
    obtain ⟨k, rfl⟩ : ∃ m, k = m + 1 := ⟨k - 1, by omega⟩
    unfold bytealg_LastIndexByte.l0 lastS
    rw [if_neg (by omega)]
  | succ n ih =>
    intro k hn hk
    obtain ⟨k, rfl⟩ : ∃ m, k = m + 1 := ⟨k - 1, by omega⟩
    unfold bytealg_LastIndexByte.l0 lastS
    have e : ((n + 1 : Nat) : Int) - 1 = (n : Int) := by omega
    have e2 : wrap64 ((n : Int) - 1) = (n : Int) - 1 := by unfold wrap64; omega
    rw [e, if_pos (by omega), if_pos (by omega), if_pos (by omega), rd_nat, e2]
    split
    · rfl
    · exact ih k (by omega) (by omega)
theorem last_f (k : Nat) (b : List Int) (c : Int) (hb : b.length < k) (h2 : b.length ≤ 281474976710656) : bytes_LastIndexByte.f k b c = some (lastS b c b.length) := by
  unfold bytes_LastIndexByte.f bytealg_LastIndexByte.f
  have e : wrap64 ((b.length : Int) - 1) = (b.length : Int) - 1 := by unfold wrap64; omega
  rw [e, last_loop b c h2 b.length k (Nat.le_refl _) hb, Option.bind_some]
theorem j0_f (k : Nat) (hk : 1000 ≤ k) (n : Int) (t : Bool) : pad_long.j0 k n t = some (if t = true then 0 else n) := by
  obtain ⟨k, rfl⟩ : ∃ m, k = m + 1 := ⟨k - 1, by omega⟩
  show (if t = true then some 0 else some n) = _
  split <;> rfl
theorem long_f (k : Nat) (hk : 1000 ≤ k) (kind : Int) (b : List Int) (hb : Bytes b) (h1 : 1 ≤ b.length) (h2 : b.length ≤ 64) : pad_long.f k kind b = some ((longS kind b : Nat) : Int) := by
  unfold pad_long.f longS
  have e : wrap64 ((b.length : Int) - 1) = ((b.length - 1 : Nat) : Int) := by unfold wrap64; omega
  rw [e, if_pos (by omega), if_pos (by omega)]
  by_cases k2 : kind = 2
  · rw [if_pos k2, if_pos k2, last_f k b 128 (by omega) (by omega), Option.bind_some]
    have hr := lastS_range b 128 b.length
    generalize lastS b 128 b.length = i at hr
    have e3 : wrap64 ((b.length : Int) - i) = (b.length : Int) - i := by unfold wrap64; omega
    rw [e3]
    by_cases hi : i < 0
    · rw [if_pos (by omega), if_pos hi]; rfl
    · obtain ⟨i, rfl⟩ : ∃ m : Nat, i = (m : Int) := ⟨i.toNat, by omega⟩
      have e4 : wrap64 ((b.length : Int) - ((b.length : Int) - (i : Int))) = (i : Int) := by unfold wrap64; omega
      have e5 : (b.length : Int) - (i : Int) = ((b.length - i : Nat) : Int) := by omega
      rw [if_neg (by omega), if_neg hi, e4, if_pos (by omega), if_pos (by omega), e5, made_f k hk kind _ (by omega) (by omega), Option.bind_some, Int.toNat_natCast]
      unfold bytes_Equal.f
      rw [Option.bind_some, str_beq (bytes_drop hb _) (madeS_bytes _ _), k2]
      by_cases hd : b.drop i = madeS 2 (b.length - i)
      · rw [decide_eq_true hd, if_pos rfl, if_pos hd]
      · rw [decide_eq_false hd, if_neg (by simp), if_neg hd]; rfl
  · rw [if_neg k2, if_neg k2, rd_nat]
    have hv := bytes_getD hb (b.length - 1)
    generalize b.getD (b.length - 1) 0 = v at hv
    have e3 : wrap64 v = v := by unfold wrap64; omega
    rw [e3, j0_f k hk, j0_f k hk, if_pos rfl]
    obtain ⟨n, rfl⟩ : ∃ m : Nat, v = (m : Int) := ⟨v.toNat, by omega⟩
    rw [Int.toNat_natCast]
    by_cases hn : n < 1 ∨ b.length < n
    · rw [if_pos hn]
      rcases hn with hn | hn
      · rw [if_pos (by omega)]; rfl
      · split
        · rfl
        · rw [if_pos (by omega)]; rfl
    · have e4 : wrap64 ((b.length : Int) - (n : Int)) = ((b.length - n : Nat) : Int) := by unfold wrap64; omega
      rw [if_neg (by omega), if_neg (by omega), if_neg hn]
      by_cases k1 : kind = 1
      · subst k1
        rw [if_pos rfl, e4, if_pos (by omega), if_pos (by omega), made_f k hk 1 n (by omega) (by omega), Option.bind_some, Int.toNat_natCast]
        unfold bytes_Equal.f
        rw [Option.bind_some, str_beq (bytes_drop hb _) (madeS_bytes _ _), j0_f k hk]
        by_cases hd : b.drop (b.length - n) = madeS 1 n
        · rw [decide_eq_true hd, if_neg (by simp : ¬ (!true) = true), if_neg (fun h => h.2 hd)]
        · rw [decide_eq_false hd, Bool.not_false, if_pos rfl, if_pos ⟨rfl, hd⟩]; rfl
      · rw [if_neg k1, if_neg (by simp), if_neg (fun h => k1 h.1)]
/-- What Strip answers. -/
def stripS (kind size : Int) (b : List Int) : List Int × Int :=
  if kind = 1 ∨ kind = 2 ∨ kind = 3 then
    if (size = 8 ∨ size = 16) ∧ (b.length : Int) = size then
      if longS kind b = 0 then ([], 8) else (b.take (b.length - longS kind b), 0)
    else ([], 1)
  else ([], 3)
theorem strip_f (k : Nat) (hk : 1000 ≤ k) (kind size : Int) (b : List Int) (hb : Bytes b) : pad_Strip.f k kind size b = some (stripS kind size b) := by
  unfold pad_Strip.f stripS
  rw [tell_f, Option.bind_some]
  by_cases hK : kind = 1 ∨ kind = 2 ∨ kind = 3
  · rw [decide_eq_true hK, if_pos rfl, if_pos hK, sized_f, Option.bind_some]
    by_cases hS : size = 8 ∨ size = 16
    · rw [decide_eq_true hS, if_pos rfl]
      by_cases hL : (b.length : Int) = size
      · rw [if_pos hL, if_pos ⟨hS, hL⟩, long_f k hk kind b hb (by omega) (by omega), Option.bind_some]
        have hle := longS_le kind b
        generalize longS kind b = n at hle
        by_cases h0 : n = 0
        · rw [if_pos (by omega), if_pos h0]
        · have e : wrap64 (size - (n : Int)) = ((b.length - n : Nat) : Int) := by unfold wrap64; omega
          rw [if_neg (by omega), if_neg h0, e, if_pos (by omega), if_pos (by omega), Int.toNat_natCast]
          unfold slices_Clone_byte_byte.f
          rw [if_pos (by rw [List.length_take]; omega), Option.bind_some]
      · rw [if_neg hL, if_neg (fun h => hL h.2)]
    · rw [decide_eq_false hS, if_neg (by simp), if_neg (fun h => hS h.1)]
  · rw [decide_eq_false hK, if_neg (by simp), if_neg hK]
theorem stripS_bytes (kind size : Int) (b : List Int) (h : Bytes b) : Bytes (stripS kind size b).1 := by
  unfold stripS; repeat' split
  all_goals first | exact bytes_take h _ | exact fun x hx => by simp at hx
theorem known_f (k : Nat) (hk : 1001 ≤ k) : scrimlaw14_known.f k = some true := by
  unfold scrimlaw14_known.f
  rw [if_pos (by omega), strip_f k (by omega) 2 8 _ (bytes_replicate 8 (by omega)), Option.bind_some, add_f k hk 1 8 _ (by decide), Option.bind_some]
  rw [if_pos (by decide +kernel), if_pos (by decide +kernel)]
  decide +kernel

/-! ### block -/
theorem block_l0 (s : Nat) (hs : s ≤ 64) (v : Int) (d : Nat) : ∀ (k i : Nat) (xs : List Int), s ≤ i + d → d < k → xs.length = s → Bytes xs → ∃ ys, scrimlaw14_block.l0 k (s : Int) xs v (i : Int) = some ys ∧ ys.length = s ∧ Bytes ys := by
  induction d with
  | zero =>
    intro k i xs hd hk hl hb
    obtain ⟨k, rfl⟩ : ∃ m, k = m + 1 := ⟨k - 1, by omega⟩
    unfold scrimlaw14_block.l0
    rw [if_neg (by omega)]
    exact ⟨xs, rfl, hl, hb⟩
  | succ d ih =>
    intro k i xs hd hk hl hb
    obtain ⟨k, rfl⟩ : ∃ m, k = m + 1 := ⟨k - 1, by omega⟩
    unfold scrimlaw14_block.l0
    by_cases h : i < s
    · rw [if_pos (by omega), if_pos (by omega), if_pos (by omega), w_succ (by omega)]
      exact ih k (i + 1) _ (by omega) (by omega) (by simpa using hl) (bytes_set hb _ (by omega))
    · rw [if_neg (by omega)]
      exact ⟨xs, rfl, hl, hb⟩
theorem block_l2 (s : Nat) (hs : s ≤ 64) (v : Int) (d : Nat) : ∀ (k i : Nat) (xs : List Int), s ≤ i + d → d < k → xs.length = s → Bytes xs → ∃ ys, scrimlaw14_block.l2 k (s : Int) xs v (i : Int) = some ys ∧ ys.length = s ∧ Bytes ys := by
  induction d with
  | zero =>
    intro k i xs hd hk hl hb
    obtain ⟨k, rfl⟩ : ∃ m, k = m + 1 := ⟨k - 1, by omega⟩
    unfold scrimlaw14_block.l2
    rw [if_neg (by omega)]
    exact ⟨xs, rfl, hl, hb⟩
  | succ d ih =>
    intro k i xs hd hk hl hb
    obtain ⟨k, rfl⟩ : ∃ m, k = m + 1 := ⟨k - 1, by omega⟩
    unfold scrimlaw14_block.l2
    by_cases h : i < s
    · rw [if_pos (by omega), if_pos (by omega), if_pos (by omega), w_succ (by omega)]
      exact ih k (i + 1) _ (by omega) (by omega) (by simpa using hl) (bytes_set hb _ (by omega))
    · rw [if_neg (by omega)]
      exact ⟨xs, rfl, hl, hb⟩
theorem block_end (s : Nat) (hs : s ≤ 64) (v : Int) (xs : List Int) (hv : 0 ≤ v) (hv2 : v ≤ 1000) (hl : xs.length = s) (hb : Bytes xs) : ∃ ys, (if v ≥ 1 then (if v ≤ (s : Int) then (if 0 ≤ (wrap64 ((s : Int) - v)) then (if (wrap64 ((s : Int) - v)) < (xs.length : Int) then (some (xs.set ((wrap64 ((s : Int) - v)) : Int).toNat 128)) else (none)) else (none)) else (some xs)) else (some xs)) = some ys ∧ ys.length = s ∧ Bytes ys := by
  have e : wrap64 ((s : Int) - v) = (s : Int) - v := by unfold wrap64; omega
  by_cases h1 : v ≥ 1
  · rw [if_pos h1]
    by_cases h2 : v ≤ (s : Int)
    · rw [if_pos h2, e, if_pos (by omega), if_pos (by omega)]
      exact ⟨_, rfl, by simpa using hl, bytes_set hb _ (by omega)⟩
    · rw [if_neg h2]; exact ⟨xs, rfl, hl, hb⟩
  · rw [if_neg h1]; exact ⟨xs, rfl, hl, hb⟩
theorem block_l1 (s : Nat) (hs : s ≤ 64) (v : Int) (hv : 0 ≤ v) (hv2 : v ≤ 1000) (d : Nat) : ∀ (k i : Nat) (xs : List Int), s ≤ i + d → d < k → xs.length = s → Bytes xs → ∃ ys, scrimlaw14_block.l1 k (s : Int) xs v (i : Int) = some ys ∧ ys.length = s ∧ Bytes ys := by
  induction d with
  | zero =>
    intro k i xs hd hk hl hb
    obtain ⟨k, rfl⟩ : ∃ m, k = m + 1 := ⟨k - 1, by omega⟩
    unfold scrimlaw14_block.l1
    rw [if_neg (by omega)]
    exact block_end s hs v xs hv hv2 hl hb
  | succ d ih =>
    intro k i xs hd hk hl hb
    obtain ⟨k, rfl⟩ : ∃ m, k = m + 1 := ⟨k - 1, by omega⟩
    unfold scrimlaw14_block.l1
    by_cases h : i < s
    · rw [if_pos (by omega), if_pos (by omega), if_pos (by omega), w_succ (by omega)]
      exact ih k (i + 1) _ (by omega) (by omega) (by simpa using hl) (bytes_set hb _ (by omega))
    · rw [if_neg (by omega)]
      exact block_end s hs v xs hv hv2 hl hb
theorem block_f (k : Nat) (hk : 1000 ≤ k) (s : Int) (hs : s = 8 ∨ s = 16) (l : List Int) (hl : Bytes l) (a b : Int) : ∃ x, scrimlaw14_block.f k s l a b = some x ∧ (x.length : Int) = s ∧ Bytes x := by
  obtain ⟨n, rfl⟩ : ∃ n : Nat, s = (n : Int) := ⟨s.toNat, by omega⟩
  have hn : n ≤ 64 := by omega
  unfold scrimlaw14_block.f
  have e2 : wrap64 ((n : Int) + 2) = (n : Int) + 2 := by unfold wrap64; omega
  rw [if_pos (by omega), if_pos (by omega), Option.bind_some, Option.bind_some, Int.toNat_natCast, List.length_replicate, e2, within_f b _ (by omega) (by omega), Option.bind_some, within_f a 5 (by omega) (by omega), Option.bind_some]
  have hy : (l.take (min l.length n) ++ (List.replicate n (0 : Int)).drop (min l.length n)).length = n := by simp; omega
  have hyb : Bytes (l.take (min l.length n) ++ (List.replicate n (0 : Int)).drop (min l.length n)) := bytes_append (bytes_take hl _) (bytes_drop (bytes_replicate n (by omega)) _)
  generalize l.take (min l.length n) ++ (List.replicate n (0 : Int)).drop (min l.length n) = y at hy hyb
  have g1 := Int.emod_nonneg b (by omega : (n : Int) + 2 ≠ 0)
  have g2 := Int.emod_lt_of_pos b (by omega : (0 : Int) < (n : Int) + 2)
  generalize b % ((n : Int) + 2) = v at g1 g2
  have e3 : wrap64 ((n : Int) - v) = (n : Int) - v := by unfold wrap64; omega
  have e4 : wrap64 ((n : Int) - 1) = (n : Int) - 1 := by unfold wrap64; omega
  obtain ⟨m, hm⟩ : ∃ m : Nat, mx 0 ((n : Int) - v) = (m : Int) := ⟨(mx 0 ((n : Int) - v)).toNat, by unfold mx; split <;> omega⟩
  have fin : ∀ o : Option (List Int), (∃ ys, o = some ys ∧ ys.length = n ∧ Bytes ys) → ∃ x, o = some x ∧ (x.length : Int) = (n : Int) ∧ Bytes x := fun o h => by
    obtain ⟨ys, h1, h2, h3⟩ := h
    exact ⟨ys, h1, by omega, h3⟩
  rw [e3, hm, e4]
  apply fin
  split
  · exact block_l0 n hn v n k m y (by omega) (by omega) hy hyb
  · split
    · exact block_l1 n hn v g1 (by omega) n k m y (by omega) (by omega) hy hyb
    · split
      · rw [if_pos (by omega), if_pos (by omega)]
        exact ⟨_, rfl, by simpa using hy, bytes_set hyb _ (by omega)⟩
      · split
        · exact block_l2 n hn v n k 0 y (by omega) (by omega) hy hyb
        · exact ⟨y, rfl, hy, hyb⟩

/-! ### the law -/
theorem onlyj0_f (k : Nat) (x11 : Int) (x12 : List Int) (x13 : Int) (x14 x16 : List Int) (x72 : Bool) : scrimlaw14_PadOnly.j0 (k + 1) x11 x12 x13 x14 x16 x72 = if x72 = true then (some false) else (if x13 = 3 then (if 0 ≤ (x14.length : Int) then (if (x14.length : Int) ≤ (x16.length : Int) then (if (x14.length : Int) ≤ (x12.length : Int) then (if (strOfNums (x16.take ((x14.length : Int) : Int).toNat)).toList = (strOfNums (x12.take ((x14.length : Int) : Int).toNat)).toList then (if 0 ≤ (wrap64 (x11 - 1)) then (if (wrap64 (x11 - 1)) < (x16.length : Int) then (if (wrap64 (x11 - 1)) < (x12.length : Int) then (some ((rd x16 (wrap64 (x11 - 1))) == (rd x12 (wrap64 (x11 - 1))))) else (none)) else (none)) else (none)) else (some false)) else (none)) else (none)) else (none)) else (some ((strOfNums x16).toList == (strOfNums x12).toList))) := rfl
theorem PadOnly : scrimlaw14_PadOnly.Pure := by
  intro l a1 a2 a3 a4 _ _ hb _ _ _ _
  obtain ⟨K, hK⟩ : ∃ K : Nat, 1001 ≤ K := ⟨_, Nat.le_refl _⟩
  refine ⟨K, ?_⟩
  have hB : Bytes l := fun x hx => wf_u8 (hb x hx)
  unfold scrimlaw14_PadOnly.f
  rw [known_f K hK, Option.bind_some, if_pos rfl]
  split
  · rfl
  rw [Option.bind_some, within_f a3 2 (by omega) (by omega), Option.bind_some]
  have g1 := Int.emod_nonneg a3 (by omega : (2 : Int) ≠ 0)
  have g2 := Int.emod_lt_of_pos a3 (by omega : (0 : Int) < 2)
  obtain ⟨s, hs, he⟩ : ∃ s : Int, (s = 8 ∨ s = 16) ∧ rd ([8, 16] : List Int) (a3 % 2) = s := by
    generalize a3 % 2 = i at g1 g2
    have : i = 0 ∨ i = 1 := by omega
    rcases this with rfl | rfl
    · exact ⟨8, .inl rfl, rfl⟩
    · exact ⟨16, .inr rfl, rfl⟩
  obtain ⟨x, hx, hxl, hxb⟩ := block_f K (by omega) s hs l hB a1 a2
  rw [he, if_pos g1, if_pos (by simp only [List.length_cons, List.length_nil]; omega), hx, Option.bind_some, within_f a4 3 (by omega) (by omega), Option.bind_some]
  have g3 := Int.emod_nonneg a4 (by omega : (3 : Int) ≠ 0)
  have g4 := Int.emod_lt_of_pos a4 (by omega : (0 : Int) < 3)
  have e2 : wrap64 (1 + a4 % 3) = 1 + a4 % 3 := by unfold wrap64; omega
  rw [e2]
  obtain ⟨kind, hkind, he2⟩ : ∃ kind : Int, (kind = 1 ∨ kind = 2 ∨ kind = 3) ∧ 1 + a4 % 3 = kind := ⟨_, by omega, rfl⟩
  rw [he2, strip_f K (by omega) kind s x hxb, Option.bind_some]
  have hst : stripS kind s x = if longS kind x = 0 then ([], 8) else (x.take (x.length - longS kind x), 0) := by
    unfold stripS; rw [if_pos hkind, if_pos ⟨hs, hxl⟩]
  by_cases h0 : longS kind x = 0
  · rw [hst, if_pos h0]
    rfl
  · rw [hst, if_neg h0]
    have hle := longS_le kind x
    have hyl : (x.take (x.length - longS kind x)).length = x.length - longS kind x := by rw [List.length_take]; omega
    have hyb : Bytes (x.take (x.length - longS kind x)) := bytes_take hxb _
    dsimp only
    rw [if_pos rfl, add_f K hK kind s _ (by omega), Option.bind_some, addS_of hkind hs (by omega)]
    have hz : s.toNat - (x.take (x.length - longS kind x)).length = longS kind x := by omega
    rw [hz]
    have hzl : ((x.take (x.length - longS kind x) ++ madeS kind (longS kind x)).length : Int) = s := by rw [List.length_append, madeS_length]; omega
    have hzb : Bytes (x.take (x.length - longS kind x) ++ madeS kind (longS kind x)) := bytes_append hyb (madeS_bytes _ _)
    dsimp only
    obtain ⟨K, rfl⟩ : ∃ m, K = m + 1 := ⟨K - 1, by omega⟩
    rw [if_pos rfl, if_pos hzl, onlyj0_f, decide_eq_false (by omega), if_neg (by simp)]
    by_cases k3 : kind = 3
    · have e5 : wrap64 (s - 1) = ((x.length - 1 : Nat) : Int) := by unfold wrap64; omega
      rw [if_pos k3, e5, hzl, hxl, Int.toNat_natCast, if_pos (by omega), if_pos (by omega), if_pos (by omega), if_pos (by rw [List.take_left, hyl]), if_pos (by omega), if_pos (by omega), if_pos (by omega), rd_nat, rd_nat, getD_append, if_neg (by omega)]
      have hn : (longS kind x : Int) = x.getD (x.length - 1) 0 := by
        have hv := bytes_getD hxb (x.length - 1)
        unfold longS at h0 ⊢
        rw [if_neg (by omega)] at h0 ⊢
        split
        · rename_i h; rw [if_pos h] at h0; exact absurd rfl h0
        · split
          · rename_i h; exact absurd h.1 (by omega)
          · omega
      have hv := bytes_getD hxb (x.length - 1)
      rw [← hn] at hv ⊢
      unfold madeS
      rw [if_neg (by omega), if_pos k3, getD_set, if_pos (by simp; omega)]
      have : (longS kind x : Int) % 256 = (longS kind x : Int) := by omega
      rw [this]; simp
    · rw [if_neg k3, str_beq hzb hxb, longS_only (by omega) h0]
      simp

end Go.Proofs.Ythpeffpafpfkcaa.Pure
