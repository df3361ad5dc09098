/- PadStrips: what is left of any block is what the reference says: the plain law over the functions' plain forms. Conditions: none beyond the statement's own bounds. -/
import Derived.Test.YthpeffpafpfkcaaMPadStripsx5
import Derived.Test.YthpeffpafpfkcaaPadPlain
namespace Go.Proofs.Ythpeffpafpfkcaa.Pure
open Go.RowKit Go.Proofs.Ythpeffpafpfkcaa.MPadStrips Go.Proofs.YthpeffpafpfkcaaW.PrintWords Go.Proofs.YthpeffpafpfkcaaW.PrintLast Go.Proofs.YthpeffpafpfkcaaW.PrintMore Go.Proofs.Ythpeffpafpfkcaa.Plain

/-! ### within -/
theorem within_f (a n : Int) (h0 : 0 < n) (h1 : n ≤ 1099511627776) : scrimlaw14_within.f a n = some (a % n) := by
  unfold scrimlaw14_within.f
  rw [if_neg (by omega)]
  have e := Int.tmod_eq_emod (a := a) (b := n)
  have l1 := Int.emod_nonneg a (by omega : n ≠ 0)
  have l2 := Int.emod_lt_of_pos a h0
  by_cases hc : 0 ≤ a ∨ n ∣ a
  · rw [if_pos hc] at e
    rw [if_neg (by omega)]
    congr 1; omega
  · rw [if_neg hc] at e
    have hn : (n.natAbs : Int) = n := by omega
    have hnz : a % n ≠ 0 := fun z => hc (.inr (Int.dvd_of_emod_eq_zero z))
    rw [if_pos (by omega)]
    congr 1
    unfold wrap64; omega

/-! ### made and Add -/
theorem made_loop (n : Nat) (hn : 1 ≤ n) (hn2 : n ≤ 64) (d : Nat) : ∀ (k i : Nat) (xs : List Int), i + d = n → d < k → xs.length = n → (∀ j, j < i → xs.getD j 0 = (n : Int) % 256) → pad_made.l0 k (n : Int) xs (n : Int) (i : Int) = some (List.replicate n ((n : Int) % 256)) := by
  induction d with
  | zero =>
    intro k i xs hd hk hl hx
    obtain ⟨k, rfl⟩ : ∃ m, k = m + 1 := ⟨k - 1, by omega⟩
    unfold pad_made.l0
    have e : wrap64 ((n : Int) - 1) = ((n - 1 : Nat) : Int) := by unfold wrap64; omega
    rw [if_neg (by omega), e, if_pos (by omega), if_pos (by omega), Int.toNat_natCast]
    congr 1
    refine ext_getD (by simpa using hl) fun j hj => ?_
    rw [List.length_set] at hj
    rw [getD_set, getD_replicate, if_pos (by omega : j < n)]
    split
    · rfl
    · exact hx j (by omega)
  | succ d ih =>
    intro k i xs hd hk hl hx
    obtain ⟨k, rfl⟩ : ∃ m, k = m + 1 := ⟨k - 1, by omega⟩
    unfold pad_made.l0
    rw [if_pos (by omega), if_pos (by omega), if_pos (by omega), w_succ (by omega), Int.toNat_natCast]
    refine ih k (i + 1) _ (by omega) (by omega) (by simpa using hl) fun j hj => ?_
    rw [getD_set]
    split
    · rfl
    · exact hx j (by omega)
theorem made_f (k : Nat) (hk : 1000 ≤ k) (kind : Int) (n : Nat) (hn : 1 ≤ n) (hn2 : n ≤ 64) : pad_made.f k kind (n : Int) = some (madeS kind n) := by
  unfold pad_made.f
  have e : wrap64 ((n : Int) - 1) = ((n - 1 : Nat) : Int) := by unfold wrap64; omega
  rw [if_pos (by omega), if_pos (by omega), Option.bind_some, Int.toNat_natCast, List.length_replicate, e]
  unfold madeS
  by_cases h1 : kind = 1
  · rw [if_pos h1, if_pos h1]
    exact made_loop n hn hn2 n k 0 _ (by omega) (by omega) (by simp) (by intro j hj; omega)
  · rw [if_neg h1, if_neg h1]
    by_cases h3 : kind = 3
    · rw [if_pos h3, if_pos h3, if_pos (by omega), if_pos (by omega), Int.toNat_natCast]
    · rw [if_neg h3, if_neg h3]
      by_cases h2 : kind = 2
      · rw [if_pos h2, if_pos h2, if_pos (by omega)]; rfl
      · rw [if_neg h2, if_neg h2]
theorem concat_f (k : Nat) (hk : 1000 ≤ k) (a b : List Int) (ha : a.length ≤ 64) (hb : b.length ≤ 64) : slices_Concat_byte_byte.f k [a, b] = some (a ++ b) := by
  obtain ⟨k, rfl⟩ : ∃ m, k = m + 9 := ⟨k - 9, by omega⟩
  have r0 : rd_L1 [a, b] 0 = a := rfl
  have r1 : rd_L1 [a, b] 1 = b := rfl
  have w1 : wrap64 ((0 : Int) + 1) = 1 := by unfold wrap64; omega
  have w2 : wrap64 ((1 : Int) + 1) = 2 := by unfold wrap64; omega
  have wa : wrap64 (0 + (a.length : Int)) = (a.length : Int) := by unfold wrap64; omega
  have wb : wrap64 ((a.length : Int) + (b.length : Int)) = (a.length : Int) + (b.length : Int) := by unfold wrap64; omega
  have two : (([a, b] : List (List Int)).length : Int) = 2 := rfl
  unfold slices_Concat_byte_byte.f
  rw [two]
  unfold slices_Concat_byte_byte.l0
  rw [if_pos (by omega), if_pos (by omega), if_pos (by rw [two]; omega), r0, wa, if_neg (by omega), w1]
  unfold slices_Concat_byte_byte.l0
  rw [if_pos (by omega), if_pos (by omega), if_pos (by rw [two]; omega), r1, wb, if_neg (by omega), w2]
  unfold slices_Concat_byte_byte.l0
  rw [if_neg (by omega), if_pos (by omega), two]
  unfold slices_Concat_byte_byte.l1
  rw [if_pos (by omega), if_pos (by omega), if_pos (by rw [two]; omega), r0, if_pos (by simp only [List.length_nil]; omega), w1]
  unfold slices_Concat_byte_byte.l1
  rw [if_pos (by omega), if_pos (by omega), if_pos (by rw [two]; omega), r1, if_pos (by simp only [List.nil_append]; omega), w2]
  unfold slices_Concat_byte_byte.l1
  rw [if_neg (by omega)]
  rfl
theorem tell_f (kind : Int) : pad_tell.f kind = some (decide (kind = 1 ∨ kind = 2 ∨ kind = 3)) := by
  unfold pad_tell.f
  by_cases h1 : kind = 1
  · rw [if_pos h1]; subst h1; decide
  · rw [if_neg h1]
    by_cases h2 : kind = 2
    · rw [if_pos h2]; subst h2; decide
    · rw [if_neg h2]
      by_cases h3 : kind = 3
      · rw [if_pos h3]; subst h3; decide
      · rw [if_neg h3, decide_eq_false (by omega)]
theorem sized_f (n : Int) : pad_sized.f n = some (decide (n = 8 ∨ n = 16)) := by
  unfold pad_sized.f
  by_cases h1 : n = 8
  · rw [if_pos h1]; subst h1; decide
  · rw [if_neg h1]
    congr 1
    by_cases h2 : n = 16
    · subst h2; decide
    · rw [decide_eq_false (by omega)]; simpa using h2
/-- What Add answers. -/
def addS (kind size : Int) (l : List Int) : List Int × Int :=
  if kind = 1 ∨ kind = 2 ∨ kind = 3 then
    if (size = 8 ∨ size = 16) ∧ (l.length : Int) < size then (l ++ madeS kind (size.toNat - l.length), 0) else ([], 1)
  else ([], 3)
theorem addj0_f (k : Nat) (x0 x1 : Int) (x2 : List Int) (t : Bool) : pad_Add.j0 (k + 1) x0 x1 x2 t = if t = true then (some (([] : List Int), 1)) else ((pad_made.f k x0 (wrap64 (x1 - (x2.length : Int)))).bind fun t103 => ((slices_Concat_byte_byte.f k (([x2, t103] : List (List Int)))).bind fun t109 => (some (t109, 0)))) := rfl
theorem add_f (k : Nat) (hk : 1001 ≤ k) (kind size : Int) (l : List Int) (hl : l.length ≤ 140737488355328) : pad_Add.f k kind size l = some (addS kind size l) := by
  obtain ⟨k, rfl⟩ : ∃ m, k = m + 1 := ⟨k - 1, by omega⟩
  unfold pad_Add.f addS
  rw [tell_f, Option.bind_some]
  by_cases hK : kind = 1 ∨ kind = 2 ∨ kind = 3
  · rw [decide_eq_true hK, if_pos rfl, if_pos hK, sized_f, Option.bind_some]
    by_cases hS : size = 8 ∨ size = 16
    · rw [decide_eq_true hS, if_pos rfl]
      rw [addj0_f]
      by_cases hL : (l.length : Int) < size
      · rw [decide_eq_false (by omega), if_neg (by simp : ¬ false = true), if_pos ⟨hS, hL⟩]
        have e : wrap64 (size - (l.length : Int)) = ((size.toNat - l.length : Nat) : Int) := by unfold wrap64; omega
        rw [e, made_f k (by omega) kind _ (by omega) (by omega), Option.bind_some, concat_f k (by omega) _ _ (by omega) (by rw [madeS_length]; omega), Option.bind_some]
      · rw [decide_eq_true (by omega), if_pos rfl, if_neg (fun h => hL h.2)]
    · rw [decide_eq_false hS, if_neg (by simp), if_neg (fun h => hS h.1), addj0_f, Bool.not_false, if_pos rfl]
  · rw [decide_eq_false hK, if_neg (by simp), if_neg hK]
theorem addS_of {kind size : Int} {l : List Int} (hk : kind = 1 ∨ kind = 2 ∨ kind = 3) (hs : size = 8 ∨ size = 16) (hl : (l.length : Int) < size) : addS kind size l = (l ++ madeS kind (size.toNat - l.length), 0) := by
  unfold addS; rw [if_pos hk, if_pos ⟨hs, hl⟩]
theorem addS_not {kind size : Int} {l : List Int} (hk : kind = 1 ∨ kind = 2 ∨ kind = 3) (hl : ¬ (l.length : Int) < size) : addS kind size l = ([], 1) := by
  unfold addS; rw [if_pos hk, if_neg (by omega)]
theorem addS_bytes (kind size : Int) (l : List Int) (h : Bytes l) : Bytes (addS kind size l).1 := by
  unfold addS; repeat' split
  · exact bytes_append h (madeS_bytes _ _)
  all_goals exact fun x hx => by simp at hx

/-! ### long and Strip -/
theorem last_loop (b : List Int) (c : Int) (hb : b.length ≤ 281474976710656) (n : Nat) : ∀ (k : Nat), n ≤ b.length → n < k → bytealg_LastIndexByte.l0 k b c ((n : Int) - 1) = some (lastS b c n) := by
  induction n with
  | zero =>
    intro k _ hk
    obtain ⟨k, rfl⟩ : ∃ m, k = m + 1 := ⟨k - 1, by omega⟩
    unfold bytealg_LastIndexByte.l0 lastS
    rw [if_neg (by omega)]
  | succ n ih =>
    intro k hn hk
    obtain ⟨k, rfl⟩ : ∃ m, k = m + 1 := ⟨k - 1, by omega⟩
    unfold bytealg_LastIndexByte.l0 lastS
    have e : ((n + 1 : Nat) : Int) - 1 = (n : Int) := by omega
    have e2 : wrap64 ((n : Int) - 1) = (n : Int) - 1 := by unfold wrap64; omega
    rw [e, if_pos (by omega), if_pos (by omega), if_pos (by omega), rd_nat, e2]
    split
    · rfl
    · exact ih k (by omega) (by omega)
theorem last_f (k : Nat) (b : List Int) (c : Int) (hb : b.length < k) (h2 : b.length ≤ 281474976710656) : bytes_LastIndexByte.f k b c = some (lastS b c b.length) := by
  unfold bytes_LastIndexByte.f bytealg_LastIndexByte.f
  have e : wrap64 ((b.length : Int) - 1) = (b.length : Int) - 1 := by unfold wrap64; omega
  rw [e, last_loop b c h2 b.length k (Nat.le_refl _) hb, Option.bind_some]
theorem j0_f (k : Nat) (hk : 1000 ≤ k) (n : Int) (t : Bool) : pad_long.j0 k n t = some (if t = true then 0 else n) := by
  obtain ⟨k, rfl⟩ : ∃ m, k = m + 1 := ⟨k - 1, by omega⟩
  show (if t = true then some 0 else some n) = _
  split <;> rfl
theorem long_f (k : Nat) (hk : 1000 ≤ k) (kind : Int) (b : List Int) (hb : Bytes b) (h1 : 1 ≤ b.length) (h2 : b.length ≤ 64) : pad_long.f k kind b = some ((longS kind b : Nat) : Int) := by
  unfold pad_long.f longS
  have e : wrap64 ((b.length : Int) - 1) = ((b.length - 1 : Nat) : Int) := by unfold wrap64; omega
  rw [e, if_pos (by omega), if_pos (by omega)]
  by_cases k2 : kind = 2
  · rw [if_pos k2, if_pos k2, last_f k b 128 (by omega) (by omega), Option.bind_some]
    have hr := lastS_range b 128 b.length
    generalize lastS b 128 b.length = i at hr
    have e3 : wrap64 ((b.length : Int) - i) = (b.length : Int) - i := by unfold wrap64; omega
    rw [e3]
    by_cases hi : i < 0
    · rw [if_pos (by omega), if_pos hi]; rfl
    · obtain ⟨i, rfl⟩ : ∃ m : Nat, i = (m : Int) := ⟨i.toNat, by omega⟩
      have e4 : wrap64 ((b.length : Int) - ((b.length : Int) - (i : Int))) = (i : Int) := by unfold wrap64; omega
      have e5 : (b.length : Int) - (i : Int) = ((b.length - i : Nat) : Int) := by omega
      rw [if_neg (by omega), if_neg hi, e4, if_pos (by omega), if_pos (by omega), e5, made_f k hk kind _ (by omega) (by omega), Option.bind_some, Int.toNat_natCast]
      unfold bytes_Equal.f
      rw [Option.bind_some, str_beq (bytes_drop hb _) (madeS_bytes _ _), k2]
      by_cases hd : b.drop i = madeS 2 (b.length - i)
      · rw [decide_eq_true hd, if_pos rfl, if_pos hd]
      · rw [decide_eq_false hd, if_neg (by simp), if_neg hd]; rfl
  · rw [if_neg k2, if_neg k2, rd_nat]
    have hv := bytes_getD hb (b.length - 1)
    generalize b.getD (b.length - 1) 0 = v at hv
    have e3 : wrap64 v = v := by unfold wrap64; omega
    rw [e3, j0_f k hk, j0_f k hk, if_pos rfl]
    obtain ⟨n, rfl⟩ : ∃ m : Nat, v = (m : Int) := ⟨v.toNat, by omega⟩
    rw [Int.toNat_natCast]
    by_cases hn : n < 1 ∨ b.length < n
    · rw [if_pos hn]
      rcases hn with hn | hn
      · rw [if_pos (by omega)]; rfl
      · split
        · rfl
        · rw [if_pos (by omega)]; rfl
    · have e4 : wrap64 ((b.length : Int) - (n : Int)) = ((b.length - n : Nat) : Int) := by unfold wrap64; omega
      rw [if_neg (by omega), if_neg (by omega), if_neg hn]
      by_cases k1 : kind = 1
      · subst k1
        rw [if_pos rfl, e4, if_pos (by omega), if_pos (by omega), made_f k hk 1 n (by omega) (by omega), Option.bind_some, Int.toNat_natCast]
        unfold bytes_Equal.f
        rw [Option.bind_some, str_beq (bytes_drop hb _) (madeS_bytes _ _), j0_f k hk]
        by_cases hd : b.drop (b.length - n) = madeS 1 n
        · rw [decide_eq_true hd, if_neg (by simp : ¬ (!true) = true), if_neg (fun h => h.2 hd)]
        · rw [decide_eq_false hd, Bool.not_false, if_pos rfl, if_pos ⟨rfl, hd⟩]; rfl
      · rw [if_neg k1, if_neg (by simp), if_neg (fun h => k1 h.1)]
/-- What Strip answers. -/
def stripS (kind size : Int) (b : List Int) : List Int × Int :=
  if kind = 1 ∨ kind = 2 ∨ kind = 3 then
    if (size = 8 ∨ size = 16) ∧ (b.length : Int) = size then
      if longS kind b = 0 then ([], 8) else (b.take (b.length - longS kind b), 0)
    else ([], 1)
  else ([], 3)
theorem strip_f (k : Nat) (hk : 1000 ≤ k) (kind size : Int) (b : List Int) (hb : Bytes b) : pad_Strip.f k kind size b = some (stripS kind size b) := by
  unfold pad_Strip.f stripS
  rw [tell_f, Option.bind_some]
  by_cases hK : kind = 1 ∨ kind = 2 ∨ kind = 3
  · rw [decide_eq_true hK, if_pos rfl, if_pos hK, sized_f, Option.bind_some]
    by_cases hS : size = 8 ∨ size = 16
    · rw [decide_eq_true hS, if_pos rfl]
      by_cases hL : (b.length : Int) = size
      · rw [if_pos hL, if_pos ⟨hS, hL⟩, long_f k hk kind b hb (by omega) (by omega), Option.bind_some]
        have hle := longS_le kind b
        generalize longS kind b = n at hle
        by_cases h0 : n = 0
        · rw [if_pos (by omega), if_pos h0]
        · have e : wrap64 (size - (n : Int)) = ((b.length - n : Nat) : Int) := by unfold wrap64; omega
          rw [if_neg (by omega), if_neg h0, e, if_pos (by omega), if_pos (by omega), Int.toNat_natCast]
          unfold slices_Clone_byte_byte.f
          rw [if_pos (by rw [List.length_take]; omega), Option.bind_some]
      · rw [if_neg hL, if_neg (fun h => hL h.2)]
    · rw [decide_eq_false hS, if_neg (by simp), if_neg (fun h => hS h.1)]
  · rw [decide_eq_false hK, if_neg (by simp), if_neg hK]
theorem stripS_bytes (kind size : Int) (b : List Int) (h : Bytes b) : Bytes (stripS kind size b).1 := by
  unfold stripS; repeat' split
  all_goals first | exact bytes_take h _ | exact fun x hx => by simp at hx
theorem known_f (k : Nat) (hk : 1001 ≤ k) : scrimlaw14_known.f k = some true := by
  unfold scrimlaw14_known.f
  rw [if_pos (by omega), strip_f k (by omega) 2 8 _ (bytes_replicate 8 (by omega)), Option.bind_some, add_f k hk 1 8 _ (by decide), Option.bind_some]
  rw [if_pos (by decide +kernel), if_pos (by decide +kernel)]
  decide +kernel

/-! ### block -/
theorem block_l0 (s : Nat) (hs : s ≤ 64) (v : Int) (d : Nat) : ∀ (k i : Nat) (xs : List Int), s ≤ i + d → d < k → xs.length = s → Bytes xs → ∃ ys, scrimlaw14_block.l0 k (s : Int) xs v (i : Int) = some ys ∧ ys.length = s ∧ Bytes ys := by
  induction d with
  | zero =>
    intro k i xs hd hk hl hb
    obtain ⟨k, rfl⟩ : ∃ m, k = m + 1 := ⟨k - 1, by omega⟩
    unfold scrimlaw14_block.l0
    rw [if_neg (by omega)]
    exact ⟨xs, rfl, hl, hb⟩
  | succ d ih =>
    intro k i xs hd hk hl hb
    obtain ⟨k, rfl⟩ : ∃ m, k = m + 1 := ⟨k - 1, by omega⟩
    unfold scrimlaw14_block.l0
    by_cases h : i < s
    · rw [if_pos (by omega), if_pos (by omega), if_pos (by omega), w_succ (by omega)]
      exact ih k (i + 1) _ (by omega) (by omega) (by simpa using hl) (bytes_set hb _ (by omega))
    · rw [if_neg (by omega)]
      exact ⟨xs, rfl, hl, hb⟩
theorem block_l2 (s : Nat) (hs : s ≤ 64) (v : Int) (d : Nat) : ∀ (k i : Nat) (xs : List Int), s ≤ i + d → d < k → xs.length = s → Bytes xs → ∃ ys, scrimlaw14_block.l2 k (s : Int) xs v (i : Int) = some ys ∧ ys.length = s ∧ Bytes ys := by
  induction d with
  | zero =>
    intro k i xs hd hk hl hb
    obtain ⟨k, rfl⟩ : ∃ m, k = m + 1 := ⟨k - 1, by omega⟩
    unfold scrimlaw14_block.l2
    rw [if_neg (by omega)]
    exact ⟨xs, rfl, hl, hb⟩
  | succ d ih =>
    intro k i xs hd hk hl hb
    obtain ⟨k, rfl⟩ : ∃ m, k = m + 1 := ⟨k - 1, by omega⟩
    unfold scrimlaw14_block.l2
    by_cases h : i < s
    · rw [if_pos (by omega), if_pos (by omega), if_pos (by omega), w_succ (by omega)]
      exact ih k (i + 1) _ (by omega) (by omega) (by simpa using hl) (bytes_set hb _ (by omega))
    · rw [if_neg (by omega)]
      exact ⟨xs, rfl, hl, hb⟩
theorem block_end (s : Nat) (hs : s ≤ 64) (v : Int) (xs : List Int) (hv : 0 ≤ v) (hv2 : v ≤ 1000) (hl : xs.length = s) (hb : Bytes xs) : ∃ ys, (if v ≥ 1 then (if v ≤ (s : Int) then (if 0 ≤ (wrap64 ((s : Int) - v)) then (if (wrap64 ((s : Int) - v)) < (xs.length : Int) then (some (xs.set ((wrap64 ((s : Int) - v)) : Int).toNat 128)) else (none)) else (none)) else (some xs)) else (some xs)) = some ys ∧ ys.length = s ∧ Bytes ys := by
  have e : wrap64 ((s : Int) - v) = (s : Int) - v := by unfold wrap64; omega
  by_cases h1 : v ≥ 1
  · rw [if_pos h1]
    by_cases h2 : v ≤ (s : Int)
    · rw [if_pos h2, e, if_pos (by omega), if_pos (by omega)]
      exact ⟨_, rfl, by simpa using hl, bytes_set hb _ (by omega)⟩
    · rw [if_neg h2]; exact ⟨xs, rfl, hl, hb⟩
  · rw [if_neg h1]; exact ⟨xs, rfl, hl, hb⟩
theorem block_l1 (s : Nat) (hs : s ≤ 64) (v : Int) (hv : 0 ≤ v) (hv2 : v ≤ 1000) (d : Nat) : ∀ (k i : Nat) (xs : List Int), s ≤ i + d → d < k → xs.length = s → Bytes xs → ∃ ys, scrimlaw14_block.l1 k (s : Int) xs v (i : Int) = some ys ∧ ys.length = s ∧ Bytes ys := by
  induction d with
  | zero =>
    intro k i xs hd hk hl hb
    obtain ⟨k, rfl⟩ : ∃ m, k = m + 1 := ⟨k - 1, by omega⟩
    unfold scrimlaw14_block.l1
    rw [if_neg (by omega)]
    exact block_end s hs v xs hv hv2 hl hb
  | succ d ih =>
    intro k i xs hd hk hl hb
    obtain ⟨k, rfl⟩ : ∃ m, k = m + 1 := ⟨k - 1, by omega⟩
    unfold scrimlaw14_block.l1
    by_cases h : i < s
    · rw [if_pos (by omega), if_pos (by omega), if_pos (by omega), w_succ (by omega)]
      exact ih k (i + 1) _ (by omega) (by omega) (by simpa using hl) (bytes_set hb _ (by omega))
    · rw [if_neg (by omega)]
      exact block_end s hs v xs hv hv2 hl hb
theorem block_f (k : Nat) (hk : 1000 ≤ k) (s : Int) (hs : s = 8 ∨ s = 16) (l : List Int) (hl : Bytes l) (a b : Int) : ∃ x, scrimlaw14_block.f k s l a b = some x ∧ (x.length : Int) = s ∧ Bytes x := by
  obtain ⟨n, rfl⟩ : ∃ n : Nat, s = (n : Int) := ⟨s.toNat, by omega⟩
  have hn : n ≤ 64 := by omega
  unfold scrimlaw14_block.f
  have e2 : wrap64 ((n : Int) + 2) = (n : Int) + 2 := by unfold wrap64; omega
  rw [if_pos (by omega), if_pos (by omega), Option.bind_some, Option.bind_some, Int.toNat_natCast, List.length_replicate, e2, within_f b _ (by omega) (by omega), Option.bind_some, within_f a 5 (by omega) (by omega), Option.bind_some]
  have hy : (l.take (min l.length n) ++ (List.replicate n (0 : Int)).drop (min l.length n)).length = n := by simp; omega
  have hyb : Bytes (l.take (min l.length n) ++ (List.replicate n (0 : Int)).drop (min l.length n)) := bytes_append (bytes_take hl _) (bytes_drop (bytes_replicate n (by omega)) _)
  generalize l.take (min l.length n) ++ (List.replicate n (0 : Int)).drop (min l.length n) = y at hy hyb
  have g1 := Int.emod_nonneg b (by omega : (n : Int) + 2 ≠ 0)
  have g2 := Int.emod_lt_of_pos b (by omega : (0 : Int) < (n : Int) + 2)
  generalize b % ((n : Int) + 2) = v at g1 g2
  have e3 : wrap64 ((n : Int) - v) = (n : Int) - v := by unfold wrap64; omega
  have e4 : wrap64 ((n : Int) - 1) = (n : Int) - 1 := by unfold wrap64; omega
  obtain ⟨m, hm⟩ : ∃ m : Nat, mx 0 ((n : Int) - v) = (m : Int) := ⟨(mx 0 ((n : Int) - v)).toNat, by unfold mx; split <;> omega⟩
  have fin : ∀ o : Option (List Int), (∃ ys, o = some ys ∧ ys.length = n ∧ Bytes ys) → ∃ x, o = some x ∧ (x.length : Int) = (n : Int) ∧ Bytes x := fun o h => by
    obtain ⟨ys, h1, h2, h3⟩ := h
    exact ⟨ys, h1, by omega, h3⟩
  rw [e3, hm, e4]
  apply fin
  split
  · exact block_l0 n hn v n k m y (by omega) (by omega) hy hyb
  · split
    · exact block_l1 n hn v g1 (by omega) n k m y (by omega) (by omega) hy hyb
    · split
      · rw [if_pos (by omega), if_pos (by omega)]
        exact ⟨_, rfl, by simpa using hy, bytes_set hyb _ (by omega)⟩
      · split
        · exact block_l2 n hn v n k 0 y (by omega) (by omega) hy hyb
        · exact ⟨y, rfl, hy, hyb⟩

/-! ### the reference's ahead and Strip -/
theorem iso_zero {b : List Int} {j : Nat} (hj : j < b.length) (hz : ∀ m, j < m → m < b.length → b.getD m 0 = 0) (h1 : b.getD j 0 ≠ 128) (h2 : b.getD j 0 ≠ 0 ∨ j = 0) : longS 2 b = 0 := by
  have hr := lastS_range b 128 b.length
  unfold longS
  rw [if_pos rfl]
  split
  · rfl
  · rename_i hn
    split
    · rename_i hd
      exfalso
      have ha := lastS_at (b := b) (c := 128) b.length (by omega)
      generalize lastS b 128 b.length = i at hr hn hd ha
      obtain ⟨i, rfl⟩ : ∃ m : Nat, i = (m : Int) := ⟨i.toNat, by omega⟩
      rw [Int.toNat_natCast] at hd ha
      have h3 : ¬ j < i := fun h => by rw [hz i h (by omega)] at ha; omega
      have h4 : i ≠ j := fun h => by subst h; exact h1 ha
      have h5 : b.getD j 0 = (b.drop i).getD (j - i) 0 := by rw [getD_drop]; congr 1; omega
      rw [hd] at h5
      unfold madeS at h5
      rw [if_neg (by decide), if_neg (by decide), if_pos rfl, getD_set, if_neg (by omega), getD_replicate] at h5
      have h6 : b.getD j 0 = 0 := by rw [h5]; split <;> rfl
      rcases h2 with h | h
      · exact h h6
      · omega
    · rfl
theorem iso_some {b : List Int} {j : Nat} (hj : j < b.length) (hz : ∀ m, j < m → m < b.length → b.getD m 0 = 0) (h1 : b.getD j 0 = 128) : longS 2 b = b.length - j := by
  have hl : lastS b 128 b.length = (j : Int) := by
    have h := lastS_here h1 (b.length - (j + 1)) (fun m h3 h4 => by rw [hz m h3 (by omega)]; omega)
    rwa [show j + 1 + (b.length - (j + 1)) = b.length by omega] at h
  unfold longS
  rw [if_pos rfl, hl, if_neg (by omega), Int.toNat_natCast, if_pos]
  unfold madeS
  rw [if_neg (by decide), if_neg (by decide), if_pos rfl]
  refine ext_getD (by simp) fun m hm => ?_
  rw [List.length_drop] at hm
  rw [getD_drop, getD_set, getD_replicate]
  by_cases h0 : m = 0
  · subst h0
    rw [if_pos (by simp; omega), Nat.add_zero, h1]
  · rw [if_neg (by omega), hz _ (by omega) (by omega)]
    split <;> rfl
/-- What stands ahead of a padding; -1: it is none. -/
def aheadS (kind : Int) (b : List Int) : Int := if longS kind b = 0 then -1 else (b.length : Int) - (longS kind b : Int)
theorem ahead_l0 (b : List Int) (hb : b.length ≤ 64) (j : Nat) : ∀ k, j < b.length → j < k → (∀ m, j < m → m < b.length → b.getD m 0 = 0) → scrimref14_ahead.l0 k b (j : Int) = some (aheadS 2 b) := by
  induction j with
  | zero =>
    intro k hj hk hz
    obtain ⟨k, rfl⟩ : ∃ m, k = m + 1 := ⟨k - 1, by omega⟩
    unfold scrimref14_ahead.l0 aheadS
    rw [if_neg (by omega), if_pos (by omega), if_pos (by omega), rd_nat]
    by_cases h1 : b.getD 0 0 = 128
    · have e := iso_some hj hz h1
      rw [if_pos h1, e, if_neg (by omega)]
      congr 1; omega
    · rw [if_neg h1, iso_zero hj hz h1 (.inr rfl), if_pos rfl]
  | succ j ih =>
    intro k hj hk hz
    obtain ⟨k, rfl⟩ : ∃ m, k = m + 1 := ⟨k - 1, by omega⟩
    unfold scrimref14_ahead.l0
    have e : wrap64 (((j + 1 : Nat) : Int) - 1) = (j : Int) := by unfold wrap64; omega
    rw [if_pos (by omega), if_pos (by omega), if_pos (by omega), rd_nat, e]
    by_cases h0 : b.getD (j + 1) 0 = 0
    · rw [if_pos h0]
      refine ih k (by omega) (by omega) fun m h1 h2 => ?_
      by_cases hm : m = j + 1
      · rw [hm]; exact h0
      · exact hz m (by omega) h2
    · rw [if_neg h0]
      unfold aheadS
      by_cases h1 : b.getD (j + 1) 0 = 128
      · have e := iso_some hj hz h1
        rw [if_pos h1, e, if_neg (by omega)]
        congr 1; omega
      · rw [if_neg h1, iso_zero hj hz h1 (.inl h0), if_pos rfl]
theorem j1_f (k : Nat) (x0 : Int) (x1 : List Int) (x5 x7 : Int) (t : Bool) : scrimref14_ahead.j1 (k + 1) x0 x1 x5 x7 t = if t = true then (some (-1)) else (scrimref14_ahead.l1 k x0 x1 x5 x7 (wrap64 (x5 - x7))) := by
  conv => lhs; unfold scrimref14_ahead.j1
theorem j3_f (k : Nat) (x0 : Int) (x1 : List Int) (x5 x7 x8 : Int) (t : Bool) : scrimref14_ahead.j3 (k + 1) x0 x1 x5 x7 x8 t = if t = true then (if 0 ≤ x8 then (if x8 < (x1.length : Int) then (if (rd x1 x8) = ((x7) % 256) then (scrimref14_ahead.l1 k x0 x1 x5 x7 (wrap64 (x8 + 1))) else (some (-1))) else (none)) else (none)) else (some (wrap64 (x5 - x7))) := by
  conv => lhs; unfold scrimref14_ahead.j3
theorem l1_f (k : Nat) (x0 : Int) (x1 : List Int) (x5 x7 x8 : Int) : scrimref14_ahead.l1 (k + 1) x0 x1 x5 x7 x8 = if x8 < x5 then (scrimref14_ahead.j3 k x0 x1 x5 x7 x8 (x0 == 1)) else (scrimref14_ahead.j3 k x0 x1 x5 x7 x8 false) := by
  conv => lhs; unfold scrimref14_ahead.l1
theorem ahead_l1 (b : List Int) (hb : b.length ≤ 64) (n : Nat) (hn : 1 ≤ n) (hn2 : n ≤ b.length) (d : Nat) : ∀ (k i : Nat), i + d = b.length → b.length - n ≤ i → 2 * d + 2 ≤ k → (∀ m, b.length - n ≤ m → m < i → b.getD m 0 = (n : Int) % 256) →
    scrimref14_ahead.l1 k 1 b (b.length : Int) (n : Int) (i : Int) = some (if b.drop (b.length - n) = madeS 1 n then (b.length : Int) - (n : Int) else -1) := by
  induction d with
  | zero =>
    intro k i hd hi hk hm
    obtain ⟨k, rfl⟩ : ∃ m, k = m + 2 := ⟨k - 2, by omega⟩
    have e : wrap64 ((b.length : Int) - (n : Int)) = (b.length : Int) - (n : Int) := by unfold wrap64; omega
    rw [l1_f, if_neg (by omega), j3_f, if_neg (by simp), e, if_pos]
    unfold madeS
    rw [if_pos rfl]
    refine ext_getD (by simp; omega) fun j hj => ?_
    rw [List.length_drop] at hj
    rw [getD_drop, getD_replicate, if_pos (by omega), hm _ (by omega) (by omega)]
  | succ d ih =>
    intro k i hd hi hk hm
    obtain ⟨k, rfl⟩ : ∃ m, k = m + 2 := ⟨k - 2, by omega⟩
    rw [l1_f, if_pos (by omega), j3_f, if_pos (by decide), if_pos (by omega), if_pos (by omega), rd_nat, w_succ (by omega)]
    by_cases h : b.getD i 0 = (n : Int) % 256
    · rw [if_pos h]
      refine ih k (i + 1) (by omega) (by omega) (by omega) fun m h1 h2 => ?_
      by_cases hi2 : m = i
      · rw [hi2]; exact h
      · exact hm m h1 (by omega)
    · rw [if_neg h, if_neg]
      intro he
      apply h
      have h5 : b.getD i 0 = (b.drop (b.length - n)).getD (i - (b.length - n)) 0 := by rw [getD_drop]; congr 1; omega
      rw [h5, he]
      unfold madeS
      rw [if_pos rfl, getD_replicate, if_pos (by omega)]
theorem ahead_f (k : Nat) (hk : 1000 ≤ k) (kind : Int) (hkind : kind = 1 ∨ kind = 2 ∨ kind = 3) (b : List Int) (hb : Bytes b) (h1 : 1 ≤ b.length) (h2 : b.length ≤ 64) : scrimref14_ahead.f k kind b = some (aheadS kind b) := by
  unfold scrimref14_ahead.f
  have e : wrap64 ((b.length : Int) - 1) = ((b.length - 1 : Nat) : Int) := by unfold wrap64; omega
  rw [e]
  by_cases k2 : kind = 2
  · rw [if_pos k2, k2]
    exact ahead_l0 b h2 (b.length - 1) k (by omega) (by omega) fun m h3 h4 => by omega
  · rw [if_neg k2, if_pos (by omega), if_pos (by omega), rd_nat]
    have hv := bytes_getD hb (b.length - 1)
    unfold aheadS longS
    rw [if_neg k2]
    generalize b.getD (b.length - 1) 0 = v at hv
    obtain ⟨n, rfl⟩ : ∃ m : Nat, v = (m : Int) := ⟨v.toNat, by omega⟩
    have e3 : wrap64 (n : Int) = (n : Int) := by unfold wrap64; omega
    rw [e3, Int.toNat_natCast]
    obtain ⟨k, rfl⟩ : ∃ m, k = m + 3 := ⟨k - 3, by omega⟩
    rw [j1_f, j1_f, if_pos rfl]
    by_cases hn : n < 1 ∨ b.length < n
    · rw [if_pos hn, if_pos rfl]
      rcases hn with hn | hn
      · rw [if_pos (by omega)]
      · split
        · rfl
        · rw [decide_eq_true (by omega), if_pos rfl]
    · have e4 : wrap64 ((b.length : Int) - (n : Int)) = ((b.length - n : Nat) : Int) := by unfold wrap64; omega
      rw [if_neg (by omega : ¬ (n : Int) < 1), decide_eq_false (by omega), if_neg (by simp), if_neg hn, e4]
      by_cases k1 : kind = 1
      · subst k1
        rw [ahead_l1 b h2 n (by omega) (by omega) n (k + 2) (b.length - n) (by omega) (by omega) (by omega) (fun m h3 h4 => by omega)]
        by_cases hd : b.drop (b.length - n) = madeS 1 n
        · have e9 : ¬ ((1 : Int) = 1 ∧ b.drop (b.length - n) ≠ madeS 1 n) := fun h => h.2 hd
          rw [if_pos hd, if_neg e9, if_neg (by omega)]
        · have e9 : (1 : Int) = 1 ∧ b.drop (b.length - n) ≠ madeS 1 n := ⟨rfl, hd⟩
          rw [if_neg hd, if_pos e9, if_pos rfl]
      · have hf : (kind == 1) = false := by simpa using k1
        have e9 : ¬ (kind = 1 ∧ b.drop (b.length - n) ≠ madeS 1 n) := fun h => k1 h.1
        rw [if_neg e9, if_neg (by omega : ¬ n = 0), l1_f, if_pos (by omega), hf, j3_f, if_neg (by simp)]
        congr 1
        unfold wrap64; omega
theorem sj0_f (k : Nat) (x0 x1 : Int) (x2 : List Int) (t : Bool) : scrimref14_Strip.j0 (k + 1) x0 x1 x2 t = if t = true then (some (([] : List Int), 3)) else (if x1 = 8 then (scrimref14_Strip.j1 k x0 x2 ((x2.length : Int) != x1)) else (if x1 = 16 then (scrimref14_Strip.j1 k x0 x2 ((x2.length : Int) != x1)) else (scrimref14_Strip.j1 k x0 x2 true))) := by
  conv => lhs; unfold scrimref14_Strip.j0
theorem sj1_f (k : Nat) (x0 : Int) (x2 : List Int) (t : Bool) : scrimref14_Strip.j1 (k + 1) x0 x2 t = if t = true then (some (([] : List Int), 1)) else ((scrimref14_ahead.f k x0 x2).bind fun t129 => (if t129 < 0 then (some (([] : List Int), 8)) else ((some (([] : List Int) : List Int)).bind fun y130 => (if 0 ≤ t129 then (if t129 ≤ (x2.length : Int) then ((some (x2.take (t129 : Int).toNat : List Int)).bind fun y133 => (if y130.length + y133.length < 140737488355328 then (some ((y130 ++ y133), 0)) else (none))) else (none)) else (none))))) := by
  conv => lhs; unfold scrimref14_Strip.j1
theorem ref_one (k : Nat) (hk : 1001 ≤ k) (kind : Int) (hkind : kind = 1 ∨ kind = 2 ∨ kind = 3) (size : Int) (hs : size = 8 ∨ size = 16) (b : List Int) (hb : Bytes b) : scrimref14_Strip.j1 k kind b ((b.length : Int) != size) = some (if (b.length : Int) = size then (if longS kind b = 0 then ([], 8) else (b.take (b.length - longS kind b), 0)) else ([], 1)) := by
  obtain ⟨k, rfl⟩ : ∃ m, k = m + 1 := ⟨k - 1, by omega⟩
  rw [sj1_f]
  by_cases hL : (b.length : Int) = size
  · rw [if_neg (by simp [hL]), if_pos hL, ahead_f k (by omega) kind hkind b hb (by omega) (by omega), Option.bind_some]
    have hle := longS_le kind b
    unfold aheadS
    by_cases h0 : longS kind b = 0
    · rw [if_pos h0, if_pos (by omega), if_pos h0]
    · rw [if_neg h0, if_neg (by omega), if_neg h0, Option.bind_some, if_pos (by omega), if_pos (by omega), Option.bind_some]
      have e : ((b.length : Int) - (longS kind b : Int)).toNat = b.length - longS kind b := by omega
      rw [e, if_pos (by simp only [List.length_nil, List.length_take]; omega), List.nil_append]
  · rw [if_pos (by simpa using hL), if_neg hL]
theorem refstrip_f (k : Nat) (hk : 1002 ≤ k) (kind size : Int) (b : List Int) (hb : Bytes b) : scrimref14_Strip.f k kind size b = some (stripS kind size b) := by
  obtain ⟨k, rfl⟩ : ∃ m, k = m + 1 := ⟨k - 1, by omega⟩
  unfold scrimref14_Strip.f stripS
  rw [sj0_f, sj0_f, if_pos rfl]
  by_cases hK : kind = 1 ∨ kind = 2 ∨ kind = 3
  · rw [if_neg (by omega), decide_eq_false (by omega), if_neg (by simp), if_pos hK]
    by_cases h8 : size = 8
    · rw [if_pos h8, ref_one k (by omega) kind hK size (by omega) b hb]
      by_cases hL : (b.length : Int) = size
      · rw [if_pos hL, if_pos (⟨by omega, hL⟩ : (size = 8 ∨ size = 16) ∧ (b.length : Int) = size)]
      · rw [if_neg hL, if_neg (fun h => hL h.2 : ¬ ((size = 8 ∨ size = 16) ∧ (b.length : Int) = size))]
    · rw [if_neg h8]
      by_cases h16 : size = 16
      · rw [if_pos h16, ref_one k (by omega) kind hK size (by omega) b hb]
        by_cases hL : (b.length : Int) = size
        · rw [if_pos hL, if_pos (⟨by omega, hL⟩ : (size = 8 ∨ size = 16) ∧ (b.length : Int) = size)]
        · rw [if_neg hL, if_neg (fun h => hL h.2 : ¬ ((size = 8 ∨ size = 16) ∧ (b.length : Int) = size))]
      · obtain ⟨k, rfl⟩ : ∃ m, k = m + 1 := ⟨k - 1, by omega⟩
        rw [if_neg h16, sj1_f, if_pos rfl, if_neg (by omega)]
  · rw [if_neg hK]
    split
    · rfl
    · rw [decide_eq_true (by omega), if_pos rfl]

/-! ### the law -/
theorem str_refl (a : List Int) : (strOfNums a).toList = (strOfNums a).toList := rfl
theorem strips_both (x6 s : Int) (x : List Int) (hx : Bytes x) (l : List (List Int)) (hl : ∀ i, Bytes (rd_L1 l i)) (hl2 : l.length ≤ 1000) (q : List Int) (hq : q.length ≤ 1000) (d : Nat) :
    ∀ (i : Nat), i + d = l.length →
      (∀ k, d * (q.length + 2) + 2000 ≤ k → scrimlaw14_PadStrips.l0 k x6 s x l q (i : Int) = some true) := by
  induction d with
  | zero =>
    intro i hi k hk
    obtain ⟨k, rfl⟩ : ∃ m, k = m + 1 := ⟨k - 1, by omega⟩
    unfold scrimlaw14_PadStrips.l0
    rw [if_neg (by omega), strip_f k (by omega) 2 x6 x hx, Option.bind_some, refstrip_f k (by omega) 2 x6 x hx, Option.bind_some]
    simp
  | succ d ih =>
    intro i hi k hk
    rw [Nat.succ_mul] at hk
    obtain ⟨k, rfl⟩ : ∃ m, k = m + 1 := ⟨k - 1, by omega⟩
    unfold scrimlaw14_PadStrips.l0
    rw [if_pos (by omega)]
    have next := ih (i + 1) (by omega)
    have inner : ∀ (e k j : Nat), j + e = q.length → e + d * (q.length + 2) + 2001 ≤ k → scrimlaw14_PadStrips.l1 k x6 s x l q (i : Int) (j : Int) = some true := by
      intro e
      induction e with
      | zero =>
        intro k j hj hk
        obtain ⟨k, rfl⟩ : ∃ m, k = m + 1 := ⟨k - 1, by omega⟩
        unfold scrimlaw14_PadStrips.l1
        rw [if_neg (by omega), w_succ (by omega)]
        exact next k (by omega)
      | succ e ihe =>
        intro k j hj hk
        obtain ⟨k, rfl⟩ : ∃ m, k = m + 1 := ⟨k - 1, by omega⟩
        unfold scrimlaw14_PadStrips.l1
        rw [if_pos (by omega), if_pos (by omega), if_pos (by omega), if_pos (by omega), strip_f k (by omega) _ s _ (hl i), Option.bind_some, refstrip_f k (by omega) _ s _ (hl i), Option.bind_some, if_pos rfl, if_pos rfl, w_succ (by omega)]
        exact ihe k (j + 1) (by omega) (by omega)
    exact inner q.length k 0 (by omega) (by omega)
theorem rd_bytes (l : List (List Int)) (h : ∀ x ∈ l, Bytes x) (i : Int) : Bytes (rd_L1 l i) := by
  unfold rd_L1
  by_cases hi : i.toNat < l.length
  · rw [List.getD_eq_getElem?_getD, List.getElem?_eq_getElem hi]; exact h _ (List.getElem_mem hi)
  · rw [List.getD_eq_getElem?_getD, List.getElem?_eq_none (by omega)]
    intro x hx; simp at hx
theorem PadStrips : scrimlaw14_PadStrips.Pure := by
  intro a0 l a2 a3 a4 a5 a6 _ _ _ hb _ _ _ h5 _
  obtain ⟨K, hK⟩ : ∃ K : Nat, 3000 ≤ K := ⟨_, Nat.le_refl _⟩
  refine ⟨K, ?_⟩
  have hB : Bytes l := fun x hx => wf_u8 (hb x hx)
  have h58 := wf_u8 h5
  unfold scrimlaw14_PadStrips.f
  rw [known_f K (by omega), Option.bind_some, if_pos rfl]
  split
  · rfl
  rw [Option.bind_some, within_f a6 2 (by omega) (by omega), Option.bind_some]
  have g1 := Int.emod_nonneg a6 (by omega : (2 : Int) ≠ 0)
  have g2 := Int.emod_lt_of_pos a6 (by omega : (0 : Int) < 2)
  obtain ⟨s, hs, he⟩ : ∃ s : Int, (s = 8 ∨ s = 16) ∧ rd ([8, 16] : List Int) (a6 % 2) = s := by
    generalize a6 % 2 = i at g1 g2
    have : i = 0 ∨ i = 1 := by omega
    rcases this with rfl | rfl
    · exact ⟨8, .inl rfl, rfl⟩
    · exact ⟨16, .inr rfl, rfl⟩
  obtain ⟨x, hx, hxl, hxb⟩ := block_f K (by omega) s hs l hB a2 a3
  rw [he, if_pos g1, if_pos (by simp only [List.length_cons, List.length_nil]; omega), hx, Option.bind_some, Option.bind_some, if_pos (by simp only [List.length_nil]; omega), Option.bind_some, List.nil_append, within_f a4 s (by omega) (by omega), Option.bind_some]
  have g3 := Int.emod_nonneg a4 (by omega : s ≠ 0)
  have g4 := Int.emod_lt_of_pos a4 (by omega : (0 : Int) < s)
  rw [if_pos g3, if_pos (by omega), if_pos (by omega), if_pos (by omega)]
  refine strips_both a6 s x hxb _ (rd_bytes _ fun y hy => ?_) (by simp) _ (by simp) 4 0 rfl K (by simp only [List.length_cons, List.length_nil]; omega)
  simp only [List.mem_cons, List.not_mem_nil, or_false] at hy
  rcases hy with rfl | rfl | rfl | rfl
  · exact hxb
  · exact bytes_set hxb _ (by omega)
  · exact hB
  · exact bytes_replicate _ (by omega)

end Go.Proofs.Ythpeffpafpfkcaa.Pure
