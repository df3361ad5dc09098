/- PadLengths: one to a block of bytes is added, so that it is a whole block; what is added tells how many: the plain law over the functions' plain forms. Conditions: none beyond the statement's own bounds. -/
import Derived.Test.YthpeffpafpfkcaaMPadLengthsx3
import Derived.Test.YthpeffpafpfkcaaPadPlain
namespace Go.Proofs.Ythpeffpafpfkcaa.Pure
open Go.RowKit Go.Proofs.Ythpeffpafpfkcaa.MPadLengths Go.Proofs.YthpeffpafpfkcaaW.PrintWords Go.Proofs.YthpeffpafpfkcaaW.PrintLast Go.Proofs.YthpeffpafpfkcaaW.PrintMore Go.Proofs.Ythpeffpafpfkcaa.Plain

/-! ### within -/
theorem within_f (a n : Int) (h0 : 0 < n) (h1 : n ≤ 1099511627776) : scrimlaw14_within.f a n = some (a % n) := by
  unfold scrimlaw14_within.f
  rw [if_neg (by omega)]
  have e := Int.tmod_eq_emod (a := a) (b := n)
  have l1 := Int.emod_nonneg a (by omega : n ≠ 0)
  have l2 := Int.emod_lt_of_pos a h0
  by_cases hc : 0 ≤ a ∨ n ∣ a
  · rw [if_pos hc] at e
    rw [if_neg (by omega)]
    congr 1; omega
  · rw [if_neg hc] at e
    have hn : (n.natAbs : Int) = n := by omega
    have hnz : a % n ≠ 0 := fun z => hc (.inr (Int.dvd_of_emod_eq_zero z))
    rw [if_pos (by omega)]
    congr 1
    unfold wrap64; omega

/-! ### made and Add -/
theorem made_loop (n : Nat) (hn : 1 ≤ n) (hn2 : n ≤ 64) (d : Nat) : ∀ (k i : Nat) (xs : List Int), i + d = n → d < k → xs.length = n → (∀ j, j < i → xs.getD j 0 = (n : Int) % 256) → pad_made.l0 k (n : Int) xs (n : Int) (i : Int) = some (List.replicate n ((n : Int) % 256)) := by
  induction d with
  | zero =>
    intro k i xs hd hk hl hx
    obtain ⟨k, rfl⟩ : ∃ m, k = m + 1 := ⟨k - 1, by omega⟩
    unfold pad_made.l0
    have e : wrap64 ((n : Int) - 1) = ((n - 1 : Nat) : Int) := by unfold wrap64; omega
    rw [if_neg (by omega), e, if_pos (by omega), if_pos (by omega), Int.toNat_natCast]
    congr 1
    refine ext_getD (by simpa using hl) fun j hj => ?_
    rw [List.length_set] at hj
    rw [getD_set, getD_replicate, if_pos (by omega : j < n)]
    split
    · rfl
    · exact hx j (by omega)
  | succ d ih =>
    intro k i xs hd hk hl hx
    obtain ⟨k, rfl⟩ : ∃ m, k = m + 1 := ⟨k - 1, by omega⟩
    unfold pad_made.l0
    rw [if_pos (by omega), if_pos (by omega), if_pos (by omega), w_succ (by omega), Int.toNat_natCast]
    refine ih k (i + 1) _ (by omega) (by omega) (by simpa using hl) fun j hj => ?_
    rw [getD_set]
    split
    · rfl
    · exact hx j (by omega)
theorem made_f (k : Nat) (hk : 1000 ≤ k) (kind : Int) (n : Nat) (hn : 1 ≤ n) (hn2 : n ≤ 64) : pad_made.f k kind (n : Int) = some (madeS kind n) := by
  unfold pad_made.f
  have e : wrap64 ((n : Int) - 1) = ((n - 1 : Nat) : Int) := by unfold wrap64; omega
  rw [if_pos (by omega), if_pos (by omega), Option.bind_some, Int.toNat_natCast, List.length_replicate, e]
  unfold madeS
  by_cases h1 : kind = 1
  · rw [if_pos h1, if_pos h1]
    exact made_loop n hn hn2 n k 0 _ (by omega) (by omega) (by simp) (by intro j hj; omega)
  · rw [if_neg h1, if_neg h1]
    by_cases h3 : kind = 3
    · rw [if_pos h3, if_pos h3, if_pos (by omega), if_pos (by omega), Int.toNat_natCast]
    · rw [if_neg h3, if_neg h3]
      by_cases h2 : kind = 2
      · rw [if_pos h2, if_pos h2, if_pos (by omega)]; rfl
      · rw [if_neg h2, if_neg h2]
theorem concat_f (k : Nat) (hk : 1000 ≤ k) (a b : List Int) (ha : a.length ≤ 64) (hb : b.length ≤ 64) : slices_Concat_byte_byte.f k [a, b] = some (a ++ b) := by
  obtain ⟨k, rfl⟩ : ∃ m, k = m + 9 := ⟨k - 9, by omega⟩
  have r0 : rd_L1 [a, b] 0 = a := rfl
  have r1 : rd_L1 [a, b] 1 = b := rfl
  have w1 : wrap64 ((0 : Int) + 1) = 1 := by unfold wrap64; omega
  have w2 : wrap64 ((1 : Int) + 1) = 2 := by unfold wrap64; omega
  have wa : wrap64 (0 + (a.length : Int)) = (a.length : Int) := by unfold wrap64; omega
  have wb : wrap64 ((a.length : Int) + (b.length : Int)) = (a.length : Int) + (b.length : Int) := by unfold wrap64; omega
  have two : (([a, b] : List (List Int)).length : Int) = 2 := rfl
  unfold slices_Concat_byte_byte.f
  rw [two]
  unfold slices_Concat_byte_byte.l0
  rw [if_pos (by omega), if_pos (by omega), if_pos (by rw [two]; omega), r0, wa, if_neg (by omega), w1]
  unfold slices_Concat_byte_byte.l0
  rw [if_pos (by omega), if_pos (by omega), if_pos (by rw [two]; omega), r1, wb, if_neg (by omega), w2]
  unfold slices_Concat_byte_byte.l0
  rw [if_neg (by omega), if_pos (by omega), two]
  unfold slices_Concat_byte_byte.l1
  rw [if_pos (by omega), if_pos (by omega), if_pos (by rw [two]; omega), r0, if_pos (by simp only [List.length_nil]; omega), w1]
  unfold slices_Concat_byte_byte.l1
  rw [if_pos (by omega), if_pos (by omega), if_pos (by rw [two]; omega), r1, if_pos (by simp only [List.nil_append]; omega), w2]
  unfold slices_Concat_byte_byte.l1
  rw [if_neg (by omega)]
  rfl
theorem tell_f (kind : Int) : pad_tell.f kind = some (decide (kind = 1 ∨ kind = 2 ∨ kind = 3)) := by
  unfold pad_tell.f
  by_cases h1 : kind = 1
  · rw [if_pos h1]; subst h1; decide
  · rw [if_neg h1]
    by_cases h2 : kind = 2
    · rw [if_pos h2]; subst h2; decide
    · rw [if_neg h2]
      by_cases h3 : kind = 3
      · rw [if_pos h3]; subst h3; decide
      · rw [if_neg h3, decide_eq_false (by omega)]
theorem sized_f (n : Int) : pad_sized.f n = some (decide (n = 8 ∨ n = 16)) := by
  unfold pad_sized.f
  by_cases h1 : n = 8
  · rw [if_pos h1]; subst h1; decide
  · rw [if_neg h1]
    congr 1
    by_cases h2 : n = 16
    · subst h2; decide
    · rw [decide_eq_false (by omega)]; simpa using h2
/-- What Add answers. -/
def addS (kind size : Int) (l : List Int) : List Int × Int :=
  if kind = 1 ∨ kind = 2 ∨ kind = 3 then
    if (size = 8 ∨ size = 16) ∧ (l.length : Int) < size then (l ++ madeS kind (size.toNat - l.length), 0) else ([], 1)
  else ([], 3)
theorem addj0_f (k : Nat) (x0 x1 : Int) (x2 : List Int) (t : Bool) : pad_Add.j0 (k + 1) x0 x1 x2 t = if t = true then (some (([] : List Int), 1)) else ((pad_made.f k x0 (wrap64 (x1 - (x2.length : Int)))).bind fun t103 => ((slices_Concat_byte_byte.f k (([x2, t103] : List (List Int)))).bind fun t109 => (some (t109, 0)))) := rfl
theorem add_f (k : Nat) (hk : 1001 ≤ k) (kind size : Int) (l : List Int) (hl : l.length ≤ 140737488355328) : pad_Add.f k kind size l = some (addS kind size l) := by
  obtain ⟨k, rfl⟩ : ∃ m, k = m + 1 := ⟨k - 1, by omega⟩
  unfold pad_Add.f addS
  rw [tell_f, Option.bind_some]
  by_cases hK : kind = 1 ∨ kind = 2 ∨ kind = 3
  · rw [decide_eq_true hK, if_pos rfl, if_pos hK, sized_f, Option.bind_some]
    by_cases hS : size = 8 ∨ size = 16
    · rw [decide_eq_true hS, if_pos rfl]
      rw [addj0_f]
      by_cases hL : (l.length : Int) < size
      · rw [decide_eq_false (by omega), if_neg (by simp : ¬ false = true), if_pos ⟨hS, hL⟩]
        have e : wrap64 (size - (l.length : Int)) = ((size.toNat - l.length : Nat) : Int) := by unfold wrap64; omega
        rw [e, made_f k (by omega) kind _ (by omega) (by omega), Option.bind_some, concat_f k (by omega) _ _ (by omega) (by rw [madeS_length]; omega), Option.bind_some]
      · rw [decide_eq_true (by omega), if_pos rfl, if_neg (fun h => hL h.2)]
    · rw [decide_eq_false hS, if_neg (by simp), if_neg (fun h => hS h.1), addj0_f, Bool.not_false, if_pos rfl]
  · rw [decide_eq_false hK, if_neg (by simp), if_neg hK]
theorem addS_of {kind size : Int} {l : List Int} (hk : kind = 1 ∨ kind = 2 ∨ kind = 3) (hs : size = 8 ∨ size = 16) (hl : (l.length : Int) < size) : addS kind size l = (l ++ madeS kind (size.toNat - l.length), 0) := by
  unfold addS; rw [if_pos hk, if_pos ⟨hs, hl⟩]
theorem addS_not {kind size : Int} {l : List Int} (hk : kind = 1 ∨ kind = 2 ∨ kind = 3) (hl : ¬ (l.length : Int) < size) : addS kind size l = ([], 1) := by
  unfold addS; rw [if_pos hk, if_neg (by omega)]
theorem addS_bytes (kind size : Int) (l : List Int) (h : Bytes l) : Bytes (addS kind size l).1 := by
  unfold addS; repeat' split
  · exact bytes_append h (madeS_bytes _ _)
  all_goals exact fun x hx => by simp at hx

/-! ### long and Strip -/
theorem last_loop (b : List Int) (c : Int) (hb : b.length ≤ 281474976710656) (n : Nat) : ∀ (k : Nat), n ≤ b.length → n < k → bytealg_LastIndexByte.l0 k b c ((n : Int) - 1) = some (lastS b c n) := by
  induction n with
  | zero =>
    intro k _ hk
    obtain ⟨k, rfl⟩ : ∃ m, k = m + 1 := ⟨k - 1, by omega⟩
    unfold bytealg_LastIndexByte.l0 lastS
    rw [if_neg (by omega)]
  | succ n ih =>
    intro k hn hk
    obtain ⟨k, rfl⟩ : ∃ m, k = m + 1 := ⟨k - 1, by omega⟩
    unfold bytealg_LastIndexByte.l0 lastS
    have e : ((n + 1 : Nat) : Int) - 1 = (n : Int) := by omega
    have e2 : wrap64 ((n : Int) - 1) = (n : Int) - 1 := by unfold wrap64; omega
    rw [e, if_pos (by omega), if_pos (by omega), if_pos (by omega), rd_nat, e2]
    split
    · rfl
    · exact ih k (by omega) (by omega)
theorem last_f (k : Nat) (b : List Int) (c : Int) (hb : b.length < k) (h2 : b.length ≤ 281474976710656) : bytes_LastIndexByte.f k b c = some (lastS b c b.length) := by
  unfold bytes_LastIndexByte.f bytealg_LastIndexByte.f
  have e : wrap64 ((b.length : Int) - 1) = (b.length : Int) - 1 := by unfold wrap64; omega
  rw [e, last_loop b c h2 b.length k (Nat.le_refl _) hb, Option.bind_some]
theorem j0_f (k : Nat) (hk : 1000 ≤ k) (n : Int) (t : Bool) : pad_long.j0 k n t = some (if t = true then 0 else n) := by
  obtain ⟨k, rfl⟩ : ∃ m, k = m + 1 := ⟨k - 1, by omega⟩
  show (if t = true then some 0 else some n) = _
  split <;> rfl
theorem long_f (k : Nat) (hk : 1000 ≤ k) (kind : Int) (b : List Int) (hb : Bytes b) (h1 : 1 ≤ b.length) (h2 : b.length ≤ 64) : pad_long.f k kind b = some ((longS kind b : Nat) : Int) := by
  unfold pad_long.f longS
  have e : wrap64 ((b.length : Int) - 1) = ((b.length - 1 : Nat) : Int) := by unfold wrap64; omega
  rw [e, if_pos (by omega), if_pos (by omega)]
  by_cases k2 : kind = 2
  · rw [if_pos k2, if_pos k2, last_f k b 128 (by omega) (by omega), Option.bind_some]
    have hr := lastS_range b 128 b.length
    generalize lastS b 128 b.length = i at hr
    have e3 : wrap64 ((b.length : Int) - i) = (b.length : Int) - i := by unfold wrap64; omega
    rw [e3]
    by_cases hi : i < 0
    · rw [if_pos (by omega), if_pos hi]; rfl
    · obtain ⟨i, rfl⟩ : ∃ m : Nat, i = (m : Int) := ⟨i.toNat, by omega⟩
      have e4 : wrap64 ((b.length : Int) - ((b.length : Int) - (i : Int))) = (i : Int) := by unfold wrap64; omega
      have e5 : (b.length : Int) - (i : Int) = ((b.length - i : Nat) : Int) := by omega
      rw [if_neg (by omega), if_neg hi, e4, if_pos (by omega), if_pos (by omega), e5, made_f k hk kind _ (by omega) (by omega), Option.bind_some, Int.toNat_natCast]
      unfold bytes_Equal.f
      rw [Option.bind_some, str_beq (bytes_drop hb _) (madeS_bytes _ _), k2]
      by_cases hd : b.drop i = madeS 2 (b.length - i)
      · rw [decide_eq_true hd, if_pos rfl, if_pos hd]
      · rw [decide_eq_false hd, if_neg (by simp), if_neg hd]; rfl
  · rw [if_neg k2, if_neg k2, rd_nat]
    have hv := bytes_getD hb (b.length - 1)
    generalize b.getD (b.length - 1) 0 = v at hv
    have e3 : wrap64 v = v := by unfold wrap64; omega
    rw [e3, j0_f k hk, j0_f k hk, if_pos rfl]
    obtain ⟨n, rfl⟩ : ∃ m : Nat, v = (m : Int) := ⟨v.toNat, by omega⟩
    rw [Int.toNat_natCast]
    by_cases hn : n < 1 ∨ b.length < n
    · rw [if_pos hn]
      rcases hn with hn | hn
      · rw [if_pos (by omega)]; rfl
      · split
        · rfl
        · rw [if_pos (by omega)]; rfl
    · have e4 : wrap64 ((b.length : Int) - (n : Int)) = ((b.length - n : Nat) : Int) := by unfold wrap64; omega
      rw [if_neg (by omega), if_neg (by omega), if_neg hn]
      by_cases k1 : kind = 1
      · subst k1
        rw [if_pos rfl, e4, if_pos (by omega), if_pos (by omega), made_f k hk 1 n (by omega) (by omega), Option.bind_some, Int.toNat_natCast]
        unfold bytes_Equal.f
        rw [Option.bind_some, str_beq (bytes_drop hb _) (madeS_bytes _ _), j0_f k hk]
        by_cases hd : b.drop (b.length - n) = madeS 1 n
        · rw [decide_eq_true hd, if_neg (by simp : ¬ (!true) = true), if_neg (fun h => h.2 hd)]
        · rw [decide_eq_false hd, Bool.not_false, if_pos rfl, if_pos ⟨rfl, hd⟩]; rfl
      · rw [if_neg k1, if_neg (by simp), if_neg (fun h => k1 h.1)]
/-- What Strip answers. -/
def stripS (kind size : Int) (b : List Int) : List Int × Int :=
  if kind = 1 ∨ kind = 2 ∨ kind = 3 then
    if (size = 8 ∨ size = 16) ∧ (b.length : Int) = size then
      if longS kind b = 0 then ([], 8) else (b.take (b.length - longS kind b), 0)
    else ([], 1)
  else ([], 3)
theorem strip_f (k : Nat) (hk : 1000 ≤ k) (kind size : Int) (b : List Int) (hb : Bytes b) : pad_Strip.f k kind size b = some (stripS kind size b) := by
  unfold pad_Strip.f stripS
  rw [tell_f, Option.bind_some]
  by_cases hK : kind = 1 ∨ kind = 2 ∨ kind = 3
  · rw [decide_eq_true hK, if_pos rfl, if_pos hK, sized_f, Option.bind_some]
    by_cases hS : size = 8 ∨ size = 16
    · rw [decide_eq_true hS, if_pos rfl]
      by_cases hL : (b.length : Int) = size
      · rw [if_pos hL, if_pos ⟨hS, hL⟩, long_f k hk kind b hb (by omega) (by omega), Option.bind_some]
        have hle := longS_le kind b
        generalize longS kind b = n at hle
        by_cases h0 : n = 0
        · rw [if_pos (by omega), if_pos h0]
        · have e : wrap64 (size - (n : Int)) = ((b.length - n : Nat) : Int) := by unfold wrap64; omega
          rw [if_neg (by omega), if_neg h0, e, if_pos (by omega), if_pos (by omega), Int.toNat_natCast]
          unfold slices_Clone_byte_byte.f
          rw [if_pos (by rw [List.length_take]; omega), Option.bind_some]
      · rw [if_neg hL, if_neg (fun h => hL h.2)]
    · rw [decide_eq_false hS, if_neg (by simp), if_neg (fun h => hS h.1)]
  · rw [decide_eq_false hK, if_neg (by simp), if_neg hK]
theorem stripS_bytes (kind size : Int) (b : List Int) (h : Bytes b) : Bytes (stripS kind size b).1 := by
  unfold stripS; repeat' split
  all_goals first | exact bytes_take h _ | exact fun x hx => by simp at hx
theorem known_f (k : Nat) (hk : 1001 ≤ k) : scrimlaw14_known.f k = some true := by
  unfold scrimlaw14_known.f
  rw [if_pos (by omega), strip_f k (by omega) 2 8 _ (bytes_replicate 8 (by omega)), Option.bind_some, add_f k hk 1 8 _ (by decide), Option.bind_some]
  rw [if_pos (by decide +kernel), if_pos (by decide +kernel)]
  decide +kernel

/-! ### the law -/
theorem lenj0_f (k : Nat) (x7 x8 x9 : Int) (x10 : List Int) (x49 : Bool) : scrimlaw14_PadLengths.j0 (k + 1) x7 x8 x9 x10 x49 = if x49 = true then (some false) else (if x8 = 2 then (if 0 ≤ x9 then (if x9 < (x10.length : Int) then (if (rd x10 x9) = 128 then (if x9 = (wrap64 (x7 - 1)) then (some true) else (if 0 ≤ (wrap64 (x7 - 1)) then (if (wrap64 (x7 - 1)) < (x10.length : Int) then (some ((rd x10 (wrap64 (x7 - 1))) == 0)) else (none)) else (none))) else (some false)) else (none)) else (none)) else (if 0 ≤ (wrap64 (x7 - 1)) then (if (wrap64 (x7 - 1)) < (x10.length : Int) then (some ((wrap64 (rd x10 (wrap64 (x7 - 1)))) == (wrap64 (x7 - x9)))) else (none)) else (none))) := rfl
theorem PadLengths : scrimlaw14_PadLengths.Pure := by
  intro a0 a1 a2 _ _ _
  obtain ⟨K, hK⟩ : ∃ K : Nat, 1001 ≤ K := ⟨_, Nat.le_refl _⟩
  refine ⟨K, ?_⟩
  unfold scrimlaw14_PadLengths.f
  rw [known_f K hK, Option.bind_some, if_pos rfl, Option.bind_some, within_f a2 2 (by omega) (by omega), Option.bind_some]
  have g1 := Int.emod_nonneg a2 (by omega : (2 : Int) ≠ 0)
  have g2 := Int.emod_lt_of_pos a2 (by omega : (0 : Int) < 2)
  obtain ⟨s, hs, he⟩ : ∃ s : Int, (s = 8 ∨ s = 16) ∧ rd ([8, 16] : List Int) (a2 % 2) = s := by
    generalize a2 % 2 = i at g1 g2
    have : i = 0 ∨ i = 1 := by omega
    rcases this with rfl | rfl
    · exact ⟨8, .inl rfl, rfl⟩
    · exact ⟨16, .inr rfl, rfl⟩
  rw [he, if_pos g1, if_pos (by simp only [List.length_cons, List.length_nil]; omega), within_f a0 3 (by omega) (by omega), Option.bind_some, within_f a1 20 (by omega) (by omega), Option.bind_some]
  have g3 := Int.emod_nonneg a0 (by omega : (3 : Int) ≠ 0)
  have g4 := Int.emod_lt_of_pos a0 (by omega : (0 : Int) < 3)
  have g5 := Int.emod_nonneg a1 (by omega : (20 : Int) ≠ 0)
  have g6 := Int.emod_lt_of_pos a1 (by omega : (0 : Int) < 20)
  have e2 : wrap64 (1 + a0 % 3) = 1 + a0 % 3 := by unfold wrap64; omega
  rw [e2]
  obtain ⟨kind, hkind, he2⟩ : ∃ kind : Int, (kind = 1 ∨ kind = 2 ∨ kind = 3) ∧ 1 + a0 % 3 = kind := ⟨_, by omega, rfl⟩
  obtain ⟨w, hw⟩ : ∃ w : Nat, a1 % 20 = (w : Int) := ⟨(a1 % 20).toNat, by omega⟩
  rw [hw] at g5 g6
  rw [he2, hw, if_pos (by omega), if_pos (by omega), Int.toNat_natCast, add_f K hK kind s _ (by rw [List.length_replicate]; omega), Option.bind_some]
  by_cases hL : (w : Int) < s
  · rw [if_neg (by omega), addS_of hkind hs (by rw [List.length_replicate]; exact hL)]
    obtain ⟨K, rfl⟩ : ∃ m, K = m + 1 := ⟨K - 1, by omega⟩
    have hXl : (((List.replicate w 0 ++ madeS kind (s.toNat - (List.replicate w (0 : Int)).length)).length : Nat) : Int) = s := by
      rw [List.length_append, madeS_length, List.length_replicate]; omega
    dsimp only
    rw [if_pos rfl, hXl, lenj0_f, if_neg (by simp)]
    rw [List.length_replicate] at hXl ⊢
    clear he2 e2 g1 g2 g3 g4 he hw
    obtain ⟨n, hn⟩ : ∃ n : Nat, s.toNat - w = n := ⟨_, rfl⟩
    have hn1 : n - 1 < n := by omega
    have hn2 : 0 ≠ n - 1 ∨ n - 1 = 0 := by omega
    have hwn : (w : Int) ≠ s - 1 → 0 ≠ n - 1 := by omega
    have hn0 : 0 < n := by omega
    have h256 : (n : Int) % 256 = (n : Int) := by omega
    have h2 : 0 ≤ ((s.toNat - 1 : Nat) : Int) := by omega
    have h3 : ((s.toNat - 1 : Nat) : Int) < s := by omega
    have hw0 : 0 ≤ (w : Int) := by omega
    have hsn : ((s.toNat - 1 : Nat) : Int) = s - 1 := by omega
    have hlt : ¬ s.toNat - 1 < w := by omega
    have hsub : s.toNat - 1 - w = n - 1 := by omega
    have v0 : (List.replicate w 0 ++ madeS kind (s.toNat - w)).getD w 0 = (madeS kind n).getD 0 0 := by
      rw [getD_append, List.length_replicate, if_neg (Nat.lt_irrefl w), Nat.sub_self, hn]
    have v1 : (List.replicate w 0 ++ madeS kind (s.toNat - w)).getD (s.toNat - 1) 0 = (madeS kind n).getD (n - 1) 0 := by
      rw [getD_append, List.length_replicate, if_neg hlt, hn, hsub]
    have e3 : wrap64 (s - 1) = ((s.toNat - 1 : Nat) : Int) := by unfold wrap64; omega
    have e4 : wrap64 (s - (w : Int)) = ((s.toNat - w : Nat) : Int) := by unfold wrap64; omega
    have e5 : wrap64 (n : Int) = (n : Int) := by unfold wrap64; omega
    rw [e3, e4, hXl, rd_nat, rd_nat, v0, v1, hn]
    rcases hkind with h | h | h
    · subst h
      rw [if_neg (by decide), if_pos h2, if_pos h3]
      unfold madeS
      rw [if_pos rfl, getD_replicate, if_pos hn1, h256, e5]; simp
    · subst h
      have h4 : (madeS 2 n).getD 0 0 = 128 := by
        unfold madeS
        rw [if_neg (by decide), if_neg (by decide), if_pos rfl, getD_set, if_pos ⟨rfl, by rw [List.length_replicate]; exact hn0⟩]
      rw [if_pos rfl, if_pos hw0, if_pos hL, if_pos h4, if_pos h2, if_pos h3, hsn]
      split
      · rfl
      · rename_i hne
        have h5 : (madeS 2 n).getD (n - 1) 0 = 0 := by
          unfold madeS
          rw [if_neg (by decide), if_neg (by decide), if_pos rfl, getD_set, if_neg (fun h => hwn hne h.1), getD_replicate]
          split <;> rfl
        rw [h5]; rfl
    · subst h
      rw [if_neg (by decide), if_pos h2, if_pos h3]
      unfold madeS
      rw [if_neg (by decide), if_pos rfl, getD_set, if_pos ⟨rfl, by rw [List.length_replicate]; exact hn1⟩, h256, e5]; simp
  · rw [if_pos (by omega), addS_not hkind (by rw [List.length_replicate]; exact hL)]
    rfl

end Go.Proofs.Ythpeffpafpfkcaa.Pure
