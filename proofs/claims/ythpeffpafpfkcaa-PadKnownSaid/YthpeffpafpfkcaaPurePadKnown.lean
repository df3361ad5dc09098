/- PadKnown: the fourteen blocks of the chapter have just these ends: the plain law over the functions' plain forms. Conditions: none beyond the statement's own bounds. -/
import Derived.Test.YthpeffpafpfkcaaMPadKnownx4
import Derived.Test.YthpeffpafpfkcaaPadPlain
namespace Go.Proofs.Ythpeffpafpfkcaa.Pure
open Go.RowKit Go.Proofs.Ythpeffpafpfkcaa.MPadKnown Go.Proofs.YthpeffpafpfkcaaW.PrintWords Go.Proofs.YthpeffpafpfkcaaW.PrintLast Go.Proofs.YthpeffpafpfkcaaW.PrintMore Go.Proofs.Ythpeffpafpfkcaa.Plain

/-! ### within -/
theorem within_f (a n : Int) (h0 : 0 < n) (h1 : n ≤ 1099511627776) : scrimlaw14_within.f a n = some (a % n) := by
  unfold scrimlaw14_within.f
  rw [if_neg (by omega)]
  have e := Int.tmod_eq_emod (a := a) (b := n)
  have l1 := Int.emod_nonneg a (by omega : n ≠ 0)
  have l2 := Int.emod_lt_of_pos a h0
  by_cases hc : 0 ≤ a ∨ n ∣ a
  · rw [if_pos hc] at e
    rw [if_neg (by omega)]
    congr 1; omega
  · rw [if_neg hc] at e
    have hn : (n.natAbs : Int) = n := by omega
    have hnz : a % n ≠ 0 := fun z => hc (.inr (Int.dvd_of_emod_eq_zero z))
    rw [if_pos (by omega)]
    congr 1
    unfold wrap64; omega

/-! ### made and Add -/
theorem made_loop (n : Nat) (hn : 1 ≤ n) (hn2 : n ≤ 64) (d : Nat) : ∀ (k i : Nat) (xs : List Int), i + d = n → d < k → xs.length = n → (∀ j, j < i → xs.getD j 0 = (n : Int) % 256) → pad_made.l0 k (n : Int) xs (n : Int) (i : Int) = some (List.replicate n ((n : Int) % 256)) := by
  induction d with
  | zero =>
    intro k i xs hd hk hl hx
    obtain ⟨k, rfl⟩ : ∃ m, k = m + 1 := ⟨k - 1, by omega⟩
    unfold pad_made.l0
    have e : wrap64 ((n : Int) - 1) = ((n - 1 : Nat) : Int) := by unfold wrap64; omega
    rw [if_neg (by omega), e, if_pos (by omega), if_pos (by omega), Int.toNat_natCast]
    congr 1
    refine ext_getD (by simpa using hl) fun j hj => ?_
    rw [List.length_set] at hj
    rw [getD_set, getD_replicate, if_pos (by omega : j < n)]
    split
    · rfl
    · exact hx j (by omega)
  | succ d ih =>
    intro k i xs hd hk hl hx
    obtain ⟨k, rfl⟩ : ∃ m, k = m + 1 := ⟨k - 1, by omega⟩
    unfold pad_made.l0
    rw [if_pos (by omega), if_pos (by omega), if_pos (by omega), w_succ (by omega), Int.toNat_natCast]
    refine ih k (i + 1) _ (by omega) (by omega) (by simpa using hl) fun j hj => ?_
    rw [getD_set]
    split
    · rfl
    · exact hx j (by omega)
theorem made_f (k : Nat) (hk : 1000 ≤ k) (kind : Int) (n : Nat) (hn : 1 ≤ n) (hn2 : n ≤ 64) : pad_made.f k kind (n : Int) = some (madeS kind n) := by
  unfold pad_made.f
  have e : wrap64 ((n : Int) - 1) = ((n - 1 : Nat) : Int) := by unfold wrap64; omega
  rw [if_pos (by omega), if_pos (by omega), Option.bind_some, Int.toNat_natCast, List.length_replicate, e]
  unfold madeS
  by_cases h1 : kind = 1
  · rw [if_pos h1, if_pos h1]
    exact made_loop n hn hn2 n k 0 _ (by omega) (by omega) (by simp) (by intro j hj; omega)
  · rw [if_neg h1, if_neg h1]
    by_cases h3 : kind = 3
    · rw [if_pos h3, if_pos h3, if_pos (by omega), if_pos (by omega), Int.toNat_natCast]
    · rw [if_neg h3, if_neg h3]
      by_cases h2 : kind = 2
      · rw [if_pos h2, if_pos h2, if_pos (by omega)]; rfl
      · rw [if_neg h2, if_neg h2]
theorem concat_f (k : Nat) (hk : 1000 ≤ k) (a b : List Int) (ha : a.length ≤ 64) (hb : b.length ≤ 64) : slices_Concat_byte_byte.f k [a, b] = some (a ++ b) := by
  obtain ⟨k, rfl⟩ : ∃ m, k = m + 9 := ⟨k - 9, by omega⟩
  have r0 : rd_L1 [a, b] 0 = a := rfl
  have r1 : rd_L1 [a, b] 1 = b := rfl
  have w1 : wrap64 ((0 : Int) + 1) = 1 := by unfold wrap64; omega
  have w2 : wrap64 ((1 : Int) + 1) = 2 := by unfold wrap64; omega
  have wa : wrap64 (0 + (a.length : Int)) = (a.length : Int) := by unfold wrap64; omega
  have wb : wrap64 ((a.length : Int) + (b.length : Int)) = (a.length : Int) + (b.length : Int) := by unfold wrap64; omega
  have two : (([a, b] : List (List Int)).length : Int) = 2 := rfl
  unfold slices_Concat_byte_byte.f
  rw [two]
  unfold slices_Concat_byte_byte.l0
  rw [if_pos (by omega), if_pos (by omega), if_pos (by rw [two]; omega), r0, wa, if_neg (by omega), w1]
  unfold slices_Concat_byte_byte.l0
  rw [if_pos (by omega), if_pos (by omega), if_pos (by rw [two]; omega), r1, wb, if_neg (by omega), w2]
  unfold slices_Concat_byte_byte.l0
  rw [if_neg (by omega), if_pos (by omega), two]
  unfold slices_Concat_byte_byte.l1
  rw [if_pos (by omega), if_pos (by omega), if_pos (by rw [two]; omega), r0, if_pos (by simp only [List.length_nil]; omega), w1]
  unfold slices_Concat_byte_byte.l1
  rw [if_pos (by omega), if_pos (by omega), if_pos (by rw [two]; omega), r1, if_pos (by simp only [List.nil_append]; omega), w2]
  unfold slices_Concat_byte_byte.l1
  rw [if_neg (by omega)]
  rfl
theorem tell_f (kind : Int) : pad_tell.f kind = some (decide (kind = 1 ∨ kind = 2 ∨ kind = 3)) := by
  unfold pad_tell.f
  by_cases h1 : kind = 1
  · rw [if_pos h1]; subst h1; decide
  · rw [if_neg h1]
    by_cases h2 : kind = 2
    · rw [if_pos h2]; subst h2; decide
    · rw [if_neg h2]
      by_cases h3 : kind = 3
      · rw [if_pos h3]; subst h3; decide
      · rw [if_neg h3, decide_eq_false (by omega)]
theorem sized_f (n : Int) : pad_sized.f n = some (decide (n = 8 ∨ n = 16)) := by
  unfold pad_sized.f
  by_cases h1 : n = 8
  · rw [if_pos h1]; subst h1; decide
  · rw [if_neg h1]
    congr 1
    by_cases h2 : n = 16
    · subst h2; decide
    · rw [decide_eq_false (by omega)]; simpa using h2
/-- What Add answers. -/
def addS (kind size : Int) (l : List Int) : List Int × Int :=
  if kind = 1 ∨ kind = 2 ∨ kind = 3 then
    if (size = 8 ∨ size = 16) ∧ (l.length : Int) < size then (l ++ madeS kind (size.toNat - l.length), 0) else ([], 1)
  else ([], 3)
theorem addj0_f (k : Nat) (x0 x1 : Int) (x2 : List Int) (t : Bool) : pad_Add.j0 (k + 1) x0 x1 x2 t = if t = true then (some (([] : List Int), 1)) else ((pad_made.f k x0 (wrap64 (x1 - (x2.length : Int)))).bind fun t103 => ((slices_Concat_byte_byte.f k (([x2, t103] : List (List Int)))).bind fun t109 => (some (t109, 0)))) := rfl
theorem add_f (k : Nat) (hk : 1001 ≤ k) (kind size : Int) (l : List Int) (hl : l.length ≤ 140737488355328) : pad_Add.f k kind size l = some (addS kind size l) := by
  obtain ⟨k, rfl⟩ : ∃ m, k = m + 1 := ⟨k - 1, by omega⟩
  unfold pad_Add.f addS
  rw [tell_f, Option.bind_some]
  by_cases hK : kind = 1 ∨ kind = 2 ∨ kind = 3
  · rw [decide_eq_true hK, if_pos rfl, if_pos hK, sized_f, Option.bind_some]
    by_cases hS : size = 8 ∨ size = 16
    · rw [decide_eq_true hS, if_pos rfl]
      rw [addj0_f]
      by_cases hL : (l.length : Int) < size
      · rw [decide_eq_false (by omega), if_neg (by simp : ¬ false = true), if_pos ⟨hS, hL⟩]
        have e : wrap64 (size - (l.length : Int)) = ((size.toNat - l.length : Nat) : Int) := by unfold wrap64; omega
        rw [e, made_f k (by omega) kind _ (by omega) (by omega), Option.bind_some, concat_f k (by omega) _ _ (by omega) (by rw [madeS_length]; omega), Option.bind_some]
      · rw [decide_eq_true (by omega), if_pos rfl, if_neg (fun h => hL h.2)]
    · rw [decide_eq_false hS, if_neg (by simp), if_neg (fun h => hS h.1), addj0_f, Bool.not_false, if_pos rfl]
  · rw [decide_eq_false hK, if_neg (by simp), if_neg hK]
theorem addS_of {kind size : Int} {l : List Int} (hk : kind = 1 ∨ kind = 2 ∨ kind = 3) (hs : size = 8 ∨ size = 16) (hl : (l.length : Int) < size) : addS kind size l = (l ++ madeS kind (size.toNat - l.length), 0) := by
  unfold addS; rw [if_pos hk, if_pos ⟨hs, hl⟩]
theorem addS_not {kind size : Int} {l : List Int} (hk : kind = 1 ∨ kind = 2 ∨ kind = 3) (hl : ¬ (l.length : Int) < size) : addS kind size l = ([], 1) := by
  unfold addS; rw [if_pos hk, if_neg (by omega)]
theorem addS_bytes (kind size : Int) (l : List Int) (h : Bytes l) : Bytes (addS kind size l).1 := by
  unfold addS; repeat' split
  · exact bytes_append h (madeS_bytes _ _)
  all_goals exact fun x hx => by simp at hx

/-! ### long and Strip -/
theorem last_loop (b : List Int) (c : Int) (hb : b.length ≤ 281474976710656) (n : Nat) : ∀ (k : Nat), n ≤ b.length → n < k → bytealg_LastIndexByte.l0 k b c ((n : Int) - 1) = some (lastS b c n) := by
  induction n with
  | zero =>
    intro k _ hk
    obtain ⟨k, rfl⟩ : ∃ m, k = m + 1 := ⟨k - 1, by omega⟩
    unfold bytealg_LastIndexByte.l0 lastS
    rw [if_neg (by omega)]
  | succ n ih =>
    intro k hn hk
    obtain ⟨k, rfl⟩ : ∃ m, k = m + 1 := ⟨k - 1, by omega⟩
    unfold bytealg_LastIndexByte.l0 lastS
    have e : ((n + 1 : Nat) : Int) - 1 = (n : Int) := by omega
    have e2 : wrap64 ((n : Int) - 1) = (n : Int) - 1 := by unfold wrap64; omega
    rw [e, if_pos (by omega), if_pos (by omega), if_pos (by omega), rd_nat, e2]
    split
    · rfl
    · exact ih k (by omega) (by omega)
theorem last_f (k : Nat) (b : List Int) (c : Int) (hb : b.length < k) (h2 : b.length ≤ 281474976710656) : bytes_LastIndexByte.f k b c = some (lastS b c b.length) := by
  unfold bytes_LastIndexByte.f bytealg_LastIndexByte.f
  have e : wrap64 ((b.length : Int) - 1) = (b.length : Int) - 1 := by unfold wrap64; omega
  rw [e, last_loop b c h2 b.length k (Nat.le_refl _) hb, Option.bind_some]
theorem j0_f (k : Nat) (hk : 1000 ≤ k) (n : Int) (t : Bool) : pad_long.j0 k n t = some (if t = true then 0 else n) := by
  obtain ⟨k, rfl⟩ : ∃ m, k = m + 1 := ⟨k - 1, by omega⟩
  show (if t = true then some 0 else some n) = _
  split <;> rfl
theorem long_f (k : Nat) (hk : 1000 ≤ k) (kind : Int) (b : List Int) (hb : Bytes b) (h1 : 1 ≤ b.length) (h2 : b.length ≤ 64) : pad_long.f k kind b = some ((longS kind b : Nat) : Int) := by
  unfold pad_long.f longS
  have e : wrap64 ((b.length : Int) - 1) = ((b.length - 1 : Nat) : Int) := by unfold wrap64; omega
  rw [e, if_pos (by omega), if_pos (by omega)]
  by_cases k2 : kind = 2
  · rw [if_pos k2, if_pos k2, last_f k b 128 (by omega) (by omega), Option.bind_some]
    have hr := lastS_range b 128 b.length
    generalize lastS b 128 b.length = i at hr
    have e3 : wrap64 ((b.length : Int) - i) = (b.length : Int) - i := by unfold wrap64; omega
    rw [e3]
    by_cases hi : i < 0
    · rw [if_pos (by omega), if_pos hi]; rfl
    · obtain ⟨i, rfl⟩ : ∃ m : Nat, i = (m : Int) := ⟨i.toNat, by omega⟩
      have e4 : wrap64 ((b.length : Int) - ((b.length : Int) - (i : Int))) = (i : Int) := by unfold wrap64; omega
      have e5 : (b.length : Int) - (i : Int) = ((b.length - i : Nat) : Int) := by omega
      rw [if_neg (by omega), if_neg hi, e4, if_pos (by omega), if_pos (by omega), e5, made_f k hk kind _ (by omega) (by omega), Option.bind_some, Int.toNat_natCast]
      unfold bytes_Equal.f
      rw [Option.bind_some, str_beq (bytes_drop hb _) (madeS_bytes _ _), k2]
      by_cases hd : b.drop i = madeS 2 (b.length - i)
      · rw [decide_eq_true hd, if_pos rfl, if_pos hd]
      · rw [decide_eq_false hd, if_neg (by simp), if_neg hd]; rfl
  · rw [if_neg k2, if_neg k2, rd_nat]
    have hv := bytes_getD hb (b.length - 1)
    generalize b.getD (b.length - 1) 0 = v at hv
    have e3 : wrap64 v = v := by unfold wrap64; omega
    rw [e3, j0_f k hk, j0_f k hk, if_pos rfl]
    obtain ⟨n, rfl⟩ : ∃ m : Nat, v = (m : Int) := ⟨v.toNat, by omega⟩
    rw [Int.toNat_natCast]
    by_cases hn : n < 1 ∨ b.length < n
    · rw [if_pos hn]
      rcases hn with hn | hn
      · rw [if_pos (by omega)]; rfl
      · split
        · rfl
        · rw [if_pos (by omega)]; rfl
    · have e4 : wrap64 ((b.length : Int) - (n : Int)) = ((b.length - n : Nat) : Int) := by unfold wrap64; omega
      rw [if_neg (by omega), if_neg (by omega), if_neg hn]
      by_cases k1 : kind = 1
      · subst k1
        rw [if_pos rfl, e4, if_pos (by omega), if_pos (by omega), made_f k hk 1 n (by omega) (by omega), Option.bind_some, Int.toNat_natCast]
        unfold bytes_Equal.f
        rw [Option.bind_some, str_beq (bytes_drop hb _) (madeS_bytes _ _), j0_f k hk]
        by_cases hd : b.drop (b.length - n) = madeS 1 n
        · rw [decide_eq_true hd, if_neg (by simp : ¬ (!true) = true), if_neg (fun h => h.2 hd)]
        · rw [decide_eq_false hd, Bool.not_false, if_pos rfl, if_pos ⟨rfl, hd⟩]; rfl
      · rw [if_neg k1, if_neg (by simp), if_neg (fun h => k1 h.1)]
/-- What Strip answers. -/
def stripS (kind size : Int) (b : List Int) : List Int × Int :=
  if kind = 1 ∨ kind = 2 ∨ kind = 3 then
    if (size = 8 ∨ size = 16) ∧ (b.length : Int) = size then
      if longS kind b = 0 then ([], 8) else (b.take (b.length - longS kind b), 0)
    else ([], 1)
  else ([], 3)
theorem strip_f (k : Nat) (hk : 1000 ≤ k) (kind size : Int) (b : List Int) (hb : Bytes b) : pad_Strip.f k kind size b = some (stripS kind size b) := by
  unfold pad_Strip.f stripS
  rw [tell_f, Option.bind_some]
  by_cases hK : kind = 1 ∨ kind = 2 ∨ kind = 3
  · rw [decide_eq_true hK, if_pos rfl, if_pos hK, sized_f, Option.bind_some]
    by_cases hS : size = 8 ∨ size = 16
    · rw [decide_eq_true hS, if_pos rfl]
      by_cases hL : (b.length : Int) = size
      · rw [if_pos hL, if_pos ⟨hS, hL⟩, long_f k hk kind b hb (by omega) (by omega), Option.bind_some]
        have hle := longS_le kind b
        generalize longS kind b = n at hle
        by_cases h0 : n = 0
        · rw [if_pos (by omega), if_pos h0]
        · have e : wrap64 (size - (n : Int)) = ((b.length - n : Nat) : Int) := by unfold wrap64; omega
          rw [if_neg (by omega), if_neg h0, e, if_pos (by omega), if_pos (by omega), Int.toNat_natCast]
          unfold slices_Clone_byte_byte.f
          rw [if_pos (by rw [List.length_take]; omega), Option.bind_some]
      · rw [if_neg hL, if_neg (fun h => hL h.2)]
    · rw [decide_eq_false hS, if_neg (by simp), if_neg (fun h => hS h.1)]
  · rw [decide_eq_false hK, if_neg (by simp), if_neg hK]
theorem stripS_bytes (kind size : Int) (b : List Int) (h : Bytes b) : Bytes (stripS kind size b).1 := by
  unfold stripS; repeat' split
  all_goals first | exact bytes_take h _ | exact fun x hx => by simp at hx
theorem known_f (k : Nat) (hk : 1001 ≤ k) : scrimlaw14_known.f k = some true := by
  unfold scrimlaw14_known.f
  rw [if_pos (by omega), strip_f k (by omega) 2 8 _ (bytes_replicate 8 (by omega)), Option.bind_some, add_f k hk 1 8 _ (by decide), Option.bind_some]
  rw [if_pos (by decide +kernel), if_pos (by decide +kernel)]
  decide +kernel

/-! ### the law -/
def knownL : List ByteArray := [(⟨#[97, 98, 99, 100, 101, 102, 103, 1]⟩ : ByteArray), (⟨#[8, 8, 8, 8, 8, 8, 8, 8]⟩ : ByteArray), (⟨#[97, 98, 99, 100, 101, 102, 103, 2]⟩ : ByteArray), (⟨#[97, 98, 99, 100, 101, 102, 103, 0]⟩ : ByteArray), (⟨#[97, 98, 99, 100, 101, 102, 103, 9]⟩ : ByteArray), (⟨#[97, 98, 99, 100, 4, 4, 3, 4]⟩ : ByteArray), (⟨#[97, 98, 99, 100, 128, 0, 0, 0]⟩ : ByteArray), (⟨#[97, 98, 99, 100, 101, 102, 103, 128]⟩ : ByteArray), (⟨#[128, 0, 0, 0, 0, 0, 0, 0]⟩ : ByteArray), (⟨#[97, 98, 99, 100, 129, 0, 0, 0]⟩ : ByteArray), (⟨#[128, 0, 0, 0, 0, 0, 0, 1]⟩ : ByteArray), (⟨#[97, 98, 99, 100, 120, 121, 122, 4]⟩ : ByteArray), (⟨#[97, 98, 99, 100, 0, 0, 0, 4]⟩ : ByteArray), (⟨#[97, 98, 99, 100, 101, 102, 103, 255]⟩ : ByteArray)]
def knownA : List ByteArray := [(⟨#[97, 98, 99, 100, 101, 102, 103]⟩ : ByteArray), (⟨#[]⟩ : ByteArray), (⟨#[45]⟩ : ByteArray), (⟨#[45]⟩ : ByteArray), (⟨#[45]⟩ : ByteArray), (⟨#[45]⟩ : ByteArray), (⟨#[45]⟩ : ByteArray), (⟨#[45]⟩ : ByteArray), (⟨#[45]⟩ : ByteArray), (⟨#[45]⟩ : ByteArray), (⟨#[128, 0, 0, 0, 0, 0, 0]⟩ : ByteArray), (⟨#[45]⟩ : ByteArray), (⟨#[45]⟩ : ByteArray), (⟨#[45]⟩ : ByteArray)]
def knownB : List ByteArray := [(⟨#[45]⟩ : ByteArray), (⟨#[45]⟩ : ByteArray), (⟨#[45]⟩ : ByteArray), (⟨#[45]⟩ : ByteArray), (⟨#[45]⟩ : ByteArray), (⟨#[45]⟩ : ByteArray), (⟨#[97, 98, 99, 100]⟩ : ByteArray), (⟨#[97, 98, 99, 100, 101, 102, 103]⟩ : ByteArray), (⟨#[]⟩ : ByteArray), (⟨#[45]⟩ : ByteArray), (⟨#[45]⟩ : ByteArray), (⟨#[45]⟩ : ByteArray), (⟨#[45]⟩ : ByteArray), (⟨#[45]⟩ : ByteArray)]
def knownC : List ByteArray := [(⟨#[97, 98, 99, 100, 101, 102, 103]⟩ : ByteArray), (⟨#[]⟩ : ByteArray), (⟨#[97, 98, 99, 100, 101, 102]⟩ : ByteArray), (⟨#[45]⟩ : ByteArray), (⟨#[45]⟩ : ByteArray), (⟨#[97, 98, 99, 100]⟩ : ByteArray), (⟨#[45]⟩ : ByteArray), (⟨#[45]⟩ : ByteArray), (⟨#[45]⟩ : ByteArray), (⟨#[45]⟩ : ByteArray), (⟨#[128, 0, 0, 0, 0, 0, 0]⟩ : ByteArray), (⟨#[97, 98, 99, 100]⟩ : ByteArray), (⟨#[97, 98, 99, 100]⟩ : ByteArray), (⟨#[45]⟩ : ByteArray)]
/-- A block's answer, by one kind. -/
def oneT (kind : Int) (s w : ByteArray) : Bool :=
  if w.toList = ([45] : List UInt8) then decide ((stripS kind 8 (bytesOf s)).2 = 8) && decide (((stripS kind 8 (bytesOf s)).1.length : Int) = 0)
  else decide ((stripS kind 8 (bytesOf s)).2 = 0) && decide ((strOfNums (stripS kind 8 (bytesOf s)).1).toList = w.toList)
theorem all_known : ∀ i : Fin 14, oneT 1 (knownL.getD i.val ByteArray.empty) (knownA.getD i.val ByteArray.empty) = true ∧ oneT 2 (knownL.getD i.val ByteArray.empty) (knownB.getD i.val ByteArray.empty) = true ∧ oneT 3 (knownL.getD i.val ByteArray.empty) (knownC.getD i.val ByteArray.empty) = true ∧ (knownL.getD i.val ByteArray.empty).size ≤ 8 := by decide +kernel
theorem bytesOf_bytes (s : ByteArray) : Bytes (bytesOf s) := by
  intro x hx
  unfold bytesOf at hx
  simp only [List.mem_map] at hx
  obtain ⟨b, _, rfl⟩ := hx
  have := b.toNat_lt
  omega
theorem known_step (k : Nat) (hk : 1000 ≤ k) (l : List ByteArray) (i : Nat) (hi : i < l.length) (q : List ByteArray) (hq : q.length = 3) (j : Nat) (hj : j < 3) (hs : (l.getD i ByteArray.empty).size ≤ 8)
    (h : oneT (1 + (j : Int)) (l.getD i ByteArray.empty) (q.getD j ByteArray.empty) = true) (hn : scrimlaw14_PadKnown.l0 k l (i : Int) q ((j + 1 : Nat) : Int) = some true) : scrimlaw14_PadKnown.l0 (k + 1) l (i : Int) q (j : Int) = some true := by
  have ei : rdOf ByteArray.empty l (i : Int) = l.getD i ByteArray.empty := by unfold rdOf; rw [Int.toNat_natCast]
  have ej : rdOf ByteArray.empty q (j : Int) = q.getD j ByteArray.empty := by unfold rdOf; rw [Int.toNat_natCast]
  have e1 : wrap64 (1 + (j : Int)) = 1 + (j : Int) := by unfold wrap64; omega
  unfold scrimlaw14_PadKnown.l0
  rw [if_pos (by omega), if_pos (by omega), if_pos (by omega), ei, ej, if_pos (by omega), e1, strip_f k hk _ 8 _ (bytesOf_bytes _), Option.bind_some, if_pos (by omega), if_pos (by omega), w_succ (by omega), hn]
  unfold oneT at h
  by_cases hw : (q.getD j ByteArray.empty).toList = ([45] : List UInt8)
  · rw [if_pos hw] at h
    rw [Bool.and_eq_true, decide_eq_true_iff, decide_eq_true_iff] at h
    rw [if_pos hw, if_pos h.1, if_pos h.2]
  · rw [if_neg hw] at h
    rw [Bool.and_eq_true, decide_eq_true_iff, decide_eq_true_iff] at h
    rw [if_neg hw, if_pos h.1, if_pos h.2]
theorem PadKnown : scrimlaw14_PadKnown.Pure := by
  intro a _
  obtain ⟨K, hK⟩ : ∃ K : Nat, 2000 ≤ K := ⟨_, Nat.le_refl _⟩
  refine ⟨K + 4, ?_⟩
  unfold scrimlaw14_PadKnown.f
  rw [known_f (K + 4) (by omega), Option.bind_some, if_pos rfl, Option.bind_some, Option.bind_some, Option.bind_some, Option.bind_some]
  show ((scrimlaw14_within.f a (knownL.length : Int)).bind fun t137 => (if 0 ≤ t137 then (if t137 < (knownA.length : Int) then (if t137 < (knownB.length : Int) then (if t137 < (knownC.length : Int) then (scrimlaw14_PadKnown.l0 (K + 4) knownL t137 (([rdOf ByteArray.empty knownA t137, rdOf ByteArray.empty knownB t137, rdOf ByteArray.empty knownC t137] : List ByteArray)) 0) else (none)) else (none)) else (none)) else (none))) = some true
  have la : knownA.length = 14 := rfl
  have lb : knownB.length = 14 := rfl
  have lc : knownC.length = 14 := rfl
  have ll : knownL.length = 14 := rfl
  rw [la, lb, lc, ll, within_f a _ (by decide) (by decide), Option.bind_some]
  have g1 := Int.emod_nonneg a (by decide : ((14 : Nat) : Int) ≠ 0)
  have g2 := Int.emod_lt_of_pos a (by decide : (0 : Int) < ((14 : Nat) : Int))
  rw [if_pos g1, if_pos g2, if_pos g2, if_pos g2]
  obtain ⟨i, hi⟩ : ∃ i : Nat, a % ((14 : Nat) : Int) = (i : Int) := ⟨(a % ((14 : Nat) : Int)).toNat, by omega⟩
  rw [hi] at g1 g2 ⊢
  have i14 : i < 14 := by omega
  obtain ⟨h1, h2, h3, h4⟩ := all_known ⟨i, i14⟩
  have e : ∀ l : List ByteArray, rdOf ByteArray.empty l (i : Int) = l.getD i ByteArray.empty := fun l => by unfold rdOf; rw [Int.toNat_natCast]
  rw [e, e, e]
  refine known_step (K + 3) (by omega) knownL i (by omega) _ rfl 0 (by decide) h4 h1 ?_
  refine known_step (K + 2) (by omega) knownL i (by omega) _ rfl 1 (by decide) h4 h2 ?_
  refine known_step (K + 1) (by omega) knownL i (by omega) _ rfl 2 (by decide) h4 h3 ?_
  unfold scrimlaw14_PadKnown.l0
  rw [if_neg (by decide)]

end Go.Proofs.Ythpeffpafpfkcaa.Pure
