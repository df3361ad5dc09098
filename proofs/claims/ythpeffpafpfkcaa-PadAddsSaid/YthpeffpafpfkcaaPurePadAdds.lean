/- PadAdds: what is added is what the reference says: the plain law over the functions' plain forms. Conditions: none beyond the statement's own bounds. -/
import Derived.Test.YthpeffpafpfkcaaMPadAddsx4
import Derived.Test.YthpeffpafpfkcaaPadPlain
namespace Go.Proofs.Ythpeffpafpfkcaa.Pure
open Go.RowKit Go.Proofs.Ythpeffpafpfkcaa.MPadAdds Go.Proofs.YthpeffpafpfkcaaW.PrintWords Go.Proofs.YthpeffpafpfkcaaW.PrintLast Go.Proofs.YthpeffpafpfkcaaW.PrintMore Go.Proofs.Ythpeffpafpfkcaa.Plain

/-! ### within -/
theorem within_f (a n : Int) (h0 : 0 < n) (h1 : n ≤ 1099511627776) : scrimlaw14_within.f a n = some (a % n) := by
  unfold scrimlaw14_within.f
  rw [if_neg (by omega)]
  have e := Int.tmod_eq_emod (a := a) (b := n)
  have l1 := Int.emod_nonneg a (by omega : n ≠ 0)
  have l2 := Int.emod_lt_of_pos a h0
  by_cases hc : 0 ≤ a ∨ n ∣ a
  · rw [if_pos hc] at e
    rw [if_neg (by omega)]
    congr 1; omega
  · rw [if_neg hc] at e
    have hn : (n.natAbs : Int) = n := by omega
    have hnz : a % n ≠ 0 := fun z => hc (.inr (Int.dvd_of_emod_eq_zero z))
    rw [if_pos (by omega)]
    congr 1
    unfold wrap64; omega

/-! ### made and Add -/
theorem made_loop (n : Nat) (hn : 1 ≤ n) (hn2 : n ≤ 64) (d : Nat) : ∀ (k i : Nat) (xs : List Int), i + d = n → d < k → xs.length = n → (∀ j, j < i → xs.getD j 0 = (n : Int) % 256) → pad_made.l0 k (n : Int) xs (n : Int) (i : Int) = some (List.replicate n ((n : Int) % 256)) := by
  induction d with
  | zero =>
    intro k i xs hd hk hl hx
    obtain ⟨k, rfl⟩ : ∃ m, k = m + 1 := ⟨k - 1, by omega⟩
    unfold pad_made.l0
    have e : wrap64 ((n : Int) - 1) = ((n - 1 : Nat) : Int) := by unfold wrap64; omega
    rw [if_neg (by omega), e, if_pos (by omega), if_pos (by omega), Int.toNat_natCast]
    congr 1
    refine ext_getD (by simpa using hl) fun j hj => ?_
    rw [List.length_set] at hj
    rw [getD_set, getD_replicate, if_pos (by omega : j < n)]
    split
    · rfl
    · exact hx j (by omega)
  | succ d ih =>
    intro k i xs hd hk hl hx
    obtain ⟨k, rfl⟩ : ∃ m, k = m + 1 := ⟨k - 1, by omega⟩
    unfold pad_made.l0
    rw [if_pos (by omega), if_pos (by omega), if_pos (by omega), w_succ (by omega), Int.toNat_natCast]
    refine ih k (i + 1) _ (by omega) (by omega) (by simpa using hl) fun j hj => ?_
    rw [getD_set]
    split
    · rfl
    · exact hx j (by omega)
theorem made_f (k : Nat) (hk : 1000 ≤ k) (kind : Int) (n : Nat) (hn : 1 ≤ n) (hn2 : n ≤ 64) : pad_made.f k kind (n : Int) = some (madeS kind n) := by
  unfold pad_made.f
  have e : wrap64 ((n : Int) - 1) = ((n - 1 : Nat) : Int) := by unfold wrap64; omega
  rw [if_pos (by omega), if_pos (by omega), Option.bind_some, Int.toNat_natCast, List.length_replicate, e]
  unfold madeS
  by_cases h1 : kind = 1
  · rw [if_pos h1, if_pos h1]
    exact made_loop n hn hn2 n k 0 _ (by omega) (by omega) (by simp) (by intro j hj; omega)
  · rw [if_neg h1, if_neg h1]
    by_cases h3 : kind = 3
    · rw [if_pos h3, if_pos h3, if_pos (by omega), if_pos (by omega), Int.toNat_natCast]
    · rw [if_neg h3, if_neg h3]
      by_cases h2 : kind = 2
      · rw [if_pos h2, if_pos h2, if_pos (by omega)]; rfl
      · rw [if_neg h2, if_neg h2]
theorem concat_f (k : Nat) (hk : 1000 ≤ k) (a b : List Int) (ha : a.length ≤ 64) (hb : b.length ≤ 64) : slices_Concat_byte_byte.f k [a, b] = some (a ++ b) := by
  obtain ⟨k, rfl⟩ : ∃ m, k = m + 9 := ⟨k - 9, by omega⟩
  have r0 : rd_L1 [a, b] 0 = a := rfl
  have r1 : rd_L1 [a, b] 1 = b := rfl
  have w1 : wrap64 ((0 : Int) + 1) = 1 := by unfold wrap64; omega
  have w2 : wrap64 ((1 : Int) + 1) = 2 := by unfold wrap64; omega
  have wa : wrap64 (0 + (a.length : Int)) = (a.length : Int) := by unfold wrap64; omega
  have wb : wrap64 ((a.length : Int) + (b.length : Int)) = (a.length : Int) + (b.length : Int) := by unfold wrap64; omega
  have two : (([a, b] : List (List Int)).length : Int) = 2 := rfl
  unfold slices_Concat_byte_byte.f
  rw [two]
  unfold slices_Concat_byte_byte.l0
  rw [if_pos (by omega), if_pos (by omega), if_pos (by rw [two]; omega), r0, wa, if_neg (by omega), w1]
  unfold slices_Concat_byte_byte.l0
  rw [if_pos (by omega), if_pos (by omega), if_pos (by rw [two]; omega), r1, wb, if_neg (by omega), w2]
  unfold slices_Concat_byte_byte.l0
  rw [if_neg (by omega), if_pos (by omega), two]
  unfold slices_Concat_byte_byte.l1
  rw [if_pos (by omega), if_pos (by omega), if_pos (by rw [two]; omega), r0, if_pos (by simp only [List.length_nil]; omega), w1]
  unfold slices_Concat_byte_byte.l1
  rw [if_pos (by omega), if_pos (by omega), if_pos (by rw [two]; omega), r1, if_pos (by simp only [List.nil_append]; omega), w2]
  unfold slices_Concat_byte_byte.l1
  rw [if_neg (by omega)]
  rfl
theorem tell_f (kind : Int) : pad_tell.f kind = some (decide (kind = 1 ∨ kind = 2 ∨ kind = 3)) := by
  unfold pad_tell.f
  by_cases h1 : kind = 1
  · rw [if_pos h1]; subst h1; decide
  · rw [if_neg h1]
    by_cases h2 : kind = 2
    · rw [if_pos h2]; subst h2; decide
    · rw [if_neg h2]
      by_cases h3 : kind = 3
      · rw [if_pos h3]; subst h3; decide
      · rw [if_neg h3, decide_eq_false (by omega)]
theorem sized_f (n : Int) : pad_sized.f n = some (decide (n = 8 ∨ n = 16)) := by
  unfold pad_sized.f
  by_cases h1 : n = 8
  · rw [if_pos h1]; subst h1; decide
  · rw [if_neg h1]
    congr 1
    by_cases h2 : n = 16
    · subst h2; decide
    · rw [decide_eq_false (by omega)]; simpa using h2
/-- What Add answers. -/
def addS (kind size : Int) (l : List Int) : List Int × Int :=
  if kind = 1 ∨ kind = 2 ∨ kind = 3 then
    if (size = 8 ∨ size = 16) ∧ (l.length : Int) < size then (l ++ madeS kind (size.toNat - l.length), 0) else ([], 1)
  else ([], 3)
theorem addj0_f (k : Nat) (x0 x1 : Int) (x2 : List Int) (t : Bool) : pad_Add.j0 (k + 1) x0 x1 x2 t = if t = true then (some (([] : List Int), 1)) else ((pad_made.f k x0 (wrap64 (x1 - (x2.length : Int)))).bind fun t103 => ((slices_Concat_byte_byte.f k (([x2, t103] : List (List Int)))).bind fun t109 => (some (t109, 0)))) := rfl
theorem add_f (k : Nat) (hk : 1001 ≤ k) (kind size : Int) (l : List Int) (hl : l.length ≤ 140737488355328) : pad_Add.f k kind size l = some (addS kind size l) := by
  obtain ⟨k, rfl⟩ : ∃ m, k = m + 1 := ⟨k - 1, by omega⟩
  unfold pad_Add.f addS
  rw [tell_f, Option.bind_some]
  by_cases hK : kind = 1 ∨ kind = 2 ∨ kind = 3
  · rw [decide_eq_true hK, if_pos rfl, if_pos hK, sized_f, Option.bind_some]
    by_cases hS : size = 8 ∨ size = 16
    · rw [decide_eq_true hS, if_pos rfl]
      rw [addj0_f]
      by_cases hL : (l.length : Int) < size
      · rw [decide_eq_false (by omega), if_neg (by simp : ¬ false = true), if_pos ⟨hS, hL⟩]
        have e : wrap64 (size - (l.length : Int)) = ((size.toNat - l.length : Nat) : Int) := by unfold wrap64; omega
        rw [e, made_f k (by omega) kind _ (by omega) (by omega), Option.bind_some, concat_f k (by omega) _ _ (by omega) (by rw [madeS_length]; omega), Option.bind_some]
      · rw [decide_eq_true (by omega), if_pos rfl, if_neg (fun h => hL h.2)]
    · rw [decide_eq_false hS, if_neg (by simp), if_neg (fun h => hS h.1), addj0_f, Bool.not_false, if_pos rfl]
  · rw [decide_eq_false hK, if_neg (by simp), if_neg hK]
theorem addS_of {kind size : Int} {l : List Int} (hk : kind = 1 ∨ kind = 2 ∨ kind = 3) (hs : size = 8 ∨ size = 16) (hl : (l.length : Int) < size) : addS kind size l = (l ++ madeS kind (size.toNat - l.length), 0) := by
  unfold addS; rw [if_pos hk, if_pos ⟨hs, hl⟩]
theorem addS_not {kind size : Int} {l : List Int} (hk : kind = 1 ∨ kind = 2 ∨ kind = 3) (hl : ¬ (l.length : Int) < size) : addS kind size l = ([], 1) := by
  unfold addS; rw [if_pos hk, if_neg (by omega)]
theorem addS_bytes (kind size : Int) (l : List Int) (h : Bytes l) : Bytes (addS kind size l).1 := by
  unfold addS; repeat' split
  · exact bytes_append h (madeS_bytes _ _)
  all_goals exact fun x hx => by simp at hx

/-! ### long and Strip -/
theorem last_loop (b : List Int) (c : Int) (hb : b.length ≤ 281474976710656) (n : Nat) : ∀ (k : Nat), n ≤ b.length → n < k → bytealg_LastIndexByte.l0 k b c ((n : Int) - 1) = some (lastS b c n) := by
  induction n with
  | zero =>
    intro k _ hk
    obtain ⟨k, rfl⟩ : ∃ m, k = m + 1 := ⟨k - 1, by omega⟩
    unfold bytealg_LastIndexByte.l0 lastS
    rw [if_neg (by omega)]
  | succ n ih =>
    intro k hn hk
    obtain ⟨k, rfl⟩ : ∃ m, k = m + 1 := ⟨k - 1, by omega⟩
    unfold bytealg_LastIndexByte.l0 lastS
    have e : ((n + 1 : Nat) : Int) - 1 = (n : Int) := by omega
    have e2 : wrap64 ((n : Int) - 1) = (n : Int) - 1 := by unfold wrap64; omega
    rw [e, if_pos (by omega), if_pos (by omega), if_pos (by omega), rd_nat, e2]
    split
    · rfl
    · exact ih k (by omega) (by omega)
theorem last_f (k : Nat) (b : List Int) (c : Int) (hb : b.length < k) (h2 : b.length ≤ 281474976710656) : bytes_LastIndexByte.f k b c = some (lastS b c b.length) := by
  unfold bytes_LastIndexByte.f bytealg_LastIndexByte.f
  have e : wrap64 ((b.length : Int) - 1) = (b.length : Int) - 1 := by unfold wrap64; omega
  rw [e, last_loop b c h2 b.length k (Nat.le_refl _) hb, Option.bind_some]
theorem j0_f (k : Nat) (hk : 1000 ≤ k) (n : Int) (t : Bool) : pad_long.j0 k n t = some (if t = true then 0 else n) := by
  obtain ⟨k, rfl⟩ : ∃ m, k = m + 1 := ⟨k - 1, by omega⟩
  show (if t = true then some 0 else some n) = _
  split <;> rfl
theorem long_f (k : Nat) (hk : 1000 ≤ k) (kind : Int) (b : List Int) (hb : Bytes b) (h1 : 1 ≤ b.length) (h2 : b.length ≤ 64) : pad_long.f k kind b = some ((longS kind b : Nat) : Int) := by
  unfold pad_long.f longS
  have e : wrap64 ((b.length : Int) - 1) = ((b.length - 1 : Nat) : Int) := by unfold wrap64; omega
  rw [e, if_pos (by omega), if_pos (by omega)]
  by_cases k2 : kind = 2
  · rw [if_pos k2, if_pos k2, last_f k b 128 (by omega) (by omega), Option.bind_some]
    have hr := lastS_range b 128 b.length
    generalize lastS b 128 b.length = i at hr
    have e3 : wrap64 ((b.length : Int) - i) = (b.length : Int) - i := by unfold wrap64; omega
    rw [e3]
    by_cases hi : i < 0
    · rw [if_pos (by omega), if_pos hi]; rfl
    · obtain ⟨i, rfl⟩ : ∃ m : Nat, i = (m : Int) := ⟨i.toNat, by omega⟩
      have e4 : wrap64 ((b.length : Int) - ((b.length : Int) - (i : Int))) = (i : Int) := by unfold wrap64; omega
      have e5 : (b.length : Int) - (i : Int) = ((b.length - i : Nat) : Int) := by omega
      rw [if_neg (by omega), if_neg hi, e4, if_pos (by omega), if_pos (by omega), e5, made_f k hk kind _ (by omega) (by omega), Option.bind_some, Int.toNat_natCast]
      unfold bytes_Equal.f
      rw [Option.bind_some, str_beq (bytes_drop hb _) (madeS_bytes _ _), k2]
      by_cases hd : b.drop i = madeS 2 (b.length - i)
      · rw [decide_eq_true hd, if_pos rfl, if_pos hd]
      · rw [decide_eq_false hd, if_neg (by simp), if_neg hd]; rfl
  · rw [if_neg k2, if_neg k2, rd_nat]
    have hv := bytes_getD hb (b.length - 1)
    generalize b.getD (b.length - 1) 0 = v at hv
    have e3 : wrap64 v = v := by unfold wrap64; omega
    rw [e3, j0_f k hk, j0_f k hk, if_pos rfl]
    obtain ⟨n, rfl⟩ : ∃ m : Nat, v = (m : Int) := ⟨v.toNat, by omega⟩
    rw [Int.toNat_natCast]
    by_cases hn : n < 1 ∨ b.length < n
    · rw [if_pos hn]
      rcases hn with hn | hn
      · rw [if_pos (by omega)]; rfl
      · split
        · rfl
        · rw [if_pos (by omega)]; rfl
    · have e4 : wrap64 ((b.length : Int) - (n : Int)) = ((b.length - n : Nat) : Int) := by unfold wrap64; omega
      rw [if_neg (by omega), if_neg (by omega), if_neg hn]
      by_cases k1 : kind = 1
      · subst k1
        rw [if_pos rfl, e4, if_pos (by omega), if_pos (by omega), made_f k hk 1 n (by omega) (by omega), Option.bind_some, Int.toNat_natCast]
        unfold bytes_Equal.f
        rw [Option.bind_some, str_beq (bytes_drop hb _) (madeS_bytes _ _), j0_f k hk]
        by_cases hd : b.drop (b.length - n) = madeS 1 n
        · rw [decide_eq_true hd, if_neg (by simp : ¬ (!true) = true), if_neg (fun h => h.2 hd)]
        · rw [decide_eq_false hd, Bool.not_false, if_pos rfl, if_pos ⟨rfl, hd⟩]; rfl
      · rw [if_neg k1, if_neg (by simp), if_neg (fun h => k1 h.1)]
/-- What Strip answers. -/
def stripS (kind size : Int) (b : List Int) : List Int × Int :=
  if kind = 1 ∨ kind = 2 ∨ kind = 3 then
    if (size = 8 ∨ size = 16) ∧ (b.length : Int) = size then
      if longS kind b = 0 then ([], 8) else (b.take (b.length - longS kind b), 0)
    else ([], 1)
  else ([], 3)
theorem strip_f (k : Nat) (hk : 1000 ≤ k) (kind size : Int) (b : List Int) (hb : Bytes b) : pad_Strip.f k kind size b = some (stripS kind size b) := by
  unfold pad_Strip.f stripS
  rw [tell_f, Option.bind_some]
  by_cases hK : kind = 1 ∨ kind = 2 ∨ kind = 3
  · rw [decide_eq_true hK, if_pos rfl, if_pos hK, sized_f, Option.bind_some]
    by_cases hS : size = 8 ∨ size = 16
    · rw [decide_eq_true hS, if_pos rfl]
      by_cases hL : (b.length : Int) = size
      · rw [if_pos hL, if_pos ⟨hS, hL⟩, long_f k hk kind b hb (by omega) (by omega), Option.bind_some]
        have hle := longS_le kind b
        generalize longS kind b = n at hle
        by_cases h0 : n = 0
        · rw [if_pos (by omega), if_pos h0]
        · have e : wrap64 (size - (n : Int)) = ((b.length - n : Nat) : Int) := by unfold wrap64; omega
          rw [if_neg (by omega), if_neg h0, e, if_pos (by omega), if_pos (by omega), Int.toNat_natCast]
          unfold slices_Clone_byte_byte.f
          rw [if_pos (by rw [List.length_take]; omega), Option.bind_some]
      · rw [if_neg hL, if_neg (fun h => hL h.2)]
    · rw [decide_eq_false hS, if_neg (by simp), if_neg (fun h => hS h.1)]
  · rw [decide_eq_false hK, if_neg (by simp), if_neg hK]
theorem stripS_bytes (kind size : Int) (b : List Int) (h : Bytes b) : Bytes (stripS kind size b).1 := by
  unfold stripS; repeat' split
  all_goals first | exact bytes_take h _ | exact fun x hx => by simp at hx
theorem known_f (k : Nat) (hk : 1001 ≤ k) : scrimlaw14_known.f k = some true := by
  unfold scrimlaw14_known.f
  rw [if_pos (by omega), strip_f k (by omega) 2 8 _ (bytes_replicate 8 (by omega)), Option.bind_some, add_f k hk 1 8 _ (by decide), Option.bind_some]
  rw [if_pos (by decide +kernel), if_pos (by decide +kernel)]
  decide +kernel

/-! ### the reference's Add -/
theorem set_app (l r : List Int) (i : Nat) (v : Int) : (l ++ r).set (l.length + i) v = l ++ r.set i v := by
  refine ext_getD (by simp) fun j hj => ?_
  rw [List.length_set, List.length_append] at hj
  rw [getD_set, getD_append, getD_append, getD_set, List.length_append]
  by_cases h : j < l.length
  · rw [if_neg (by omega), if_pos h, if_pos h]
  · rw [if_neg h, if_neg h]
    by_cases h2 : l.length + i = j
    · rw [if_pos (by omega), if_pos (by omega)]
    · rw [if_neg (by omega), if_neg (by omega)]
theorem radd_loop (l : List Int) (n : Nat) (hn : n ≤ 64) (hl : l.length ≤ 64) (d : Nat) : ∀ (k i : Nat) (r : List Int), i + d = n → d < k → r.length = n → (∀ j, j < i → r.getD j 0 = (n : Int) % 256) →
    scrimref14_Add.l0 k ((l.length + n : Nat) : Int) (n : Int) (l ++ r) ((l.length + i : Nat) : Int) = some (l ++ List.replicate n ((n : Int) % 256), 0) := by
  induction d with
  | zero =>
    intro k i r hd hk hr hj
    obtain ⟨k, rfl⟩ : ∃ m, k = m + 1 := ⟨k - 1, by omega⟩
    unfold scrimref14_Add.l0
    rw [if_neg (by omega)]
    have : r = List.replicate n ((n : Int) % 256) := ext_getD (by simpa using hr) fun j h => by rw [getD_replicate, if_pos (by omega), hj j (by omega)]
    rw [this]
  | succ d ih =>
    intro k i r hd hk hr hj
    obtain ⟨k, rfl⟩ : ∃ m, k = m + 1 := ⟨k - 1, by omega⟩
    unfold scrimref14_Add.l0
    rw [if_pos (by omega), if_pos (by omega), if_pos (by rw [List.length_append]; omega), w_succ (by omega), Int.toNat_natCast, set_app]
    refine ih k (i + 1) _ (by omega) (by omega) (by simpa using hr) fun j h => ?_
    rw [getD_set]
    split
    · rfl
    · exact hj j (by omega)
theorem radd_one (k : Nat) (hk : 1000 ≤ k) (kind size : Int) (hkind : kind = 1 ∨ kind = 2 ∨ kind = 3) (hs : size = 8 ∨ size = 16) (l : List Int) (hl : (l.length : Int) < size) :
    ((some (([] : List Int) : List Int)).bind fun y124 => (if y124.length + l.length < 140737488355328 then ((some (y124 ++ l : List Int)).bind fun y127 => (if 0 ≤ (wrap64 (size - (l.length : Int))) then (if y127.length + (wrap64 (size - (l.length : Int)) : Int).toNat < 140737488355328 then ((some (y127 ++ List.replicate (wrap64 (size - (l.length : Int)) : Int).toNat 0 : List Int)).bind fun y130 => (if kind = 1 then (scrimref14_Add.l0 k size (wrap64 (size - (l.length : Int))) y130 (l.length : Int)) else (if kind = 2 then (if 0 ≤ (l.length : Int) then (if (l.length : Int) < (y130.length : Int) then (some ((y130.set ((l.length : Int) : Int).toNat 128), (0 : Int))) else (none)) else (none)) else (if 0 ≤ (wrap64 (size - 1)) then (if (wrap64 (size - 1)) < (y130.length : Int) then (some ((y130.set ((wrap64 (size - 1)) : Int).toNat ((wrap64 (size - (l.length : Int))) % 256)), 0)) else (none)) else (none))))) else (none)) else (none))) else (none)))
      = some (l ++ madeS kind (size.toNat - l.length), 0) := by
  obtain ⟨n, hn⟩ : ∃ n : Nat, size.toNat - l.length = n := ⟨_, rfl⟩
  have hn1 : 1 ≤ n := by omega
  have hn2 : n ≤ 16 := by omega
  have hl2 : l.length ≤ 16 := by omega
  have hsz : size = ((l.length + n : Nat) : Int) := by omega
  clear hn hl hs
  subst hsz
  have e : wrap64 (((l.length + n : Nat) : Int) - (l.length : Int)) = (n : Int) := by unfold wrap64; omega
  have e2 : wrap64 (((l.length + n : Nat) : Int) - 1) = ((l.length + (n - 1) : Nat) : Int) := by unfold wrap64; omega
  have e3 : ((l.length + n : Nat) : Int).toNat - l.length = n := by omega
  have p1 : ([] : List Int).length + l.length < 140737488355328 := by simp only [List.length_nil]; omega
  have p2 : ([] ++ l : List Int).length + n < 140737488355328 := by simp only [List.nil_append]; omega
  have p3 : (0 : Int) ≤ (n : Int) := by omega
  have p4 : (l.length : Int) < ((l ++ List.replicate n (0 : Int)).length : Int) := by rw [List.length_append, List.length_replicate]; omega
  have p5 : ((l.length + (n - 1) : Nat) : Int) < ((l ++ List.replicate n (0 : Int)).length : Int) := by rw [List.length_append, List.length_replicate]; omega
  have p6 : (0 : Int) ≤ (l.length : Int) := by omega
  have p7 : (0 : Int) ≤ ((l.length + (n - 1) : Nat) : Int) := by omega
  rw [e, e2, e3, Option.bind_some, if_pos p1, Option.bind_some, if_pos p3, Int.toNat_natCast, if_pos p2, Option.bind_some, List.nil_append]
  rcases hkind with h | h | h
  · subst h
    rw [if_pos rfl]
    exact radd_loop l n (by omega) (by omega) n k 0 _ (by omega) (by omega) (by simp) (fun j hj => by omega)
  · subst h
    rw [if_neg (by decide), if_pos rfl, if_pos p6, if_pos p4, Int.toNat_natCast]
    have := set_app l (List.replicate n 0) 0 128
    rw [Nat.add_zero] at this
    rw [this]; rfl
  · subst h
    rw [if_neg (by decide), if_neg (by decide), if_pos p7, if_pos p5, Int.toNat_natCast, set_app]; rfl
theorem raj0_f (k : Nat) (x0 x1 : Int) (x2 : List Int) (t : Bool) : scrimref14_Add.j0 (k + 1) x0 x1 x2 t = if t = true then (some (([] : List Int), 3)) else (if x1 = 8 then (scrimref14_Add.j1 k x0 x1 x2 (decide ((x2.length : Int) ≥ x1))) else (if x1 = 16 then (scrimref14_Add.j1 k x0 x1 x2 (decide ((x2.length : Int) ≥ x1))) else (scrimref14_Add.j1 k x0 x1 x2 true))) := by
  conv => lhs; unfold scrimref14_Add.j0
theorem raj1_f (k : Nat) (x0 x1 : Int) (x2 : List Int) (t : Bool) : scrimref14_Add.j1 (k + 1) x0 x1 x2 t = if t = true then (some (([] : List Int), 1)) else ((some (([] : List Int) : List Int)).bind fun y124 => (if y124.length + x2.length < 140737488355328 then ((some (y124 ++ x2 : List Int)).bind fun y127 => (if 0 ≤ (wrap64 (x1 - (x2.length : Int))) then (if y127.length + (wrap64 (x1 - (x2.length : Int)) : Int).toNat < 140737488355328 then ((some (y127 ++ List.replicate (wrap64 (x1 - (x2.length : Int)) : Int).toNat 0 : List Int)).bind fun y130 => (if x0 = 1 then (scrimref14_Add.l0 k x1 (wrap64 (x1 - (x2.length : Int))) y130 (x2.length : Int)) else (if x0 = 2 then (if 0 ≤ (x2.length : Int) then (if (x2.length : Int) < (y130.length : Int) then (some ((y130.set ((x2.length : Int) : Int).toNat 128), 0)) else (none)) else (none)) else (if 0 ≤ (wrap64 (x1 - 1)) then (if (wrap64 (x1 - 1)) < (y130.length : Int) then (some ((y130.set ((wrap64 (x1 - 1)) : Int).toNat ((wrap64 (x1 - (x2.length : Int))) % 256)), 0)) else (none)) else (none))))) else (none)) else (none))) else (none))) := by
  conv => lhs; unfold scrimref14_Add.j1
theorem raj1_s (k : Nat) (hk : 1001 ≤ k) (kind size : Int) (hK : kind = 1 ∨ kind = 2 ∨ kind = 3) (hs : size = 8 ∨ size = 16) (l : List Int) :
    scrimref14_Add.j1 k kind size l (decide ((l.length : Int) ≥ size)) = some (if (size = 8 ∨ size = 16) ∧ (l.length : Int) < size then (l ++ madeS kind (size.toNat - l.length), 0) else ([], 1)) := by
  obtain ⟨k, rfl⟩ : ∃ m, k = m + 1 := ⟨k - 1, by omega⟩
  rw [raj1_f]
  by_cases hL : (l.length : Int) < size
  · have h9 : (size = 8 ∨ size = 16) ∧ (l.length : Int) < size := ⟨hs, hL⟩
    rw [decide_eq_false (by omega), if_neg (by simp), if_pos h9]
    exact radd_one k (by omega) kind size hK hs l hL
  · have h9 : ¬ ((size = 8 ∨ size = 16) ∧ (l.length : Int) < size) := fun h => hL h.2
    rw [decide_eq_true (by omega), if_pos rfl, if_neg h9]
theorem refadd_f (k : Nat) (hk : 1002 ≤ k) (kind size : Int) (l : List Int) : scrimref14_Add.f k kind size l = some (addS kind size l) := by
  obtain ⟨k, rfl⟩ : ∃ m, k = m + 1 := ⟨k - 1, by omega⟩
  unfold scrimref14_Add.f addS
  rw [raj0_f, raj0_f, if_pos rfl]
  by_cases hK : kind = 1 ∨ kind = 2 ∨ kind = 3
  · rw [if_neg (by omega), decide_eq_false (by omega), if_neg (by simp), if_pos hK]
    by_cases h8 : size = 8
    · rw [if_pos h8, raj1_s k (by omega) kind size hK (.inl h8) l]
    · rw [if_neg h8]
      by_cases h16 : size = 16
      · rw [if_pos h16, raj1_s k (by omega) kind size hK (.inr h16) l]
      · have h9 : ¬ ((size = 8 ∨ size = 16) ∧ (l.length : Int) < size) := by omega
        obtain ⟨k, rfl⟩ : ∃ m, k = m + 1 := ⟨k - 1, by omega⟩
        rw [if_neg h16, raj1_f, if_pos rfl, if_neg h9]
  · rw [if_neg hK]
    by_cases h1 : kind < 1
    · rw [if_pos h1]
    · rw [if_neg h1, decide_eq_true (by omega), if_pos rfl]

/-! ### the law -/
theorem al2_f (k : Nat) (x1 : Int) (x2 x7 x8 : List Int) (x9 x10 x11 : Int) : scrimlaw14_PadAdds.l2 (k + 1) x1 x2 x7 x8 x9 x10 x11 = if x11 < 2 then (if x11 = 1 then ((scrimlaw14_within.f x1 16).bind fun t156 => (if 0 ≤ (mn (x2.length : Int) t156) then (if (mn (x2.length : Int) t156) ≤ (x2.length : Int) then ((some (x2.take ((mn (x2.length : Int) t156) : Int).toNat : List Int)).bind fun y157 => (if 0 ≤ x9 then (if x9 < (x7.length : Int) then (if 0 ≤ x10 then (if x10 < (x8.length : Int) then ((pad_Add.f k (rd x7 x9) (rd x8 x10) y157).bind fun bt163 => ((scrimref14_Add.f k (rd x7 x9) (rd x8 x10) y157).bind fun bt169 => (if bt163.2 = bt169.2 then (if (strOfNums bt163.1).toList = (strOfNums bt169.1).toList then (scrimlaw14_PadAdds.l2 k x1 x2 x7 x8 x9 x10 (wrap64 (x11 + 1))) else (some false)) else (some false)))) else (none)) else (none)) else (none)) else (none))) else (none)) else (none))) else (if 0 ≤ x9 then (if x9 < (x7.length : Int) then (if 0 ≤ x10 then (if x10 < (x8.length : Int) then ((pad_Add.f k (rd x7 x9) (rd x8 x10) x2).bind fun bt175 => ((scrimref14_Add.f k (rd x7 x9) (rd x8 x10) x2).bind fun bt181 => (if bt175.2 = bt181.2 then (if (strOfNums bt175.1).toList = (strOfNums bt181.1).toList then (scrimlaw14_PadAdds.l2 k x1 x2 x7 x8 x9 x10 (wrap64 (x11 + 1))) else (some false)) else (some false)))) else (none)) else (none)) else (none)) else (none))) else (scrimlaw14_PadAdds.l1 k x1 x2 x7 x8 x9 (wrap64 (x10 + 1))) := by
  conv => lhs; unfold scrimlaw14_PadAdds.l2
theorem al1_f (k : Nat) (x1 : Int) (x2 x7 x8 : List Int) (x9 x10 : Int) : scrimlaw14_PadAdds.l1 (k + 1) x1 x2 x7 x8 x9 x10 = if x10 < (x8.length : Int) then (scrimlaw14_PadAdds.l2 k x1 x2 x7 x8 x9 x10 0) else (scrimlaw14_PadAdds.l0 k x1 x2 x7 x8 (wrap64 (x9 + 1))) := by
  conv => lhs; unfold scrimlaw14_PadAdds.l1
theorem al0_f (k : Nat) (x1 : Int) (x2 x7 x8 : List Int) (x9 : Int) : scrimlaw14_PadAdds.l0 (k + 1) x1 x2 x7 x8 x9 = if x9 < (x7.length : Int) then (scrimlaw14_PadAdds.l1 k x1 x2 x7 x8 x9 0) else (some true) := by
  conv => lhs; unfold scrimlaw14_PadAdds.l0
theorem w1 : wrap64 ((0 : Int) + 1) = 1 := by unfold wrap64; omega
theorem w2 : wrap64 ((1 : Int) + 1) = 2 := by unfold wrap64; omega
theorem adds_l2 (x1 : Int) (x2 x7 x8 : List Int) (h2 : x2.length ≤ 60) (kk i j : Nat) (hi : i < x7.length) (hj : j < x8.length) (hj2 : j ≤ 100) (h : ∀ k, kk ≤ k → scrimlaw14_PadAdds.l1 k x1 x2 x7 x8 (i : Int) ((j + 1 : Nat) : Int) = some true) :
    ∀ k, kk + 3 ≤ k → 1100 ≤ k → scrimlaw14_PadAdds.l2 k x1 x2 x7 x8 (i : Int) (j : Int) 0 = some true := by
  intro k hk hk2
  obtain ⟨k, rfl⟩ : ∃ m, k = m + 3 := ⟨k - 3, by omega⟩
  have p1 : (0 : Int) ≤ (i : Int) := by omega
  have p2 : (i : Int) < (x7.length : Int) := by omega
  have p3 : (0 : Int) ≤ (j : Int) := by omega
  have p4 : (j : Int) < (x8.length : Int) := by omega
  have g1 := Int.emod_nonneg x1 (by omega : (16 : Int) ≠ 0)
  have m1 : 0 ≤ mn (x2.length : Int) (x1 % 16) := by unfold mn; split <;> omega
  have m2 : mn (x2.length : Int) (x1 % 16) ≤ (x2.length : Int) := by unfold mn; split <;> omega
  rw [al2_f, if_pos (by decide), if_neg (by decide), if_pos p1, if_pos p2, if_pos p3, if_pos p4, add_f _ (by omega) _ _ _ (by omega), Option.bind_some, refadd_f _ (by omega), Option.bind_some, if_pos rfl, if_pos rfl, w1]
  rw [al2_f, if_pos (by decide), if_pos rfl, within_f x1 16 (by decide) (by decide), Option.bind_some, if_pos m1, if_pos m2, Option.bind_some, if_pos p1, if_pos p2, if_pos p3, if_pos p4, add_f _ (by omega) _ _ _ (by rw [List.length_take]; omega), Option.bind_some, refadd_f _ (by omega), Option.bind_some, if_pos rfl, if_pos rfl, w2]
  rw [al2_f, if_neg (by decide), w_succ (by omega)]
  exact h k (by omega)
theorem adds_l1 (x1 : Int) (x2 x7 x8 : List Int) (h2 : x2.length ≤ 60) (h8 : x8.length ≤ 100) (kk i : Nat) (hi : i < x7.length) (hi2 : i ≤ 100) (hkk : 1100 ≤ kk) (h : ∀ k, kk ≤ k → scrimlaw14_PadAdds.l0 k x1 x2 x7 x8 ((i + 1 : Nat) : Int) = some true) (d : Nat) :
    ∀ j, j + d = x8.length → ∀ k, kk + 1 + 4 * d ≤ k → scrimlaw14_PadAdds.l1 k x1 x2 x7 x8 (i : Int) (j : Int) = some true := by
  induction d with
  | zero =>
    intro j hj k hk
    obtain ⟨k, rfl⟩ : ∃ m, k = m + 1 := ⟨k - 1, by omega⟩
    rw [al1_f, if_neg (by omega), w_succ (by omega)]
    exact h k (by omega)
  | succ d ih =>
    intro j hj k hk
    obtain ⟨k, rfl⟩ : ∃ m, k = m + 1 := ⟨k - 1, by omega⟩
    rw [al1_f, if_pos (by omega)]
    exact adds_l2 x1 x2 x7 x8 h2 (kk + 1 + 4 * d) i j hi (by omega) (by omega) (ih (j + 1) (by omega)) k (by omega) (by omega)
theorem adds_l0 (x1 : Int) (x2 x7 x8 : List Int) (h2 : x2.length ≤ 60) (h8 : x8.length = 4) (h7 : x7.length ≤ 100) (d : Nat) :
    ∀ i, i + d = x7.length → ∀ k, 1101 + 20 * d ≤ k → scrimlaw14_PadAdds.l0 k x1 x2 x7 x8 (i : Int) = some true := by
  induction d with
  | zero =>
    intro i hi k hk
    obtain ⟨k, rfl⟩ : ∃ m, k = m + 1 := ⟨k - 1, by omega⟩
    rw [al0_f, if_neg (by omega)]
  | succ d ih =>
    intro i hi k hk
    obtain ⟨k, rfl⟩ : ∃ m, k = m + 1 := ⟨k - 1, by omega⟩
    rw [al0_f, if_pos (by omega)]
    exact adds_l1 x1 x2 x7 x8 h2 (by omega) (1101 + 20 * d) i (by omega) (by omega) (by omega) (ih (i + 1) (by omega)) x8.length 0 (by omega) k (by omega)
theorem PadAdds : scrimlaw14_PadAdds.Pure := by
  intro a0 a1 l _ _ _ _ _
  obtain ⟨K, hK⟩ : ∃ K : Nat, 2000 ≤ K := ⟨_, Nat.le_refl _⟩
  refine ⟨K, ?_⟩
  unfold scrimlaw14_PadAdds.f
  rw [known_f K (by omega), Option.bind_some, if_pos rfl]
  split
  · rfl
  rw [within_f a0 6 (by decide) (by decide), Option.bind_some, within_f a1 20 (by decide) (by decide), Option.bind_some]
  exact adds_l0 a1 l _ _ (by omega) rfl (by simp) 6 0 rfl K (by omega)

end Go.Proofs.Ythpeffpafpfkcaa.Pure
