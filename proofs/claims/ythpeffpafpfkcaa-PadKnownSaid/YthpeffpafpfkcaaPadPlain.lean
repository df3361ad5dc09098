/- Paddings as plain lists: what a padding is, how long one is, with no program in sight. Conditions: none. -/
import Derived.Test.YthpeffpafpfkcaaWMore
import Derived.Laws.BitsAllLaws
import Derived.Laws.BitsLemmas
import Derived.Laws.BytesArg
import Derived.Lib.Bytes
namespace Go.Proofs.Ythpeffpafpfkcaa.Plain
open Go.RowKit Go.Proofs.YthpeffpafpfkcaaW.PrintWords Go.Proofs.YthpeffpafpfkcaaW.PrintMore

def Bytes (b : List Int) : Prop := ∀ x ∈ b, 0 ≤ x ∧ x < 256
theorem wf_u8 {x : Int} (h : (Lit.int .u8 x).wf = true) : 0 ≤ x ∧ x < 256 := by
  simp [Lit.wf, IntKind.min, IntKind.max, IntKind.signed, IntKind.bits] at h; omega
theorem wf_i64 {x : Int} (h : (Lit.int .i64 x).wf = true) : -9223372036854775808 ≤ x ∧ x ≤ 9223372036854775807 := by
  simp [Lit.wf, IntKind.min, IntKind.max, IntKind.signed, IntKind.bits] at h; omega
theorem w_of {x : Int} (h0 : -9223372036854775808 ≤ x) (h1 : x ≤ 9223372036854775807) : wrap64 x = x := by unfold wrap64; omega
theorem w_succ {i : Nat} (h : i ≤ 281474976710656) : wrap64 ((i : Int) + 1) = ((i + 1 : Nat) : Int) := by unfold wrap64; omega
theorem rd_nat (xs : List Int) (i : Nat) : rd xs (i : Int) = xs.getD i 0 := by unfold rd; rw [Int.toNat_natCast]
theorem rd_pos (xs : List Int) {i : Int} {n : Nat} (h : i = n) : rd xs i = xs.getD n 0 := by subst h; exact rd_nat xs n
theorem getD_lt {l : List Int} {i : Nat} (h : i < l.length) : l.getD i 0 = l[i] := by
  rw [List.getD_eq_getElem?_getD, List.getElem?_eq_getElem h]; rfl
theorem getD_over {b : List Int} {j : Nat} (h : b.length ≤ j) : b.getD j 0 = 0 := by
  rw [List.getD_eq_getElem?_getD, List.getElem?_eq_none h]; rfl
theorem bytes_getD {b : List Int} (h : Bytes b) (i : Nat) : 0 ≤ b.getD i 0 ∧ b.getD i 0 < 256 := by
  by_cases hi : i < b.length
  · rw [getD_lt hi]; exact h _ (List.getElem_mem hi)
  · rw [getD_over (by omega)]; omega
theorem bytes_take {b : List Int} (h : Bytes b) (n : Nat) : Bytes (b.take n) := fun x hx => h x (List.mem_of_mem_take hx)
theorem bytes_drop {b : List Int} (h : Bytes b) (n : Nat) : Bytes (b.drop n) := fun x hx => h x (List.mem_of_mem_drop hx)
theorem bytes_append {a b : List Int} (ha : Bytes a) (hb : Bytes b) : Bytes (a ++ b) := fun x hx => by
  rcases List.mem_append.1 hx with h | h
  · exact ha x h
  · exact hb x h
theorem bytes_set {b : List Int} (h : Bytes b) (i : Nat) {v : Int} (hv : 0 ≤ v ∧ v < 256) : Bytes (b.set i v) := by
  intro x hx
  rcases List.mem_or_eq_of_mem_set hx with h' | rfl
  · exact h x h'
  · exact hv
theorem bytes_replicate (n : Nat) {v : Int} (hv : 0 ≤ v ∧ v < 256) : Bytes (List.replicate n v) := by
  intro x hx
  rw [(List.mem_replicate.1 hx).2]; exact hv
theorem ext_getD {a b : List Int} (hl : a.length = b.length) (h : ∀ i, i < a.length → a.getD i 0 = b.getD i 0) : a = b := by
  apply List.ext_getElem hl
  intro i h1 h2
  have := h i h1
  rwa [getD_lt h1, getD_lt h2] at this
theorem getD_set (l : List Int) (i j : Nat) (v : Int) : (l.set i v).getD j 0 = if i = j ∧ i < l.length then v else l.getD j 0 := by
  rw [List.getD_eq_getElem?_getD, List.getD_eq_getElem?_getD, List.getElem?_set]
  by_cases h : i = j
  · subst h
    by_cases h2 : i < l.length
    · simp [h2]
    · simp [h2]
  · simp [h]
theorem getD_replicate (n j : Nat) (v : Int) : (List.replicate n v).getD j 0 = if j < n then v else 0 := by
  rw [List.getD_eq_getElem?_getD, List.getElem?_replicate]; split <;> rfl
theorem getD_append (a b : List Int) (j : Nat) : (a ++ b).getD j 0 = if j < a.length then a.getD j 0 else b.getD (j - a.length) 0 := by
  rw [List.getD_eq_getElem?_getD, List.getD_eq_getElem?_getD, List.getD_eq_getElem?_getD, List.getElem?_append]
  split <;> rfl
theorem getD_drop (a : List Int) (m j : Nat) : (a.drop m).getD j 0 = a.getD (m + j) 0 := by
  rw [List.getD_eq_getElem?_getD, List.getD_eq_getElem?_getD, List.getElem?_drop]
theorem getD_take (a : List Int) (m j : Nat) : (a.take m).getD j 0 = if j < m then a.getD j 0 else 0 := by
  rw [List.getD_eq_getElem?_getD, List.getElem?_take]
  by_cases h : j < m
  · simp [h]
  · simp [h]
/-- Strings of bytes are told by their bytes. -/
theorem str_eq {a b : List Int} (ha : Bytes a) (hb : Bytes b) : (strOfNums a).toList = (strOfNums b).toList ↔ a = b := by
  constructor
  · intro h
    rw [Go.Lib.strOfNums_toList, Go.Lib.strOfNums_toList] at h
    unfold Go.Lib.bytesOf at h
    have hl : a.length = b.length := by simpa using congrArg List.length h
    refine ext_getD hl fun i hi => ?_
    have h3 := congrArg (fun l => l[i]?) h
    simp only [List.getElem?_map] at h3
    rw [List.getElem?_eq_getElem hi, List.getElem?_eq_getElem (hl ▸ hi)] at h3
    simp only [Option.map_some, Option.some.injEq] at h3
    rw [getD_lt hi, getD_lt (hl ▸ hi)]
    have h1 := ha _ (List.getElem_mem hi)
    have h2 := hb _ (List.getElem_mem (hl ▸ hi : i < b.length))
    have h4 := congrArg UInt8.toNat h3
    rw [UInt8.toNat_ofNat', UInt8.toNat_ofNat'] at h4
    omega
  · rintro rfl; rfl
theorem str_beq {a b : List Int} (ha : Bytes a) (hb : Bytes b) : ((strOfNums a).toList == (strOfNums b).toList) = decide (a = b) := by
  rw [Bool.eq_iff_iff, beq_iff_eq, decide_eq_true_iff, str_eq ha hb]

/-- A padding. -/
def madeS (kind : Int) (n : Nat) : List Int :=
  if kind = 1 then List.replicate n ((n : Int) % 256)
  else if kind = 3 then (List.replicate n 0).set (n - 1) ((n : Int) % 256)
  else if kind = 2 then (List.replicate n 0).set 0 128
  else List.replicate n 0
theorem madeS_length (kind : Int) (n : Nat) : (madeS kind n).length = n := by
  unfold madeS; repeat' split
  all_goals simp
theorem madeS_bytes (kind : Int) (n : Nat) : Bytes (madeS kind n) := by
  have z : Bytes (List.replicate n 0) := bytes_replicate n (by omega)
  unfold madeS; repeat' split
  · exact bytes_replicate n (by omega)
  · exact bytes_set z _ (by omega)
  · exact bytes_set z _ (by omega)
  · exact z
/-- Where a byte stands last, ahead of a place; -1: nowhere. -/
def lastS (b : List Int) (c : Int) : Nat → Int
  | 0 => -1
  | i + 1 => if b.getD i 0 = c then (i : Int) else lastS b c i
theorem lastS_range (b : List Int) (c : Int) (n : Nat) : -1 ≤ lastS b c n ∧ lastS b c n < n := by
  induction n with
  | zero => simp [lastS]
  | succ n ih => unfold lastS; split <;> omega
theorem lastS_here {b : List Int} {c : Int} {i : Nat} (h : b.getD i 0 = c) : ∀ d, (∀ j, i < j → j < i + 1 + d → b.getD j 0 ≠ c) → lastS b c (i + 1 + d) = i
  | 0, _ => by unfold lastS; rw [if_pos h]
  | d + 1, hd => by
    show lastS b c ((i + 1 + d) + 1) = i
    unfold lastS
    rw [if_neg (hd _ (by omega) (by omega))]
    exact lastS_here h d fun j h1 h2 => hd j h1 (by omega)
theorem lastS_after {b : List Int} {c : Int} (n : Nat) : ∀ j, lastS b c n < j → j < (n : Int) → b.getD j.toNat 0 ≠ c := by
  induction n with
  | zero => intro j h1 h2; simp [lastS] at h1; omega
  | succ n ih =>
    intro j h1 h2
    unfold lastS at h1
    split at h1
    · omega
    · rename_i hc
      by_cases hj : j = n
      · subst hj; rwa [Int.toNat_natCast]
      · exact ih j h1 (by omega)
theorem lastS_at {b : List Int} {c : Int} (n : Nat) (h : 0 ≤ lastS b c n) : b.getD (lastS b c n).toNat 0 = c := by
  induction n with
  | zero => simp [lastS] at h
  | succ n ih =>
    unfold lastS at h ⊢
    split
    · rename_i hc; rwa [Int.toNat_natCast]
    · rename_i hc; rw [if_neg hc] at h; exact ih h

/-- How long a block's padding is; 0: it has none. -/
def longS (kind : Int) (b : List Int) : Nat :=
  if kind = 2 then
    if lastS b 128 b.length < 0 then 0
    else if b.drop (lastS b 128 b.length).toNat = madeS 2 (b.length - (lastS b 128 b.length).toNat) then b.length - (lastS b 128 b.length).toNat else 0
  else
    if (b.getD (b.length - 1) 0).toNat < 1 ∨ b.length < (b.getD (b.length - 1) 0).toNat then 0
    else if kind = 1 ∧ b.drop (b.length - (b.getD (b.length - 1) 0).toNat) ≠ madeS 1 (b.getD (b.length - 1) 0).toNat then 0
    else (b.getD (b.length - 1) 0).toNat
theorem longS_le (kind : Int) (b : List Int) : longS kind b ≤ b.length := by
  have := lastS_range b 128 b.length
  unfold longS
  split
  · split
    · omega
    · split <;> omega
  · split
    · omega
    · split <;> omega

/-- Where a padding was put, it is. -/
theorem longS_back (kind : Int) (hk : kind = 1 ∨ kind = 2 ∨ kind = 3) (t : List Int) (n : Nat) (h1 : 1 ≤ n) (h2 : n < 256) : longS kind (t ++ madeS kind n) = n := by
  have hl : (t ++ madeS kind n).length = t.length + n := by rw [List.length_append, madeS_length]
  have hd : (t ++ madeS kind n).drop t.length = madeS kind n := List.drop_left
  unfold longS
  rw [hl]
  by_cases k2 : kind = 2
  · subst k2
    have hlast : lastS (t ++ madeS 2 n) 128 (t.length + n) = t.length := by
      have h := lastS_here (b := t ++ madeS 2 n) (c := 128) (i := t.length) (by
        rw [getD_append, if_neg (by omega), Nat.sub_self]; unfold madeS
        rw [if_neg (by omega), if_neg (by omega), if_pos rfl, getD_set, if_pos (by simp; omega)]) (n - 1) (by
        intro j h3 h4
        rw [getD_append, if_neg (by omega)]; unfold madeS
        rw [if_neg (by omega), if_neg (by omega), if_pos rfl, getD_set, if_neg (by omega), getD_replicate]
        split <;> omega)
      rwa [show t.length + 1 + (n - 1) = t.length + n by omega] at h
    rw [if_pos rfl, hlast, if_neg (by omega), Int.toNat_natCast, hd, show t.length + n - t.length = n by omega, if_pos rfl]
  · have hlast : (t ++ madeS kind n).getD (t.length + n - 1) 0 = n := by
      rw [getD_append, if_neg (by omega)]; unfold madeS
      rcases hk with rfl | h | rfl
      · rw [if_pos rfl, getD_replicate, if_pos (by omega)]; omega
      · exact absurd h k2
      · rw [if_neg (by omega), if_pos rfl, getD_set, if_pos (by simp; omega)]; omega
    rw [if_neg k2, hlast, Int.toNat_natCast, if_neg (by omega), show t.length + n - n = t.length by omega, hd]
    split
    · rename_i h; exact absurd (by rw [h.1]) h.2
    · rfl
/-- What stands ahead of a padding, with its padding again. -/
theorem longS_only {kind : Int} (hk : kind = 1 ∨ kind = 2) {b : List Int} (h : longS kind b ≠ 0) : b.take (b.length - longS kind b) ++ madeS kind (longS kind b) = b := by
  have hr := lastS_range b 128 b.length
  have key : b.drop (b.length - longS kind b) = madeS kind (longS kind b) := by
    unfold longS at h ⊢
    rcases hk with rfl | rfl
    · rw [if_neg (by omega)] at h ⊢
      split at h
      · exact absurd rfl h
      · rename_i h1
        rw [if_neg h1]
        split at h
        · exact absurd rfl h
        · rename_i h2
          rw [if_neg h2]
          exact Classical.byContradiction fun hc => h2 ⟨rfl, hc⟩
    · rw [if_pos rfl] at h ⊢
      split at h
      · exact absurd rfl h
      · rename_i h1
        rw [if_neg h1]
        split at h
        · rename_i h2
          rw [if_pos h2, show b.length - (b.length - (lastS b 128 b.length).toNat) = (lastS b 128 b.length).toNat by omega]
          exact h2
        · exact absurd rfl h
  rw [← key, List.take_append_drop]
end Go.Proofs.Ythpeffpafpfkcaa.Plain
