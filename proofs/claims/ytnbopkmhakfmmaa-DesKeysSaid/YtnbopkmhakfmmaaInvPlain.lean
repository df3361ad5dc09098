/- The table that undoes a table, as plain lists. Conditions: none. -/
import Derived.Test.YtnbopkmhakfmmaaBitsPlain
namespace Go.Proofs.Ytnbopkmhakfmmaa.Plain
open Go.RowKit Go.Proofs.YtnbopkmhakfmmaaW.PrintWords

/-- The numbers that are still to come, laid one by one. -/
def invGo (n : Nat) : List Int → Nat → List Int → Option (List Int)
  | [], _, o => some o
  | x :: r, k, o => if x < 1 ∨ (n : Int) < x ∨ 0 < o.getD (x - 1).toNat 0 then none else invGo n r (k + 1) (o.set (x - 1).toNat ((k : Int) + 1))
def invL (t : List Int) : List Int × Bool :=
  match invGo t.length t 0 (List.replicate t.length 0) with
  | some o => (o, true)
  | none => ([], false)

theorem invGo_length (n : Nat) (l : List Int) : ∀ (k : Nat) (o u : List Int), invGo n l k o = some u → u.length = o.length := by
  induction l with
  | nil => intro k o u h; unfold invGo at h; cases h; rfl
  | cons x r ih =>
    intro k o u h
    unfold invGo at h
    split at h
    · cases h
    · rw [ih _ _ _ h, List.length_set]
theorem invL_length (t : List Int) : (invL t).1.length ≤ t.length := by
  unfold invL
  cases h : invGo t.length t 0 (List.replicate t.length 0) with
  | none => simp
  | some u => have := invGo_length _ _ _ _ _ h; simp at this; simp [this]
/-- Each number of 1 to n stands once. -/
structure Bij (n : Nat) (t : List Int) : Prop where
  len : t.length = n
  range : ∀ i, i < n → 1 ≤ t.getD i 0 ∧ t.getD i 0 ≤ (n : Int)
  inj : ∀ i j, i < n → j < n → t.getD i 0 = t.getD j 0 → i = j
  surj : ∀ m, m < n → ∃ j, j < n ∧ t.getD j 0 = (m : Int) + 1

theorem getD_set (o : List Int) (i : Nat) (v : Int) (j : Nat) (hi : i < o.length) : (o.set i v).getD j 0 = if i = j then v else o.getD j 0 := by
  rw [List.getD_eq_getElem?_getD, List.getElem?_set]
  by_cases e : i = j
  · subst e; simp [hi]
  · simp [e]

theorem invGo_of (n : Nat) (t : List Int) (B : Bij n t) (d : Nat) : ∀ (k : Nat) (o : List Int), k + d = n → o.length = n →
    (∀ j, j < k → o.getD (t.getD j 0 - 1).toNat 0 = (j : Int) + 1) → (∀ m, m < n → (∀ j, j < k → t.getD j 0 ≠ (m : Int) + 1) → o.getD m 0 = 0) →
    ∃ u, invGo n (t.drop k) k o = some u ∧ u.length = n ∧ ∀ j, j < n → u.getD (t.getD j 0 - 1).toNat 0 = (j : Int) + 1 := by
  induction d with
  | zero =>
    intro k o hk hl h1 _
    obtain rfl : k = n := by omega
    refine ⟨o, ?_, hl, h1⟩
    rw [List.drop_eq_nil_of_le (by rw [B.len]; exact Nat.le_refl _)]
    rfl
  | succ d ih =>
    intro k o hk hl h1 h2
    have hkn : k < n := by omega
    have hlt : k < t.length := by rw [B.len]; exact hkn
    have hr := B.range k hkn
    have e : t.drop k = t.getD k 0 :: t.drop (k + 1) := by
      rw [List.drop_eq_getElem_cons hlt, List.getD_eq_getElem?_getD, List.getElem?_eq_getElem hlt]; rfl
    rw [e]
    unfold invGo
    have hz : o.getD (t.getD k 0 - 1).toNat 0 = 0 := by
      refine h2 _ (by omega) fun j hj he => ?_
      have := B.inj j k (by omega) hkn (by omega)
      omega
    rw [if_neg (by omega)]
    have hlo : (t.getD k 0 - 1).toNat < o.length := by omega
    refine ih (k + 1) _ (by omega) (by rw [List.length_set]; exact hl) (fun j hj => ?_) (fun m hm hne => ?_)
    · rw [getD_set _ _ _ _ hlo]
      by_cases he : (t.getD k 0 - 1).toNat = (t.getD j 0 - 1).toNat
      · have hrj := B.range j (by omega)
        have := B.inj k j hkn (by omega) (by omega)
        rw [if_pos he, this]
      · rw [if_neg he]
        refine h1 j ?_
        rcases Nat.lt_or_ge j k with h | h
        · exact h
        · have : j = k := by omega
          subst this; exact absurd rfl he
    · rw [getD_set _ _ _ _ hlo]
      have h3 := hne k (by omega)
      rw [if_neg (by omega)]
      exact h2 m hm fun j hj => hne j (by omega)

theorem bij_inv (n : Nat) (t : List Int) (B : Bij n t) : ∃ u, invL t = (u, true) ∧ Bij n u ∧ ∀ j, j < n → u.getD (t.getD j 0 - 1).toNat 0 = (j : Int) + 1 := by
  obtain ⟨u, hu, hl, h⟩ := invGo_of n t B n 0 (List.replicate n 0) (by omega) (by simp) (fun j hj => by omega) (fun m hm _ => by
    rw [List.getD_eq_getElem?_getD, List.getElem?_replicate]; split <;> rfl)
  rw [List.drop_zero] at hu
  have back : ∀ m, m < n → ∃ j, j < n ∧ t.getD j 0 = (m : Int) + 1 ∧ u.getD m 0 = (j : Int) + 1 := fun m hm => by
    obtain ⟨j, hj, he⟩ := B.surj m hm
    refine ⟨j, hj, he, ?_⟩
    have := h j hj
    rwa [he, show ((m : Int) + 1 - 1).toNat = m from by omega] at this
  refine ⟨u, by unfold invL; rw [B.len, hu], ⟨hl, fun i hi => ?_, fun i j hi hj he => ?_, fun m hm => ?_⟩, h⟩
  · obtain ⟨j, hj, _, e⟩ := back i hi; omega
  · obtain ⟨a, ha, e1, e2⟩ := back i hi
    obtain ⟨b, hb, e3, e4⟩ := back j hj
    have : a = b := by omega
    subst this; omega
  · have hr := B.range m hm
    exact ⟨(t.getD m 0 - 1).toNat, by omega, h m hm⟩

theorem list_ext {a b : List Int} (h : a.length = b.length) (he : ∀ i, i < a.length → a.getD i 0 = b.getD i 0) : a = b := by
  apply List.ext_getElem h
  intro i h1 h2
  have := he i h1
  rwa [List.getD_eq_getElem?_getD, List.getElem?_eq_getElem h1, List.getD_eq_getElem?_getD, List.getElem?_eq_getElem h2] at this

/-- Undone twice it is what it was. -/
theorem bij_inv_inv (n : Nat) (t u : List Int) (B : Bij n t) (hu : invL t = (u, true)) : invL u = (t, true) := by
  obtain ⟨u', h1, h2, h3⟩ := bij_inv n t B
  obtain rfl : u' = u := by rw [h1] at hu; exact (Prod.mk.inj hu).1
  obtain ⟨v, k1, k2, k3⟩ := bij_inv n u' h2
  have : v = t := by
    refine list_ext (by rw [k2.len, B.len]) fun i hi => ?_
    have hi' : i < n := by rw [← k2.len]; exact hi
    have hr := B.range i hi'
    have e := h3 i hi'
    have := k3 (t.getD i 0 - 1).toNat (by omega)
    rw [e, show ((i : Int) + 1 - 1).toNat = i from by omega] at this
    omega
  rw [k1, this]

theorem nodup_upTo (n : Nat) : (upTo n).Nodup := by
  unfold upTo
  rw [List.nodup_iff_pairwise_ne, List.pairwise_map]
  refine List.Pairwise.imp ?_ (List.nodup_iff_pairwise_ne.1 List.nodup_range)
  intro a b hab; omega
theorem Ord.bij {n : Nat} {t : List Int} (h : Ord n t) : Bij n t := by
  have hl := h.length
  have nd : t.Nodup := (List.Perm.nodup_iff h).2 (nodup_upTo n)
  have get : ∀ i (hi : i < t.length), t.getD i 0 = t[i] := fun i hi => by rw [List.getD_eq_getElem?_getD, List.getElem?_eq_getElem hi]; rfl
  refine ⟨hl, fun i hi => h.mem (getD_mem (by omega)), fun i j hi hj he => ?_, fun m hm => ?_⟩
  · rw [get i (by omega), get j (by omega)] at he
    have pw := List.pairwise_iff_getElem.1 (List.nodup_iff_pairwise_ne.1 nd)
    rcases Nat.lt_trichotomy i j with h1 | h1 | h1
    · exact absurd he (pw i j (by omega) (by omega) h1)
    · exact h1
    · exact absurd he.symm (pw j i (by omega) (by omega) h1)
  · have hmem : (m : Int) + 1 ∈ t := (List.Perm.mem_iff h).2 (by
      simp only [upTo, List.mem_map, List.mem_range]
      exact ⟨m, hm, rfl⟩)
    obtain ⟨j, hj, e⟩ := List.mem_iff_getElem.1 hmem
    exact ⟨j, by omega, by rw [get j hj]; exact e⟩
theorem Bij.wf {n : Nat} {t : List Int} (B : Bij n t) (hn : n ≤ 1000) : ∀ x ∈ t, (Lit.int .i64 x).wf = true := by
  intro x hx
  obtain ⟨j, hj, e⟩ := List.mem_iff_getElem.1 hx
  have hl := B.len
  have := B.range j (by omega)
  rw [List.getD_eq_getElem?_getD, List.getElem?_eq_getElem hj, Option.getD_some, e] at this
  simp [Lit.wf, IntKind.min, IntKind.max, IntKind.signed, IntKind.bits]; omega
theorem Bij.ok {n : Nat} {b t : List Int} (B : Bij n t) (hn : n = 8 * b.length) : okT b t = true := by
  refine List.all_eq_true.2 fun x hx => ?_
  obtain ⟨j, hj, e⟩ := List.mem_iff_getElem.1 hx
  have hl := B.len
  have := B.range j (by omega)
  rw [List.getD_eq_getElem?_getD, List.getElem?_eq_getElem hj, Option.getD_some, e] at this
  rw [Bool.and_eq_true, decide_eq_true_eq, decide_eq_true_eq]; omega
/-- Turned by a table, and by that which undoes it, bytes are what they were. -/
theorem perm_back {n : Nat} {b t u : List Int} (hb : Bytes b) (hn : n = 8 * b.length) (B : Bij n t) (hu : invL t = (u, true)) : permL (permL b t) u = b := by
  obtain ⟨u', h1, h2, h3⟩ := bij_inv n t B
  obtain rfl : u' = u := by rw [h1] at hu; exact (Prod.mk.inj hu).1
  have l1 := B.len
  have l2 := h2.len
  refine gb_ext (permL_bytes _ _) hb (by rw [permL_length, l2, hn]; omega) fun j hj => ?_
  rw [permL_length, l2] at hj
  have hjn : j < n := by omega
  have h4 := h2.range j hjn
  obtain ⟨m, hm, e⟩ := B.surj j hjn
  have e2 := h3 m hm
  rw [e, show ((j : Int) + 1 - 1).toNat = j from by omega] at e2
  rw [gb_permL, gb_permL, l1, l2, e2, show ((m : Int) + 1 - 1).toNat = m from by omega, e, show ((j : Int) + 1 - 1).toNat = j from by omega]
  simp [hjn, hm]
end Go.Proofs.Ytnbopkmhakfmmaa.Plain
