/- A scope with jumps back to one label, its relation given where the walk has come to the label: as a loop that bears a number. Conditions: none. -/
import Derived.ScopeJumps
import Derived.Deep.LoopGhost
namespace Go.Proofs.Ytnbopkmhakfmmaa.Late
open Go
/-- The temporaries t with the slots of W as g has them. -/
def layT (t : Array Value) (g : Nat → Value) : List Nat → Array Value
  | [] => t
  | i :: r => (layT t g r).setIfInBounds i (g i)
/-- The frame a0 with the slots of W as g has them. -/
def lay (a0 : Act) (g : Nat → Value) (W : List Nat) : Act := { a0 with tmps := layT a0.tmps g W }
def slotsOf (a : Act) : Nat → Value := fun i => a.tmps.getD i undef
theorem layT_self (a : Act) (W : List Nat) : layT a.tmps (slotsOf a) W = a.tmps := by
  induction W with
  | nil => rfl
  | cons i r ih =>
    unfold layT
    rw [ih]
    unfold slotsOf
    apply Array.ext
    · simp
    · intro j h1 h2
      by_cases h : i = j
      · subst h
        rw [Array.getElem_setIfInBounds_self]
        simp [Array.getD, h2]
      · rw [Array.getElem_setIfInBounds_ne h2 h]
theorem lay_self (a : Act) (W : List Nat) : lay a (slotsOf a) W = a := by
  unfold lay
  rw [layT_self]
variable {P : Program} {Q : Exit → Act → World → Prop} {a : Act} {w : World}
theorem scope_any {c body : Code} (l : Nat) (hf : findLabel c l = some (Code.skip.seq body))
    (first : ∀ JA : Act → World → Prop,
      (∀ (J : Nat → Act → World → Prop) (n0 : Nat) (a0 : Act) (w0 : World), J n0 a0 w0 →
        (∀ n a w, J n a w → body.wp P (Exit.jump l (fun a' w' => ∃ n', n' < n ∧ J n' a' w') Q) a w) → body.wp P (Exit.jump l JA Q) a0 w0) →
      c.wp P (Exit.jump l JA Q) a w) : (Code.scope c).wp P Q a w := by
  refine wp_scope_jumps l (fun a w => ∃ (n : Nat) (J : Nat → Act → World → Prop), J n a w ∧ ∀ n a w, J n a w → body.wp P (Exit.jump l (fun a' w' => ∃ n', n' < n ∧ J n' a' w') Q) a w)
    (fun a w => leastOf (fun n => ∃ J : Nat → Act → World → Prop, J n a w ∧ ∀ n a w, J n a w → body.wp P (Exit.jump l (fun a' w' => ∃ n', n' < n ∧ J n' a' w') Q) a w)) hf ?_ ?_
  · refine first _ fun J n0 a0 w0 h0 hp => wp_mono (hp n0 a0 w0 h0) fun e a' w' hq => ?_
    cases e with
    | goto l' =>
      obtain ⟨hl, n', _, hJ⟩ := hq
      exact ⟨hl, n', J, hJ, hp⟩
    | normal => exact hq
    | exit id => exact hq
    | ret => exact hq
    | panic ch => exact hq
    | outgrown => exact hq
  · intro a w hJA
    obtain ⟨⟨J, hJ, hp⟩, _⟩ := leastOf_spec hJA
    refine wp_mono (wp_seq (wp_skip (hp _ a w hJ))) fun e a' w' hq => ?_
    cases e with
    | goto l' =>
      obtain ⟨hl, n', hlt, hJ'⟩ := hq
      have hm : ∃ n, ∃ J : Nat → Act → World → Prop, J n a' w' ∧ ∀ n a w, J n a w → body.wp P (Exit.jump l (fun a' w' => ∃ n', n' < n ∧ J n' a' w') Q) a w := ⟨n', J, hJ', hp⟩
      exact ⟨hl, hm, Nat.lt_of_le_of_lt ((leastOf_spec hm).2 n' ⟨J, hJ', hp⟩) hlt⟩
    | normal => exact hq
    | exit id => exact hq
    | ret => exact hq
    | panic ch => exact hq
    | outgrown => exact hq
/-- Two rows of values that differ at the places of W at the most. -/
inductive Apart (W : List Nat) : Nat → List Value → List Value → Prop where
  | nil {i : Nat} : Apart W i [] []
  | keep {i : Nat} {x : Value} {xs ys : List Value} : Apart W (i + 1) xs ys → Apart W i (x :: xs) (x :: ys)
  | turn {i : Nat} {x y : Value} {xs ys : List Value} : W.contains i = true → Apart W (i + 1) xs ys → Apart W i (x :: xs) (y :: ys)
theorem Apart.spec {W : List Nat} {i : Nat} {xs ys : List Value} (h : Apart W i xs ys) : xs.length = ys.length ∧ ∀ j, W.contains (i + j) = false → xs[j]? = ys[j]? := by
  induction h with
  | nil => exact ⟨rfl, fun _ _ => rfl⟩
  | keep _ ih =>
    refine ⟨by simp [ih.1], fun j hj => ?_⟩
    cases j with
    | zero => rfl
    | succ j => simpa using ih.2 j (by rwa [Nat.add_assoc, Nat.add_comm 1 j])
  | turn hc _ ih =>
    refine ⟨by simp [ih.1], fun j hj => ?_⟩
    cases j with
    | zero => rw [Nat.add_zero, hc] at hj; cases hj
    | succ j => simpa using ih.2 j (by rwa [Nat.add_assoc, Nat.add_comm 1 j])
theorem layT_size (t : Array Value) (g : Nat → Value) (W : List Nat) : (layT t g W).size = t.size := by
  induction W with
  | nil => rfl
  | cons i r ih => unfold layT; rw [Array.size_setIfInBounds, ih]
theorem layT_get (t : Array Value) (g : Nat → Value) (W : List Nat) (j : Nat) (hj : j < t.size) : (layT t g W)[j]? = if W.contains j = true then some (g j) else t[j]? := by
  induction W with
  | nil => simp [layT]
  | cons i r ih =>
    unfold layT
    rw [Array.getElem?_setIfInBounds, layT_size]
    by_cases h : i = j
    · subst h; simp [hj]
    · have h' : ¬ j = i := fun e => h e.symm
      rw [if_neg h, ih]
      simp [h']
theorem lay_of {W : List Nat} {xs ys : List Value} {d : List Deferred} (h : Apart W 0 xs ys) : ({ tmps := xs.toArray, defers := d } : Act) = lay { tmps := ys.toArray, defers := d } (slotsOf { tmps := xs.toArray, defers := d }) W := by
  obtain ⟨hl, hs⟩ := h.spec
  unfold lay
  have : layT ys.toArray (slotsOf { tmps := xs.toArray, defers := d }) W = xs.toArray := by
    apply Array.ext_getElem?
    intro j
    by_cases hj : j < ys.length
    · rw [layT_get _ _ _ _ (by simpa using hj)]
      by_cases hc : W.contains j = true
      · rw [if_pos hc]
        have hx : j < xs.length := by omega
        simp [slotsOf, Array.getD, hx]
      · rw [if_neg hc]
        have := hs j (by rw [Nat.zero_add]; simpa using hc)
        simpa using this.symm
    · rw [Array.getElem?_eq_none (by rw [layT_size]; simpa using hj), Array.getElem?_eq_none (by simp; omega)]
  show ({ tmps := xs.toArray, defers := d } : Act) = { tmps := layT ys.toArray _ W, defers := d }
  rw [this]
/-- What a round hands on, behind a name that the walk does not open. -/
def Again (W : List Nat) (R : Nat → (Nat → Value) → World → Prop) (a0 : Act) (n : Nat) (a' : Act) (w' : World) : Prop := ∃ n', n' < n ∧ ∃ g, a' = lay a0 g W ∧ R n' g w'
theorem Again.mk {W : List Nat} {R : Nat → (Nat → Value) → World → Prop} {a0 : Act} {n : Nat} {a' : Act} {w' : World} (n' : Nat) (hlt : n' < n) (hs : a' = lay a0 (slotsOf a') W) (hR : R n' (slotsOf a') w') : Again W R a0 n a' w' := ⟨n', hlt, _, hs, hR⟩
theorem skip_seq {c : Code} (h : c.wp P Q a w) : (Code.skip.seq c).wp P Q a w := wp_seq (wp_skip h)
theorem scope_late {c body : Code} (l : Nat) (hf : findLabel c l = some (Code.skip.seq body))
    (first : ∀ JA : Act → World → Prop,
      (∀ (W : List Nat) (R : Nat → (Nat → Value) → World → Prop) (n0 : Nat) (a0 : Act) (w0 : World), R n0 (slotsOf a0) w0 →
        (∀ n g w, R n g w → ∀ JB : Act → World → Prop, (∀ a' w', Again W R a0 n a' w' → JB a' w') → body.wp P (Exit.jump l JB Q) (lay a0 g W) w) → body.wp P (Exit.jump l JA Q) a0 w0) →
      c.wp P (Exit.jump l JA Q) a w) : (Code.scope c).wp P Q a w := by
  refine scope_any (body := body) l hf fun JA hJ => first JA fun W R n0 a0 w0 h0 round =>
    hJ (fun n a w => ∃ g, a = lay a0 g W ∧ R n g w) n0 a0 w0 ⟨slotsOf a0, (lay_self a0 W).symm, h0⟩ fun n a w h => by
      obtain ⟨g, rfl, hR⟩ := h
      exact round n g w hR _ fun _ _ h => h
end Go.Proofs.Ytnbopkmhakfmmaa.Late
