/- A pointer to a record of one field, a row: D. What is told of it lasts as what is shared (Kd.V) does. Conditions: none. -/
import Derived.Test.YtnbopkmhakfmmaaWMore
namespace Go.Proofs.Ytnbopkmhakfmmaa.Ptr
open Go.RowKit Go.Proofs.YtnbopkmhakfmmaaW.PrintWords
/-- nil (told as the empty row), or a pointer to a block that holds a row that is not empty. -/
def D {α : Type} (d : Kd α) (_e : Nat) (W : World) (_base : Nat) (ok : Nat → Prop) (v : Value) (xs : List α) : Prop :=
  (v = .pointer none ∧ xs = []) ∨ (xs ≠ [] ∧ ∃ g A c, v = .pointer (some ⟨g, 0, none⟩) ∧ xs.length ≤ c ∧ Foot (fun W => W.heap[g]? = some (.cells #[.slice A xs.length c] 66 (0, 0)) ∧ d.C W A xs.length xs) W ok)
variable {α : Type} {d : Kd α} {e base base' g N' : Nat} {ok ok' S : Nat → Prop} {w W w1 : World} {u v v1 : Value} {xs : List α}
theorem D_map (h : D d e W base ok v xs) (hF : ∀ P : World → Prop, Foot P W ok → Foot P w1 ok') : D d e w1 base' ok' v xs := by
  rcases h with h | ⟨hn, g, A, c, hv, hl, hf⟩
  · exact .inl h
  · exact .inr ⟨hn, g, A, c, hv, hl, hF _ hf⟩
theorem D_nil (d : Kd α) (e : Nat) (W : World) (base : Nat) (ok : Nat → Prop) : D d e W base ok (.pointer none) [] := .inl ⟨rfl, rfl⟩
theorem D_mono (h : D d e W base ok v xs) (hok : ∀ k, ok k → ok' k) : D d e W base ok' v xs := D_map h (fun _ hf => Foot.mono hf hok)
theorem D_bound (h : D d e W base ok v xs) : D d e W base (fun k => ok k ∧ k < W.heap.size) v xs := D_map h (fun _ hf => Foot.bound hf)
theorem D_lower (h : D d e W base ok v xs) (_ : base' ≤ base) : D d e W base' ok v xs := h
theorem D_step (h : D d e W base ok v xs) (hm : ∀ k, ok k → k < W.heap.size → w1.heap[k]? = W.heap[k]?) : D d e w1 base ok v xs := D_map h (fun _ hf => Foot.step hf hm)
theorem D_below (h : D d e W base ok v xs) (hb : Below W.heap.size W w1) : D d e w1 base ok v xs := D_step h (fun k _ hlt => hb.block k hlt)
theorem D_alloc (h : D d e W base ok v xs) (o : Obj) : D d e (W.alloc o) base ok v xs := D_below h (below_alloc (Below.refl _ _) o)
theorem D_drew (h : D d e W base ok v xs) : D d e W.drew base ok v xs := D_below h (below_drew (Below.refl _ _))
theorem D_drewN (h : D d e W base ok v xs) (m : Nat) : D d e (W.drewN m) base ok v xs := D_below h (pw_below_drewN (Below.refl _ _) m)
theorem D_grown (h : D d e W base ok v xs) {row : Option Nat} (hg : W.grownBy w1 row) (hok : ∀ k, ok k → some k ≠ row) : D d e w1 base ok v xs := D_step h (fun k hk hlt => hg.block k hlt (hok k hk))
theorem D_far (h : D d e W base ok v xs) {p : Addr} (hok : ∀ k, ok k → k ≠ p.block) (u : Value) : D d e (W.setCell p u) base ok v xs := D_step h (fun k hk _ => Below.heap_setCell W p u k (hok k hk))
theorem D_keep (h : D d e W base ok v xs) (hk : KeepBut W w1 g none) (hok : ∀ k, ok k → k ≠ g) : D d e w1 base ok v xs := D_step h (fun k ho hlt => hk.2 k hlt (hok k ho) (by simp))
theorem D_kept (h : D d e W base ok v xs) (hk : Kept W w1 S) (hok : ∀ k, ok k → ¬ S k) : D d e w1 base ok v xs := D_step h (fun k ho hlt => hk.2 k hlt (hok k ho))
theorem D_after (h : D d e W base (fun k => ok k ∧ some k ≠ u.ownBlock) v xs) (hg : W.grownBy w1 u.ownBlock) (hat : v1.ownBlock = u.ownBlock ∨ ∃ b, v1.ownBlock = some b ∧ W.heap.size ≤ b) : D d e w1 base (fun k => ok k ∧ some k ≠ v1.ownBlock) v xs := by
  refine D_mono (D_step (D_bound h) (fun k hk hlt => hg.block k hlt hk.1.2)) (fun k hk => ⟨hk.1.1, ?_⟩)
  rcases hat with hat | ⟨b, hb, hle⟩
  · rw [hat]; exact hk.1.2
  · rw [hb]
    intro he
    injection he with he
    have := hk.2
    omega
theorem D_afterv (h : D d e W base (fun k => ok k ∧ some k ≠ v.ownBlock) u xs) (hg : W.grownBy w1 v.ownBlock) (hat : v1.ownBlock = v.ownBlock ∨ ∃ b, v1.ownBlock = some b ∧ W.heap.size ≤ b) : D d e w1 base (fun k => ok k ∧ some k ≠ v1.ownBlock) u xs := D_after h hg hat
theorem D_apart_nil (h : D d e W base ok v xs) : D d e W base (fun k => ok k ∧ some k ≠ (Value.slice none 0 0).ownBlock) v xs := D_mono h (fun k hk => ⟨hk, by simp [Value.ownBlock]⟩)
theorem D_old (h : D d e W base ok v xs) (hb : Below W.heap.size W w1) : D d e w1 base (fun k => ok k ∧ k < W.heap.size) v xs := D_below (D_bound h) hb
theorem D_elder' (h : D d e W base ok v xs) (hbase : ∀ k, u.ownBlock = some k → W.heap.size ≤ k) (hb : Below W.heap.size W w1) : D d e w1 base (fun k => ok k ∧ some k ≠ u.ownBlock) v xs :=
  D_mono (D_old h hb) (fun k hk => ⟨hk.1, fun he => by have := hbase k he.symm; have := hk.2; omega⟩)
theorem D_elderB (h : D d e W base ok v xs) (a : Nat) (ha : W.heap.size ≤ a) : D d e W base (fun k => ok k ∧ k ≠ a) v xs := D_mono (D_bound h) (fun k hk => ⟨hk.1, by have := hk.2; omega⟩)
theorem D_oldK (h : D d e W base (fun k => ok k ∧ k ≠ g) v xs) (hk : KeepBut W w1 g none) : D d e w1 base (fun k => ok k ∧ k < W.heap.size) v xs := D_mono (D_keep (D_bound h) hk (fun _ h => h.1.2)) (fun _ h => ⟨h.1.1, h.2⟩)
theorem D_told (h : D d e w1 base (fun k => ok k ∧ k < N') v xs) (hbase : ∀ k, u.ownBlock = some k → N' ≤ k) : D d e w1 base (fun k => (ok k ∧ some k ≠ u.ownBlock) ∧ k < N') v xs :=
  D_mono h (fun k hk => ⟨⟨hk.1, fun he => Nat.lt_irrefl _ (Nat.lt_of_lt_of_le hk.2 (hbase k he.symm))⟩, hk.2⟩)
theorem D_keptB (h : D d e W base ok v xs) (hk : Kept W w1 S) (hne : ∀ k, ok k → ¬ S k) : D d e w1 base (fun k => ok k ∧ (¬ S k ∧ k < W.heap.size)) v xs :=
  D_kept (D_mono (D_bound h) (fun k hk => ⟨hk.1, hne k hk.1, hk.2⟩)) hk (fun _ hk => hk.2.1)
/-- What is made of a row (shared as it stands) and of the block that holds it. -/
theorem D_mk {A : Option Addr} {c n : Nat} (hne : xs ≠ []) (hb : W.heap[g]? = some (.cells #[.slice A n c] 66 (0, 0))) (hV : Kd.V d e W base ok (.slice A n c) xs) (hg : ok g) : D d e W base ok (.pointer (some ⟨g, 0, none⟩)) xs := by
  obtain ⟨hn, hl, hf⟩ := Kd.V_at hV
  subst hn
  refine .inr ⟨hne, g, A, c, rfl, hl, fun W' hW => ⟨?_, hf W' hW⟩⟩
  rw [hW g hg (blk_lt hb)]
  exact hb
/-- What is read through it. -/
theorem D_open (h : D d e W base ok v xs) (hne : xs ≠ []) : ∃ g A c, v = .pointer (some ⟨g, 0, none⟩) ∧ W.heap[g]? = some (.cells #[.slice A xs.length c] 66 (0, 0)) ∧ Kd.V d e W base ok (.slice A xs.length c) xs := by
  rcases h with ⟨_, h⟩ | ⟨_, g, A, c, hv, hl, hf⟩
  · exact absurd h hne
  · exact ⟨g, A, c, hv, (Foot.now hf).1, Kd.V_mk hl (Foot.imp hf (fun _ h => h.2))⟩
theorem D_isnil (h : D d e W base ok v xs) : v = .pointer none ↔ xs = [] := by
  rcases h with ⟨rfl, rfl⟩ | ⟨hn, g, A, c, rfl, _⟩
  · simp
  · exact ⟨fun h => (nomatch h), fun h => absurd h hn⟩
end Go.Proofs.Ytnbopkmhakfmmaa.Ptr
