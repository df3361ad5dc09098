/- 'make([]T, 0, c)': an own row (Kd.R) that holds nothing yet. Conditions: the size. -/
import Derived.Test.YtnbopkmhakfmmaaWMore
namespace Go.Proofs.Ytnbopkmhakfmmaa.Cap
open Go.RowKit Go.Proofs.YtnbopkmhakfmmaaW.PrintWords
variable {P : Program} {ops : Array Oper} {Q : Exit → Act → World → Prop} {o : Oper} {rest : List Oper} {a : Act} {α : Type}
theorem R_makecap (d : Kd α) {w0 W : World} (base e : Nat) (hgd : o.guard = none) {N : Tmp} (_hd : o.dst = some N) (t : TypeId) (x y : Operand) (ho : o.op = .makeSlice t x y) (c : Nat) (hx : a.eval x = .int .i64 0) (hy : a.eval y = .int .i64 (c : Int))
    (ht : P.underlying t = some (.slice e)) (z : Value) (bytes : Nat) (hinfo : (P.info? e).map (fun i => (i.zero, i.size, i.bytes)) = some (some z, d.sz, bytes)) (hb0 : 0 < bytes) (hl : c * bytes ≤ 281474976710656) (HB : Below base w0 W) (hbase : base ≤ W.heap.size)
    (h : ∀ v1 w1, d.R e w1 base (fun _ => True) v1 ([] : List α) → Below base w0 w1 → W.grownBy w1 none → (∃ b, v1.ownBlock = some b ∧ W.heap.size ≤ b) → wpList P ops Q rest (a.put o.dst v1) w1) : wpList P ops Q (o :: rest) a W := by
  obtain ⟨i, hi, hz, hs, hb⟩ : ∃ i, P.info? e = some i ∧ i.zero = some z ∧ i.size = d.sz ∧ i.bytes = bytes := by
    obtain ⟨i, hi, hzz⟩ := Option.map_eq_some_iff.1 hinfo
    simp only [Prod.mk.injEq] at hzz
    exact ⟨i, hi, hzz.1, hzz.2.1, hzz.2.2⟩
  have hc : c ≤ c * bytes := Nat.le_mul_of_pos_right _ hb0
  refine wpList_make_own W hgd x y t ho base e i z d.sz ht hi hz hs .i64 .i64 (c : Int) c hx hy rfl (by rw [hb, Nat.mul_comm]; exact hl) (by simp only [maxLen]; omega) hbase ?_
  intro w' hown hg
  refine h _ w' ⟨fun _ _ => trivial, [], hown, Reps.none _ _⟩ (HB.grown hg hbase (fun k hk => by cases hk)) hg ⟨W.heap.size, rfl, Nat.le_refl _⟩
/-- The same of a row whose rows are each its own. -/
theorem S_makecap (d : Kd α) {w0 W : World} (base e : Nat) (hgd : o.guard = none) {N : Tmp} (_hd : o.dst = some N) (t : TypeId) (x y : Operand) (ho : o.op = .makeSlice t x y) (c : Nat) (hx : a.eval x = .int .i64 0) (hy : a.eval y = .int .i64 (c : Int))
    (ht : P.underlying t = some (.slice e)) (z : Value) (bytes : Nat) (hinfo : (P.info? e).map (fun i => (i.zero, i.size, i.bytes)) = some (some z, d.sz, bytes)) (hb0 : 0 < bytes) (hl : c * bytes ≤ 281474976710656) (HB : Below base w0 W) (hbase : base ≤ W.heap.size)
    (h : ∀ v1 w1, Kd.S d e w1 base (fun _ => True) v1 ([] : List α) → Below base w0 w1 → W.grownBy w1 none → (∃ b, v1.ownBlock = some b ∧ W.heap.size ≤ b) → wpList P ops Q rest (a.put o.dst v1) w1) : wpList P ops Q (o :: rest) a W :=
  R_makecap (Kd.bare d) base e hgd _hd t x y ho c hx hy ht z bytes hinfo hb0 hl HB hbase (fun v1 w1 hr => h v1 w1 (Kd.S_bare hr))
end Go.Proofs.Ytnbopkmhakfmmaa.Cap
