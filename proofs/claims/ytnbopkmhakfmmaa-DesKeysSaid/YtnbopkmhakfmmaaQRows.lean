/- 'append(xs[k:], ys...)' of whole numbers: a row that begins inside its block (Kd.Q), several elements appended, ys read as they stand. Conditions: the size. -/
import Derived.Test.YtnbopkmhakfmmaaWMore
namespace Go.Proofs.Ytnbopkmhakfmmaa.QRows
open Go.RowKit Go.Proofs.YtnbopkmhakfmmaaW.PrintWords
variable {P : Program} {ops : Array Oper} {Q : Exit → Act → World → Prop} {o : Oper} {rest : List Oper} {a : Act}
theorem Q_rows (k : IntKind) {w0 W : World} (base t ty e : Nat) (z : Value) (bytes : Nat)
    (ht : P.underlying t = some (.slice e)) (hinfo : (P.info? e).map (fun i => (i.zero, i.size, i.bytes)) = some (some z, 1, bytes)) (hz : z.cells.size = 1) (hb0 : 0 < bytes)
    (v : Value) (xs ys : List Int) (A : Option Addr) (m c : Nat) (hm : 0 < m) {ok : Nat → Prop} (HO : (Kd.int k).Q e W base ok v xs) (HR : (Kd.int k).C W A m ys) (hfresh : ∀ k, W.heap.size ≤ k → ok k)
    (HB : Below base w0 W) (hbase : base ≤ W.heap.size) (hl : (xs.length + m) * bytes ≤ 140737488355328) :
    ∃ v1 w1, (Builtin.append_ #[t, t] ty #[v, .slice A m c]).run P W = .ok v1 w1 ∧ (Kd.int k).Q e w1 base ok v1 (xs ++ ys) ∧ Below base w0 w1 ∧ W.grownBy w1 v.ownBlock ∧ (v1.ownBlock = v.ownBlock ∨ ∃ b, v1.ownBlock = some b ∧ W.heap.size ≤ b) := by
  obtain ⟨i0, hi, hzz⟩ := Option.map_eq_some_iff.1 hinfo
  simp only [Prod.mk.injEq] at hzz
  obtain ⟨hz0, hz1, hz2⟩ := hzz
  obtain ⟨h0, inner, hown, hr⟩ := HO
  have hmy : ys.length = m := HR.1
  obtain ⟨ad, rfl, _⟩ := HR.2.2 hm
  obtain ⟨news, hnr, hnc⟩ := ReadsRow.inner_ HR
  have hlen : xs.length + m ≤ 140737488355328 := Nat.le_trans (Nat.le_mul_of_pos_right _ hb0) hl
  have hs1 : (Kd.int k).sz = 1 := rfl
  have hnl : news.length = m * 1 := by have := hnr.1; rw [hs1] at this; rw [this, hmy]
  have hone : ∀ u ∈ news, u.oneCell' = true := by
    intro u hu
    obtain ⟨q, hq, rfl⟩ := List.mem_iff_getElem.1 hu
    have hql : q < ys.length := by omega
    have hc := hnr.2 q _ (List.getElem?_eq_getElem hql)
    refine (Kd.int k).K_one hc _ ?_
    rw [List.mem_iff_getElem?]
    refine ⟨0, ?_⟩
    rw [hs1, List.getElem?_take, if_pos (by decide), List.getElem?_drop, Nat.mul_one, Nat.add_zero, List.getElem?_eq_getElem hq]
  rw [hs1] at hown hr hnr
  obtain ⟨v1, w1, hrun, hq1, hg, hat⟩ := q_append (P := P) W base t ty e i0 z 1 bytes ht hi hz0 hz1 hz2 hz (by decide) v xs.length inner hown ad m c news hnl hnc hone hm (by simp only [maxLen]; omega) hl hbase
  refine ⟨v1, w1, hrun, ⟨fun q hq => ?_, inner ++ news, ?_, ?_⟩, HB.grown hg hbase (fun q hq => (q_typed hown q hq).1), hg, hat⟩
  · rcases hat with hat | ⟨b, hb, hle⟩
    · exact h0 q (hat ▸ hq)
    · rw [hb] at hq
      injection hq with hq
      exact hfresh q (by omega)
  · rw [List.length_append, hmy]; exact hq1
  · have r1 : Reps ((Kd.int k).K W) 1 xs inner := hr
    exact (Kd.reps_append r1 hnr : Reps _ 1 (xs ++ ys) (inner ++ news))
/-- The same with none or some elements. -/
theorem Q_rows0 (k : IntKind) {w0 W : World} (base t ty e : Nat) (z : Value) (bytes : Nat)
    (ht : P.underlying t = some (.slice e)) (hinfo : (P.info? e).map (fun i => (i.zero, i.size, i.bytes)) = some (some z, 1, bytes)) (hz : z.cells.size = 1) (hb0 : 0 < bytes)
    (v : Value) (xs ys : List Int) (A : Option Addr) (m c : Nat) {ok : Nat → Prop} (HO : (Kd.int k).Q e W base ok v xs) (HR : (Kd.int k).C W A m ys) (hfresh : ∀ k, W.heap.size ≤ k → ok k)
    (HB : Below base w0 W) (hbase : base ≤ W.heap.size) (hl : (xs.length + m) * bytes ≤ 140737488355328) :
    ∃ v1 w1, (Builtin.append_ #[t, t] ty #[v, .slice A m c]).run P W = .ok v1 w1 ∧ (Kd.int k).Q e w1 base ok v1 (xs ++ ys) ∧ Below base w0 w1 ∧ W.grownBy w1 v.ownBlock ∧ (v1.ownBlock = v.ownBlock ∨ ∃ b, v1.ownBlock = some b ∧ W.heap.size ≤ b) := by
  rcases Nat.eq_zero_or_pos m with h0 | hm
  · subst h0
    obtain rfl : ys = [] := List.eq_nil_of_length_eq_zero HR.1
    obtain ⟨i0, hi, hzz⟩ := Option.map_eq_some_iff.1 hinfo
    refine ⟨v, W, ?_, by rw [List.append_nil]; exact HO, HB, World.grownBy.refl W _, .inl rfl⟩
    obtain ⟨h0, inner, hown, hr⟩ := HO
    rcases hown.2 with ⟨hn, A', rfl, _⟩ | ⟨g, off, cap, cur, rfl, _, _, hnc, _⟩
    · rcases A with _ | ad <;> rcases A' with _ | ad' <;> simp [Builtin.append_, run_underlying ht, sizeOf, typeInfo, hi, Builtin.lenOf, Builtin.firstCells, storeCells, loadCells, loadCellsFrom]
    · rcases A with _ | ad <;> simp [Builtin.append_, run_underlying ht, sizeOf, typeInfo, hi, Builtin.lenOf, Builtin.firstCells, hnc, storeCells, loadCells, loadCellsFrom]
  · exact Q_rows k base t ty e z bytes ht hinfo hz hb0 v xs ys A m c hm HO HR hfresh HB hbase hl
/-- A cut from the front of an own row of whole numbers. -/
theorem Q_cut {k : IntKind} {W : World} {base e : Nat} {ok : Nat → Prop} {A A' : Option Addr} {n c c' : Nat} {xs ys : List Int} {m : Nat} (h : (Kd.int k).R e W base ok (.slice A n c) xs) (hm : m ≤ xs.length) (hy : ys = xs.drop m)
    (hA : A' = if c = m then A else A.map (·.add (m * 1))) (hc : c' = c - m) : (Kd.int k).Q e W base ok (.slice A' ys.length c') ys := by
  have hq := Kd.Q_drop (k := m) (Kd.Q_of_R h) hm
  have hn : n = xs.length := (Kd.R_reads' h).1
  subst hy hA hc
  rw [List.length_drop, ← hn]
  exact hq
theorem cut_own {A A' : Option Addr} {n n' c c' m : Nat} (hA : A' = if c = m then A else A.map (·.add (m * 1))) : (Value.slice A' n' c').ownBlock = (Value.slice A n c).ownBlock := by
  subst hA
  split
  · rcases A with _ | ⟨b, o, x⟩ <;> simp [Value.ownBlock]
  · rcases A with _ | ⟨b, o, x⟩
    · simp [Value.ownBlock]
    · simp only [Value.ownBlock, Addr.add, Option.map_some]
      split <;> rfl
section
variable (k : IntKind) {w0 W : World} (base : Nat) (s x : Operand) (t e : TypeId) (z : Value) (bytes : Nat)
    (ho : o.op = .call { callee := .builtin .append, args := #[s, x], argTypes := #[t, t] })
    (ht : P.underlying t = some (.slice e)) (hinfo : (P.info? e).map (fun i => (i.zero, i.size, i.bytes)) = some (some z, 1, bytes)) (hz : z.cells.size = 1) (hb0 : 0 < bytes)
    (v u : Value) (xs ys : List Int) (A : Option Addr) (m c : Nat) (ok : Nat → Prop) (hs : a.eval s = v) (hx : a.eval x = .slice A m c) (hu : v.ownBlock = u.ownBlock)
    (HO : (Kd.int k).Q e W base ok v xs) (HR : (Kd.int k).C W A m ys) (hfresh : ∀ k, W.heap.size ≤ k → ok k)
    (HB : Below base w0 W) (hbase : base ≤ W.heap.size) (hl : (xs.length + m) * bytes ≤ 140737488355328)
include ho ht hinfo hz hb0 hs hx hu HO HR hfresh HB hbase hl
/-- The step: u is the row that v is cut out of (or v itself). -/
theorem Q_append_rows (hgd : o.guard = none)
    (h : ∀ v1 w1, (Kd.int k).Q e w1 base ok v1 (xs ++ ys) → Below base w0 w1 → W.grownBy w1 u.ownBlock → (v1.ownBlock = u.ownBlock ∨ ∃ b, v1.ownBlock = some b ∧ W.heap.size ≤ b) → wpList P ops Q rest (a.put o.dst v1) w1) : wpList P ops Q (o :: rest) a W := by
  obtain ⟨v1, w1, hr, h1, h2, h3, h4⟩ := Q_rows0 (P := P) k base t o.type e z bytes ht hinfo hz hb0 v xs ys A m c HO HR hfresh HB hbase hl
  refine wpList_plain hgd fun K hK => ?_
  unfold Oper.wp execOp
  simp only [ho, resolve, invoke, builtin, Sem.run_bind, Sem.run_pure, Result.andThen_ok, List.map_toArray, List.map_cons, List.map_nil, hs, hx, hr]
  exact hK _ _ (h v1 w1 h1 h2 (hu ▸ h3) (hu ▸ h4))
theorem Q_append_rows_step {Kc : Act → World → Prop} (hw : Region.wanted o (yielded ops a.tmps) = true)
    (h : ∀ v1 w1, (Kd.int k).Q e w1 base ok v1 (xs ++ ys) → Below base w0 w1 → W.grownBy w1 u.ownBlock → (v1.ownBlock = u.ownBlock ∨ ∃ b, v1.ownBlock = some b ∧ W.heap.size ≤ b) → Kc (a.put o.dst v1) w1) :
    if Region.wanted o (yielded ops a.tmps) = true then Oper.wp P o a W Kc Q else Kc (a.put o.dst undef) W := by
  obtain ⟨v1, w1, hr, h1, h2, h3, h4⟩ := Q_rows0 (P := P) k base t o.type e z bytes ht hinfo hz hb0 v xs ys A m c HO HR hfresh HB hbase hl
  rw [if_pos hw]
  unfold Oper.wp execOp
  simp only [ho, resolve, invoke, builtin, Sem.run_bind, Sem.run_pure, Result.andThen_ok, List.map_toArray, List.map_cons, List.map_nil, hs, hx, hr]
  exact h v1 w1 h1 h2 (hu ▸ h3) (hu ▸ h4)
end
end Go.Proofs.Ytnbopkmhakfmmaa.QRows
