/- 'var r [n]uint8' in memory: its cells as a row of the call's own (Kd.R). Conditions: none. -/
import Derived.Test.YteadclhlipcfpaaWMore
namespace Go.Proofs.Yteadclhlipcfpaa.Arr
open Go.RowKit Go.Proofs.YteadclhlipcfpaaW.PrintWords
variable {P : Program} {ops : Array Oper} {Q : Exit → Act → World → Prop} {o : Oper} {rest : List Oper} {a : Act}
theorem R_arr {w0 W : World} (base t n : Nat) (k : IntKind) (hgd : o.guard = none) {N : Tmp} (_hd : o.dst = some N)
    (hrun : (execOp a.eval o).run P W = .ok (.value (.pointer (some ⟨W.heap.size, 0, none⟩))) (W.alloc (.cells ((List.replicate n (0 : Int)).map (Value.int k)).toArray t))) (hn : n ≤ 9223372036854775807)
    (HB : Below base w0 W) (hbase : base ≤ W.heap.size)
    (h : ∀ g w1, Kd.R (Kd.int k) t w1 base (fun _ => True) (.slice (some ⟨g, 0, none⟩) n n) (List.replicate n 0) → Below base w0 w1 → W.grownBy w1 none → (∃ b, (Value.slice (some ⟨g, 0, none⟩) n n).ownBlock = some b ∧ W.heap.size ≤ b) → wpList P ops Q rest (a.put o.dst (.pointer (some ⟨g, 0, none⟩))) w1) : wpList P ops Q (o :: rest) a W := by
  have hl : ((List.replicate n (0 : Int)).map (Value.int k)).length = n := by simp
  refine Kd.event_run hgd hrun (h W.heap.size _ ⟨fun _ _ => trivial, (List.replicate n (0 : Int)).map (Value.int k), ?_, ?_⟩ (HB.alloc hbase _) (World.grownBy_alloc W _ none) ⟨W.heap.size, rfl, Nat.le_refl _⟩)
  · have h2 := World.ownsRow_lit (base := base) (e := t) (size := (Kd.int k).sz) W ((List.replicate n (0 : Int)).map (Value.int k)).toArray n hbase (by simpa [maxLen] using hn) (by simp [Kd.int, Kd.scalar])
    simpa using h2
  · refine ⟨by simp [Kd.int, Kd.scalar], fun j p hj => ?_⟩
    obtain ⟨hjl, hp⟩ := List.getElem?_eq_some_iff.1 hj
    have hjn : j < n := by simpa using hjl
    have hp' : 0 = p := by simpa using hp
    subst hp'
    show (((List.replicate n (0 : Int)).map (Value.int k)).drop (j * 1)).take 1 = [Value.int k 0]
    rw [List.map_replicate, List.drop_replicate, List.take_replicate, Nat.min_eq_left (by omega)]
    rfl
theorem R_form_at {α : Type} {d : Kd α} {e base g n c : Nat} {w : World} {ok : Nat → Prop} {xs : List α} (h : d.R e w base ok (.slice (some ⟨g, 0, none⟩) n c) xs) (hn : 0 < n) : base ≤ g ∧ g < w.heap.size ∧ ∃ cells, w.heap[g]? = some (.cells cells e (0, 0)) := by
  have hl := (Kd.R_reads' h).1
  obtain ⟨g', cap, he, h1, h2, h3⟩ := Kd.R_form h (by omega)
  injection he with ha _ _
  injection ha with ha
  injection ha with ha _ _
  subst ha
  exact ⟨h1, h2, h3⟩
end Go.Proofs.Yteadclhlipcfpaa.Arr
