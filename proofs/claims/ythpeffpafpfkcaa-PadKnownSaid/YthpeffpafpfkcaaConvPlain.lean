/- '[]byte(s)' of a string that is no constant: a row that is only read (Kd.V). Conditions: the string's size. -/
import Derived.Test.YthpeffpafpfkcaaWMore
import Derived.Lib.ConvBytes
namespace Go.Proofs.Ythpeffpafpfkcaa.Conv
open Go.RowKit Go.Proofs.YthpeffpafpfkcaaW.PrintWords
theorem bytesOf_getD (s : ByteArray) (j : Nat) : (bytesOf s).getD j 0 = ((s.data.toList.getD j 0).toNat : Int) := by
  unfold bytesOf
  rw [List.getD_eq_getElem?_getD, List.getElem?_map, List.getD_eq_getElem?_getD]
  cases s.data.toList[j]? <;> rfl
variable {P : Program} {ops : Array Oper} {Q : Exit → Act → World → Prop} {o : Oper} {rest : List Oper} {a : Act}
theorem V_conv {w0 W : World} (base e : Nat) (hgd : o.guard = none) {N : Tmp} (_hd : o.dst = some N) (src t : TypeId) (x : Operand) (ho : o.op = .convert src t x) (s : ByteArray) (hx : a.eval x = .string s) {u : TypeDesc}
    (hs : P.underlying src = some u) (ht : P.underlying t = some (.slice e)) (he : P.underlying e = some (.int .u8)) (hsz : s.size ≤ 140737488351232) (HB : Below base w0 W) (hbase : base ≤ W.heap.size)
    (h : ∀ v1 w1, Kd.V (Kd.int .u8) e w1 base (fun k => True ∧ W.heap.size ≤ k ∧ True) v1 (bytesOf s) → Below base w0 w1 → W.grownBy w1 none → (∃ b, v1.ownBlock = some b ∧ W.heap.size ≤ b) → wpList P ops Q rest (a.put o.dst v1) w1) : wpList P ops Q (o :: rest) a W := by
  have hr := Lib.run_convert_string_bytes (P := P) W src t e s hs ht he
  have hg : W.grownBy (Lib.bytesWorld W e s) none := ⟨rfl, rfl, rfl, by rw [Lib.bytesWorld_size]; omega, fun k hk _ => Lib.bytesWorld_at_old W e s k hk⟩
  have hl : (bytesOf s).length = s.size := bytesOf_length s
  have hcap : s.size ≤ grownCap W s.size 0 e := by
    exact grownCap_ge W s.size 0 e
  have hV : Kd.V (Kd.int .u8) e (Lib.bytesWorld W e s) base (fun k => True ∧ W.heap.size ≤ k ∧ True) (.slice (some ⟨W.heap.size, 0, none⟩) s.size (grownCap W s.size 0 e)) (bytesOf s) := by
    rw [← hl] at hcap ⊢
    refine Kd.V_mk hcap (fun W' hW => Kd.C_of_reads (d := (0 : Int)) (h1 := fun _ => rfl) ⟨rfl, by omega, fun _ => ⟨_, rfl, fun j hj => ?_⟩⟩)
    rw [add_plain, World.cell?_of_block (w := Lib.bytesWorld W e s) (hW W.heap.size ⟨trivial, Nat.le_refl _, trivial⟩ (by rw [Lib.bytesWorld_size]; omega)), Lib.bytesWorld_cell W e s j (by omega), bytesOf_getD]
  refine Kd.event_run hgd (v := .slice (some ⟨W.heap.size, 0, none⟩) s.size (grownCap W s.size 0 e)) (w1 := Lib.bytesWorld W e s) ?_ (h _ _ hV ⟨HB.os, HB.tape, HB.output, by have := HB.size; rw [Lib.bytesWorld_size]; omega, fun k hk => by rw [Lib.bytesWorld_at_old W e s k (by omega)]; exact HB.block k hk⟩ hg ⟨_, rfl, Nat.le_refl _⟩)
  simp [execOp, ho, hx, hr]
end Go.Proofs.Ythpeffpafpfkcaa.Conv
