/- Complex numbers and floats in a walk: each operation as one plain function of the parts' bits, and the rule by which a walk takes it. Conditions: where the operation is valid. -/
import Derived.Laws.ComplexArith
import Derived.Laws.ComplexQuo
import Derived.Laws.FloatArith
import Derived.Laws.Unary
namespace Go.Proofs.Yteadclhlipcfpaa.FloWords
/-- '+', '-', '*' of complex numbers: the parts' bits; none: not valid. -/
def cop (op : BinOp) (a b c d : Nat) : Option (Nat × Nat) := if op = .mul then cMulBits a b c d else cSumBits op .f64 a b c d
def cres (op : BinOp) (a b c d : Nat) : Nat × Nat := (cop op a b c d).getD (0, 0)
def fres (op : BinOp) (a b : Nat) : Nat := (floatBits op .f64 a b).getD 0
def ires (k : IntKind) (a : Nat) : Int := (floatToIntVal .f64 a k).getD 0
section
variable {P : Program} (w : World) (t : TypeId) (a b c d : Nat)
def cstuck (op : BinOp) : Result Value := (binOp op t (.complex .f64 a b) (.complex .f64 c d)).run P w
def fstuck (op : BinOp) : Result Value := (binOp op t (.float .f64 a) (.float .f64 b)).run P w
theorem run_cx_add : (binOp .add t (.complex .f64 a b) (.complex .f64 c d)).run P w = if (cop .add a b c d).isSome = true then .ok (.complex .f64 (cres .add a b c d).1 (cres .add a b c d).2) w else cstuck (P := P) w t a b c d .add := by
  split
  · rename_i h
    obtain ⟨r, hr⟩ := Option.isSome_iff_exists.1 h
    have h2 : cSumBits .add .f64 a b c d = some (r.1, r.2) := hr
    rw [run_complex_sum w .add (.inl rfl) t .f64 a b c d _ _ h2]
    unfold cres; rw [hr]; rfl
  · rfl
theorem run_cx_sub : (binOp .sub t (.complex .f64 a b) (.complex .f64 c d)).run P w = if (cop .sub a b c d).isSome = true then .ok (.complex .f64 (cres .sub a b c d).1 (cres .sub a b c d).2) w else cstuck (P := P) w t a b c d .sub := by
  split
  · rename_i h
    obtain ⟨r, hr⟩ := Option.isSome_iff_exists.1 h
    have h2 : cSumBits .sub .f64 a b c d = some (r.1, r.2) := hr
    rw [run_complex_sum w .sub (.inr rfl) t .f64 a b c d _ _ h2]
    unfold cres; rw [hr]; rfl
  · rfl
theorem run_cx_mul : (binOp .mul t (.complex .f64 a b) (.complex .f64 c d)).run P w = if (cop .mul a b c d).isSome = true then .ok (.complex .f64 (cres .mul a b c d).1 (cres .mul a b c d).2) w else cstuck (P := P) w t a b c d .mul := by
  split
  · rename_i h
    obtain ⟨r, hr⟩ := Option.isSome_iff_exists.1 h
    have h2 : cMulBits a b c d = some (r.1, r.2) := hr
    rw [run_complex_mul w t a b c d _ _ h2]
    unfold cres; rw [hr]; rfl
  · rfl
theorem run_fl (op : BinOp) : (floatBits op .f64 a b).isSome = true → (binOp op t (.float .f64 a) (.float .f64 b)).run P w = .ok (.float .f64 (fres op a b)) w := by
  intro h
  obtain ⟨r, hr⟩ := Option.isSome_iff_exists.1 h
  rw [run_float_arith w op t .f64 a b r hr]
  unfold fres; rw [hr]; rfl
theorem run_fl_add : (binOp .add t (.float .f64 a) (.float .f64 b)).run P w = if (floatBits .add .f64 a b).isSome = true then .ok (.float .f64 (fres .add a b)) w else fstuck (P := P) w t a b .add := by
  split
  · rename_i h; exact run_fl w t a b .add h
  · rfl
theorem run_fl_quo : (binOp .quo t (.float .f64 a) (.float .f64 b)).run P w = if (floatBits .quo .f64 a b).isSome = true then .ok (.float .f64 (fres .quo a b)) w else fstuck (P := P) w t a b .quo := by
  split
  · rename_i h; exact run_fl w t a b .quo h
  · rfl
theorem run_neg_fl : (Op.unary .neg (.float .f64 a)).run P w = .ok (.float .f64 (Op.negFloat .f64 a)) w := rfl
def istuck (src dst : TypeId) : Result Value := (convert src dst (.float .f64 a)).run P w
theorem run_fl_int (src dst : TypeId) (k : IntKind) (hs : (P.underlying src).isSome = true) (hd : P.underlying dst = some (.int k)) : (convert src dst (.float .f64 a)).run P w = if (floatToIntVal .f64 a k).isSome = true then .ok (.int k (ires k a)) w else istuck (P := P) w a src dst := by
  split
  · rename_i h
    obtain ⟨r, hr⟩ := Option.isSome_iff_exists.1 h
    rw [run_convert_float_int w src dst .f64 k a r hs hd hr]
    unfold ires; rw [hr]; rfl
  · rfl
end
end Go.Proofs.Yteadclhlipcfpaa.FloWords
