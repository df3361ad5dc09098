/- PureDesThree: of three keys it is there, back, there: plain laws over the printed functions. Conditions: bytes, and bounds on lengths. -/
import Derived.Test.YtnbopkmhakfmmaaMDesThree
import Derived.Test.YtnbopkmhakfmmaaDesTellC
namespace Go.Proofs.Ytnbopkmhakfmmaa.Pure
open Go.RowKit Go.Proofs.Ytnbopkmhakfmmaa.MDes Go.Proofs.YtnbopkmhakfmmaaW.PrintWords Go.Proofs.YtnbopkmhakfmmaaW.PrintLast Go.Proofs.YtnbopkmhakfmmaaW.PrintMore Go.Proofs.Ytnbopkmhakfmmaa.Plain

/-! ### the law -/
theorem cut_self {y : List Int} (h : y.length = 8) : cutL y 0 = y := by
  unfold cutL
  rw [List.take_of_length_le (by omega)]; rfl
theorem new_one {y : List Int} (h : y.length = 8) : newL 1 y = [keysL y] := by
  show [keysL (cutL y 0)] = _
  rw [cut_self h]
theorem cut_first {x y : List Int} (h : x.length = 8) : cutL (x ++ y) 0 = x := by
  unfold cutL
  rw [List.take_left' (by omega)]; rfl
theorem cut_next {x y : List Int} (h : x.length = 8) (i : Nat) : cutL (x ++ y) (i + 1) = cutL y i := by
  unfold cutL
  rw [show 8 * (i + 1 + 1) = x.length + 8 * (i + 1) by omega, show 8 * (i + 1) = x.length + 8 * i by omega, List.take_length_add_append, List.drop_length_add_append]
theorem new_two {x y : List Int} (hx : x.length = 8) (hy : y.length = 8) : newL 2 (x ++ y) = [keysL x, keysL y, keysL x] := by
  show [keysL (cutL (x ++ y) 0), keysL (cutL (x ++ y) 1)] ++ [keysL (cutL (x ++ y) 0)] = _
  rw [cut_first hx, cut_next hx 0, cut_self hy]; rfl
theorem new_three {x y z : List Int} (hx : x.length = 8) (hy : y.length = 8) (hz : z.length = 8) : newL 3 (x ++ y ++ z) = [keysL x, keysL y, keysL z] := by
  show [keysL (cutL (x ++ y ++ z) 0), keysL (cutL (x ++ y ++ z) 1), keysL (cutL (x ++ y ++ z) 2)] = _
  rw [List.append_assoc, cut_first hx, cut_next hx 0, cut_first hy, cut_next hx 1, cut_next hy 0, cut_self hz]
theorem DesThree : scrimlaw6_DesThree.Pure := by
  intro l0 l1 l2 l3 _ h0 hb0 _ h1 hb1 _ h2 hb2 _ h3 hb3
  obtain ⟨K, hK⟩ : ∃ K : Nat, 5000 ≤ K := ⟨5000, Nat.le_refl _⟩
  refine ⟨K, ?_⟩
  obtain ⟨x, hx, xl, xb⟩ := bytes_f K (by omega) 8 (by omega) l0 (bytes_of hb0) (by omega)
  obtain ⟨y, hy, yl, yb⟩ := bytes_f K (by omega) 8 (by omega) l1 (bytes_of hb1) (by omega)
  obtain ⟨z, hz, zl, zb⟩ := bytes_f K (by omega) 8 (by omega) l2 (bytes_of hb2) (by omega)
  obtain ⟨p, hp, pl, pb⟩ := bytes_f K (by omega) 8 (by omega) l3 (bytes_of hb3) (by omega)
  have hp' : scrimlaw6_Bytes.f K 8 l3 = some p := hp
  have hx' : scrimlaw6_Bytes.f K 8 l0 = some x := hx
  have hy' : scrimlaw6_Bytes.f K 8 l1 = some y := hy
  have hz' : scrimlaw6_Bytes.f K 8 l2 = some z := hz
  have one : ∀ q : List Int, Bytes q → q.length = 8 → des_New.f K q = some ([keysL q], 0) := fun q hq hl => by rw [new_f K (by omega) 1 (by decide) (by decide) q hq (by omega), new_one hl]
  have nxyz := new_f K (by omega) 3 (by decide) (by decide) (x ++ y ++ z) (bytes_append (bytes_append xb yb) zb) (by simp; omega)
  have nxy := new_f K (by omega) 2 (by decide) (by decide) (x ++ y) (bytes_append xb yb) (by simp; omega)
  have nxxx := new_f K (by omega) 3 (by decide) (by decide) (x ++ x ++ x) (bytes_append (bytes_append xb xb) xb) (by simp; omega)
  rw [new_three xl yl zl] at nxyz
  rw [new_two xl yl] at nxy
  rw [new_three xl xl xl] at nxxx
  have g1 : ∀ q, GoodKS [keysL q] := fun q ks hks => by rw [List.mem_singleton] at hks; rw [hks]; exact keysL_good q
  have g3 : ∀ a b c, GoodKS [keysL a, keysL b, keysL c] := fun a b c ks hks => by
    simp only [List.mem_cons, List.not_mem_nil, or_false] at hks
    rcases hks with rfl | rfl | rfl
    · exact keysL_good a
    · exact keysL_good b
    · exact keysL_good c
  have blk1 : ∀ q b, Bytes b → b.length = 8 → des_Des_Block.f K [keysL q] b false = some (onceL b (keysL q), 0) := fun q b hb hl => block_f K (by omega) _ (g1 q) (by simp) false b hb hl
  have blk1' : ∀ q b, Bytes b → b.length = 8 → des_Des_Block.f K [keysL q] b true = some (onceL b (keysL q).reverse, 0) := fun q b hb hl => block_f K (by omega) _ (g1 q) (by simp) true b hb hl
  have blk3 : ∀ a c e b, Bytes b → b.length = 8 → des_Des_Block.f K [keysL a, keysL c, keysL e] b false = some (onceL (onceL (onceL b (keysL a)) (keysL c).reverse) (keysL e), 0) := fun a c e b hb hl => block_f K (by omega) _ (g3 a c e) (by simp) false b hb hl
  have len8 : ∀ b ks, ((onceL b ks).length : Int) = 8 := fun b ks => by rw [onceL_length]; rfl
  unfold scrimlaw6_DesThree.f
  rw [known_f K (by omega), Option.bind_some, if_pos rfl, hx', Option.bind_some, hy', Option.bind_some, hz', Option.bind_some, hp', Option.bind_some,
    one x xb xl, Option.bind_some, one y yb yl, Option.bind_some, one z zb zl, Option.bind_some, Option.bind_some, if_pos (by rw [List.length_nil]; omega), Option.bind_some, List.nil_append,
    if_pos (by omega), Option.bind_some, if_pos (by rw [List.length_append]; omega), nxyz, Option.bind_some, Option.bind_some, if_pos (by rw [List.length_nil]; omega), Option.bind_some, List.nil_append,
    if_pos (by omega), nxy, Option.bind_some, Option.bind_some, if_pos (by rw [List.length_nil]; omega), Option.bind_some, List.nil_append, if_pos (by omega), Option.bind_some,
    if_pos (by rw [List.length_append]; omega), nxxx, Option.bind_some]
  simp only
  rw [if_neg (by simp), if_neg (by simp), if_neg (by simp), if_neg (by simp), if_neg (by simp), if_neg (by simp)]
  have ob := onceL_bytes
  have ol := onceL_length
  rw [blk1 x p pb pl, Option.bind_some, blk1' y _ (ob _ _) (ol _ _), Option.bind_some, blk1 z _ (ob _ _) (ol _ _), Option.bind_some, blk1 x _ (ob _ _) (ol _ _), Option.bind_some,
    blk3 x y z p pb pl, Option.bind_some, blk3 x y x p pb pl, Option.bind_some, blk3 x x x p pb pl, Option.bind_some]
  simp only
  rw [if_pos (len8 _ _), if_pos trivial, if_pos trivial, once_back pb pl]
  simp

end Go.Proofs.Ytnbopkmhakfmmaa.Pure
