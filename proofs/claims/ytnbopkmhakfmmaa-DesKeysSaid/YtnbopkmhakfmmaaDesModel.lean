/- DES as plain lists of bytes and bits: its tables, its rounds, and what follows: back of there, all bits others, the bits that do not count. Conditions: none. -/
import Derived.Test.YtnbopkmhakfmmaaInvPlain
namespace Go.Proofs.Ytnbopkmhakfmmaa.Plain
open Go.RowKit Go.Proofs.YtnbopkmhakfmmaaW.PrintWords

def firstT : List Int := [58, 50, 42, 34, 26, 18, 10, 2, 60, 52, 44, 36, 28, 20, 12, 4, 62, 54, 46, 38, 30, 22, 14, 6, 64, 56, 48, 40, 32, 24, 16, 8, 57, 49, 41, 33, 25, 17, 9, 1, 59, 51, 43, 35, 27, 19, 11, 3, 61, 53, 45, 37, 29, 21, 13, 5, 63, 55, 47, 39, 31, 23, 15, 7]
def invT : List Int := [40, 8, 48, 16, 56, 24, 64, 32, 39, 7, 47, 15, 55, 23, 63, 31, 38, 6, 46, 14, 54, 22, 62, 30, 37, 5, 45, 13, 53, 21, 61, 29, 36, 4, 44, 12, 52, 20, 60, 28, 35, 3, 43, 11, 51, 19, 59, 27, 34, 2, 42, 10, 50, 18, 58, 26, 33, 1, 41, 9, 49, 17, 57, 25]
def wideT : List Int := [32, 1, 2, 3, 4, 5, 4, 5, 6, 7, 8, 9, 8, 9, 10, 11, 12, 13, 12, 13, 14, 15, 16, 17, 16, 17, 18, 19, 20, 21, 20, 21, 22, 23, 24, 25, 24, 25, 26, 27, 28, 29, 28, 29, 30, 31, 32, 1]
def mixT : List Int := [16, 7, 20, 21, 29, 12, 28, 17, 1, 15, 23, 26, 5, 18, 31, 10, 2, 8, 24, 14, 32, 27, 3, 9, 19, 13, 30, 6, 22, 11, 4, 25]
def halvesT : List Int := [57, 49, 41, 33, 25, 17, 9, 1, 58, 50, 42, 34, 26, 18, 10, 2, 59, 51, 43, 35, 27, 19, 11, 3, 60, 52, 44, 36, 63, 55, 47, 39, 31, 23, 15, 7, 62, 54, 46, 38, 30, 22, 14, 6, 61, 53, 45, 37, 29, 21, 13, 5, 28, 20, 12, 4]
def takenT : List Int := [14, 17, 11, 24, 1, 5, 3, 28, 15, 6, 21, 10, 23, 19, 12, 4, 26, 8, 16, 7, 27, 20, 13, 2, 41, 52, 31, 37, 47, 55, 30, 40, 51, 45, 33, 48, 44, 49, 39, 56, 34, 53, 46, 42, 50, 36, 29, 32]
def pickT : List (List Int) := [[10, 51, 34, 60, 49, 17, 33, 57, 2, 9, 19, 42, 3, 35, 26, 25, 44, 58, 59, 1, 36, 27, 18, 41, 22, 28, 39, 54, 37, 4, 47, 30, 5, 53, 23, 29, 61, 21, 38, 63, 15, 20, 45, 14, 13, 62, 55, 31], [2, 43, 26, 52, 41, 9, 25, 49, 59, 1, 11, 34, 60, 27, 18, 17, 36, 50, 51, 58, 57, 19, 10, 33, 14, 20, 31, 46, 29, 63, 39, 22, 28, 45, 15, 21, 53, 13, 30, 55, 7, 12, 37, 6, 5, 54, 47, 23], [51, 27, 10, 36, 25, 58, 9, 33, 43, 50, 60, 18, 44, 11, 2, 1, 49, 34, 35, 42, 41, 3, 59, 17, 61, 4, 15, 30, 13, 47, 23, 6, 12, 29, 62, 5, 37, 28, 14, 39, 54, 63, 21, 53, 20, 38, 31, 7], [35, 11, 59, 49, 9, 42, 58, 17, 27, 34, 44, 2, 57, 60, 51, 50, 33, 18, 19, 26, 25, 52, 43, 1, 45, 55, 62, 14, 28, 31, 7, 53, 63, 13, 46, 20, 21, 12, 61, 23, 38, 47, 5, 37, 4, 22, 15, 54], [19, 60, 43, 33, 58, 26, 42, 1, 11, 18, 57, 51, 41, 44, 35, 34, 17, 2, 3, 10, 9, 36, 27, 50, 29, 39, 46, 61, 12, 15, 54, 37, 47, 28, 30, 4, 5, 63, 45, 7, 22, 31, 20, 21, 55, 6, 62, 38], [3, 44, 27, 17, 42, 10, 26, 50, 60, 2, 41, 35, 25, 57, 19, 18, 1, 51, 52, 59, 58, 49, 11, 34, 13, 23, 30, 45, 63, 62, 38, 21, 31, 12, 14, 55, 20, 47, 29, 54, 6, 15, 4, 5, 39, 53, 46, 22], [52, 57, 11, 1, 26, 59, 10, 34, 44, 51, 25, 19, 9, 41, 3, 2, 50, 35, 36, 43, 42, 33, 60, 18, 28, 7, 14, 29, 47, 46, 22, 5, 15, 63, 61, 39, 4, 31, 13, 38, 53, 62, 55, 20, 23, 37, 30, 6], [36, 41, 60, 50, 10, 43, 59, 18, 57, 35, 9, 3, 58, 25, 52, 51, 34, 19, 49, 27, 26, 17, 44, 2, 12, 54, 61, 13, 31, 30, 6, 20, 62, 47, 45, 23, 55, 15, 28, 22, 37, 46, 39, 4, 7, 21, 14, 53], [57, 33, 52, 42, 2, 35, 51, 10, 49, 27, 1, 60, 50, 17, 44, 43, 26, 11, 41, 19, 18, 9, 36, 59, 4, 46, 53, 5, 23, 22, 61, 12, 54, 39, 37, 15, 47, 7, 20, 14, 29, 38, 31, 63, 62, 13, 6, 45], [41, 17, 36, 26, 51, 19, 35, 59, 33, 11, 50, 44, 34, 1, 57, 27, 10, 60, 25, 3, 2, 58, 49, 43, 55, 30, 37, 20, 7, 6, 45, 63, 38, 23, 21, 62, 31, 54, 4, 61, 13, 22, 15, 47, 46, 28, 53, 29], [25, 1, 49, 10, 35, 3, 19, 43, 17, 60, 34, 57, 18, 50, 41, 11, 59, 44, 9, 52, 51, 42, 33, 27, 39, 14, 21, 4, 54, 53, 29, 47, 22, 7, 5, 46, 15, 38, 55, 45, 28, 6, 62, 31, 30, 12, 37, 13], [9, 50, 33, 59, 19, 52, 3, 27, 1, 44, 18, 41, 2, 34, 25, 60, 43, 57, 58, 36, 35, 26, 17, 11, 23, 61, 5, 55, 38, 37, 13, 31, 6, 54, 20, 30, 62, 22, 39, 29, 12, 53, 46, 15, 14, 63, 21, 28], [58, 34, 17, 43, 3, 36, 52, 11, 50, 57, 2, 25, 51, 18, 9, 44, 27, 41, 42, 49, 19, 10, 1, 60, 7, 45, 20, 39, 22, 21, 28, 15, 53, 38, 4, 14, 46, 6, 23, 13, 63, 37, 30, 62, 61, 47, 5, 12], [42, 18, 1, 27, 52, 49, 36, 60, 34, 41, 51, 9, 35, 2, 58, 57, 11, 25, 26, 33, 3, 59, 50, 44, 54, 29, 4, 23, 6, 5, 12, 62, 37, 22, 55, 61, 30, 53, 7, 28, 47, 21, 14, 46, 45, 31, 20, 63], [26, 2, 50, 11, 36, 33, 49, 44, 18, 25, 35, 58, 19, 51, 42, 41, 60, 9, 10, 17, 52, 43, 34, 57, 38, 13, 55, 7, 53, 20, 63, 46, 21, 6, 39, 45, 14, 37, 54, 12, 31, 5, 61, 30, 29, 15, 4, 47], [18, 59, 42, 3, 57, 25, 41, 36, 10, 17, 27, 50, 11, 43, 34, 33, 52, 1, 2, 9, 44, 35, 26, 49, 30, 5, 47, 62, 45, 12, 55, 38, 13, 61, 31, 37, 6, 29, 46, 4, 23, 28, 53, 22, 21, 7, 63, 39]]
def boxN : List (List Nat) := [[14, 4, 13, 1, 2, 15, 11, 8, 3, 10, 6, 12, 5, 9, 0, 7, 0, 15, 7, 4, 14, 2, 13, 1, 10, 6, 12, 11, 9, 5, 3, 8, 4, 1, 14, 8, 13, 6, 2, 11, 15, 12, 9, 7, 3, 10, 5, 0, 15, 12, 8, 2, 4, 9, 1, 7, 5, 11, 3, 14, 10, 0, 6, 13], [15, 1, 8, 14, 6, 11, 3, 4, 9, 7, 2, 13, 12, 0, 5, 10, 3, 13, 4, 7, 15, 2, 8, 14, 12, 0, 1, 10, 6, 9, 11, 5, 0, 14, 7, 11, 10, 4, 13, 1, 5, 8, 12, 6, 9, 3, 2, 15, 13, 8, 10, 1, 3, 15, 4, 2, 11, 6, 7, 12, 0, 5, 14, 9], [10, 0, 9, 14, 6, 3, 15, 5, 1, 13, 12, 7, 11, 4, 2, 8, 13, 7, 0, 9, 3, 4, 6, 10, 2, 8, 5, 14, 12, 11, 15, 1, 13, 6, 4, 9, 8, 15, 3, 0, 11, 1, 2, 12, 5, 10, 14, 7, 1, 10, 13, 0, 6, 9, 8, 7, 4, 15, 14, 3, 11, 5, 2, 12], [7, 13, 14, 3, 0, 6, 9, 10, 1, 2, 8, 5, 11, 12, 4, 15, 13, 8, 11, 5, 6, 15, 0, 3, 4, 7, 2, 12, 1, 10, 14, 9, 10, 6, 9, 0, 12, 11, 7, 13, 15, 1, 3, 14, 5, 2, 8, 4, 3, 15, 0, 6, 10, 1, 13, 8, 9, 4, 5, 11, 12, 7, 2, 14], [2, 12, 4, 1, 7, 10, 11, 6, 8, 5, 3, 15, 13, 0, 14, 9, 14, 11, 2, 12, 4, 7, 13, 1, 5, 0, 15, 10, 3, 9, 8, 6, 4, 2, 1, 11, 10, 13, 7, 8, 15, 9, 12, 5, 6, 3, 0, 14, 11, 8, 12, 7, 1, 14, 2, 13, 6, 15, 0, 9, 10, 4, 5, 3], [12, 1, 10, 15, 9, 2, 6, 8, 0, 13, 3, 4, 14, 7, 5, 11, 10, 15, 4, 2, 7, 12, 9, 5, 6, 1, 13, 14, 0, 11, 3, 8, 9, 14, 15, 5, 2, 8, 12, 3, 7, 0, 4, 10, 1, 13, 11, 6, 4, 3, 2, 12, 9, 5, 15, 10, 11, 14, 1, 7, 6, 0, 8, 13], [4, 11, 2, 14, 15, 0, 8, 13, 3, 12, 9, 7, 5, 10, 6, 1, 13, 0, 11, 7, 4, 9, 1, 10, 14, 3, 5, 12, 2, 15, 8, 6, 1, 4, 11, 13, 12, 3, 7, 14, 10, 15, 6, 8, 0, 5, 9, 2, 6, 11, 13, 8, 1, 4, 10, 7, 9, 5, 0, 15, 14, 2, 3, 12], [13, 2, 8, 4, 6, 15, 11, 1, 10, 9, 3, 14, 5, 0, 12, 7, 1, 15, 13, 8, 10, 3, 7, 4, 12, 5, 6, 11, 0, 14, 9, 2, 7, 11, 4, 1, 9, 12, 14, 2, 0, 6, 10, 13, 15, 3, 5, 8, 2, 1, 14, 7, 4, 10, 8, 13, 15, 12, 9, 0, 3, 5, 6, 11]]
def pick (i : Nat) : List Int := pickT.getD i []

/-! ### sums and turned bits -/
def xorL (a b : List Int) : List Int := pack (fun j => gb a j ^^ gb b j) a.length
def notL (a : List Int) : List Int := pack (fun j => !gb a j) a.length
theorem xorL_length (a b : List Int) : (xorL a b).length = a.length := pack_length _ _
theorem xorL_bytes (a b : List Int) : Bytes (xorL a b) := pack_bytes _ _
theorem notL_length (a : List Int) : (notL a).length = a.length := pack_length _ _
theorem notL_bytes (a : List Int) : Bytes (notL a) := pack_bytes _ _
theorem gb_xorL (a b : List Int) (h : a.length = b.length) (j : Nat) : gb (xorL a b) j = (gb a j ^^ gb b j) := by
  unfold xorL
  rw [gb_pack]
  by_cases hj : j < 8 * a.length
  · simp [hj]
  · rw [gb_beyond a j (by omega), gb_beyond b j (by omega)]; simp
theorem gb_notL (a : List Int) (j : Nat) (hj : j < 8 * a.length) : gb (notL a) j = !gb a j := by
  unfold notL
  rw [gb_pack]; simp [hj]
theorem xor_back {a b : List Int} (ha : Bytes a) (h : a.length = b.length) : xorL (xorL a b) b = a := by
  refine gb_ext (xorL_bytes _ _) ha (by rw [xorL_length, xorL_length]) fun j _ => ?_
  rw [gb_xorL _ _ (by rw [xorL_length, h]), gb_xorL _ _ h]
  cases gb a j <;> cases gb b j <;> rfl
theorem xor_turned {a b : List Int} (h : a.length = b.length) : xorL (notL a) (notL b) = xorL a b := by
  refine gb_ext (xorL_bytes _ _) (xorL_bytes _ _) (by rw [xorL_length, xorL_length, notL_length]) fun j hj => ?_
  rw [xorL_length, notL_length] at hj
  rw [gb_xorL _ _ (by rw [notL_length, notL_length, h]), gb_xorL _ _ h, gb_notL _ _ hj, gb_notL _ _ (by omega)]
  cases gb a j <;> cases gb b j <;> rfl
theorem xor_not_left {a b : List Int} (h : a.length = b.length) : xorL (notL a) b = notL (xorL a b) := by
  refine gb_ext (xorL_bytes _ _) (notL_bytes _) (by rw [xorL_length, notL_length, notL_length, xorL_length]) fun j hj => ?_
  rw [xorL_length, notL_length] at hj
  rw [gb_xorL _ _ (by rw [notL_length, h]), gb_notL _ _ hj, gb_notL _ _ (by rw [xorL_length]; exact hj), gb_xorL _ _ h]
  cases gb a j <;> cases gb b j <;> rfl

/-! ### F, a round, all of them -/
def bn (b : Bool) : Nat := if b then 1 else 0
/-- Where in its box a six stands. -/
def spot (x : List Int) (i : Nat) : Nat := 16 * (2 * bn (gb x (6 * i)) + bn (gb x (6 * i + 5))) + (8 * bn (gb x (6 * i + 1)) + 4 * bn (gb x (6 * i + 2)) + 2 * bn (gb x (6 * i + 3)) + bn (gb x (6 * i + 4)))
def sval (x : List Int) (i : Nat) : Nat := (boxN.getD i []).getD (spot x i) 0
def sOut (x : List Int) : List Int := pack (fun j => (sval x (j / 4)).testBit (3 - j % 4)) 4
def FL (r k : List Int) : List Int := permL (sOut (xorL (permL r wideT) k)) mixT
abbrev Two := List Int × List Int
def rnd (s : Two) (k : List Int) : Two := (s.2, xorL s.1 (FL s.2 k))
def rounds (ks : List (List Int)) (s : Two) : Two := ks.foldl rnd s
def half (y : List Int) : Two := (y.take 4, y.drop 4)
def onceL (b : List Int) (ks : List (List Int)) : List Int := permL ((rounds ks (half (permL b firstT))).2 ++ (rounds ks (half (permL b firstT))).1) invT
def keysL (x : List Int) : List (List Int) := (List.range 16).map fun i => permL x (pick i)

theorem wide_length (r : List Int) : (permL r wideT).length = 6 := by rw [permL_length]; rfl
theorem FL_length (r k : List Int) : (FL r k).length = 4 := by unfold FL; rw [permL_length]; rfl
theorem FL_bytes (r k : List Int) : Bytes (FL r k) := permL_bytes _ _
theorem onceL_length (b : List Int) (ks : List (List Int)) : (onceL b ks).length = 8 := by unfold onceL; rw [permL_length]; rfl
theorem onceL_bytes (b : List Int) (ks : List (List Int)) : Bytes (onceL b ks) := permL_bytes _ _
/-- Two halves of four bytes. -/
structure Halves (s : Two) : Prop where
  l1 : s.1.length = 4
  l2 : s.2.length = 4
  b1 : Bytes s.1
  b2 : Bytes s.2
theorem rnd_halves {s : Two} (h : Halves s) (k : List Int) : Halves (rnd s k) := ⟨h.l2, by show (xorL _ _).length = 4; rw [xorL_length]; exact h.l1, h.b2, xorL_bytes _ _⟩
theorem rounds_halves (ks : List (List Int)) : ∀ {s : Two}, Halves s → Halves (rounds ks s) := by
  induction ks with
  | nil => intro s h; exact h
  | cons k ks ih => intro s h; exact ih (rnd_halves h k)
theorem bytes_drop {b : List Int} (h : Bytes b) (n : Nat) : Bytes (b.drop n) := fun x hx => h x (List.mem_of_mem_drop hx)
theorem bytes_append {a b : List Int} (ha : Bytes a) (hb : Bytes b) : Bytes (a ++ b) := fun x hx => (List.mem_append.1 hx).elim (ha x) (hb x)
theorem half_halves (b : List Int) : Halves (half (permL b firstT)) := by
  have hl : (permL b firstT).length = 8 := by rw [permL_length]; rfl
  exact ⟨by show ((permL b firstT).take 4).length = 4; rw [List.length_take]; omega, by show ((permL b firstT).drop 4).length = 4; rw [List.length_drop]; omega, bytes_take (permL_bytes _ _) _, bytes_drop (permL_bytes _ _) _⟩
/-- A round, of what a round made, its halves exchanged: what was, exchanged. -/
theorem rnd_back {s : Two} (h : Halves s) (k : List Int) : rnd (rnd s k).swap k = s.swap := by
  unfold rnd
  simp only [Prod.swap]
  rw [xor_back h.b1 (by rw [h.l1, FL_length])]
theorem rounds_append (a b : List (List Int)) (s : Two) : rounds (a ++ b) s = rounds b (rounds a s) := by unfold rounds; rw [List.foldl_append]
theorem rounds_back (ks : List (List Int)) : ∀ {s : Two}, Halves s → rounds ks.reverse (rounds ks s).swap = s.swap := by
  induction ks with
  | nil => intro s _; rfl
  | cons k ks ih =>
    intro s h
    have h1 : rounds (k :: ks) s = rounds ks (rnd s k) := rfl
    rw [List.reverse_cons, rounds_append, h1, ih (rnd_halves h k)]
    exact rnd_back h k
theorem first_bij : Bij 64 firstT := Ord.bij (by unfold Ord; decide +kernel)
theorem first_inv : invL firstT = (invT, true) := by decide +kernel
theorem inv_first : invL invT = (firstT, true) := bij_inv_inv 64 _ _ first_bij first_inv
theorem inv_bij : Bij 64 invT := Ord.bij (by unfold Ord; decide +kernel)
theorem half_glue {s : Two} (h : Halves s) : half (s.2 ++ s.1) = s.swap := by
  unfold half
  rw [List.take_left' h.l2, List.drop_left' h.l2]
  rfl
/-- BACK OF THERE IS WHAT IT WAS. -/
theorem once_back {b : List Int} (hb : Bytes b) (hl : b.length = 8) (ks : List (List Int)) : onceL (onceL b ks) ks.reverse = b := by
  have h0 := half_halves b
  have h1 := rounds_halves ks h0
  have e1 : permL (onceL b ks) firstT = (rounds ks (half (permL b firstT))).2 ++ (rounds ks (half (permL b firstT))).1 := by
    unfold onceL
    exact perm_back (bytes_append h1.b2 h1.b1) (by rw [List.length_append, h1.l1, h1.l2]) inv_bij inv_first
  have e2 : rounds ks.reverse (half (permL (onceL b ks) firstT)) = (half (permL b firstT)).swap := by
    rw [e1, half_glue h1, rounds_back ks h0]
  have e3 : onceL (onceL b ks) ks.reverse = permL ((rounds ks.reverse (half (permL (onceL b ks) firstT))).2 ++ (rounds ks.reverse (half (permL (onceL b ks) firstT))).1) invT := rfl
  rw [e3, e2]
  show permL ((half (permL b firstT)).1 ++ (half (permL b firstT)).2) invT = b
  unfold half
  rw [List.take_append_drop]
  exact perm_back hb (by rw [hl]) first_bij first_inv

/-! ### what follows -/
/-- The numbers of a table lie in so many bits. -/
def inT (n : Nat) (t : List Int) : Bool := t.all fun x => decide (1 ≤ x) && decide (x ≤ (n : Int))
theorem inT_get {n : Nat} {t : List Int} (h : inT n t = true) {j : Nat} (hj : j < t.length) : 1 ≤ t.getD j 0 ∧ t.getD j 0 ≤ n := by
  have := List.all_eq_true.1 h _ (getD_mem hj)
  simpa using this
theorem okT_of {n : Nat} {t b : List Int} (h : inT n t = true) (hb : n = 8 * b.length) : okT b t = true := by
  subst hb
  unfold inT at h
  unfold okT
  rw [List.all_eq_true] at h ⊢
  intro x hx
  have := h x hx
  simp only [Bool.and_eq_true, decide_eq_true_eq] at this ⊢
  omega
theorem perm_not {b t : List Int} (h : inT (8 * b.length) t = true) (h8 : t.length % 8 = 0) : permL (notL b) t = notL (permL b t) := by
  refine gb_ext (permL_bytes _ _) (notL_bytes _) (by rw [permL_length, notL_length, permL_length]) fun j hj => ?_
  rw [permL_length] at hj
  have hjt : j < t.length := by omega
  have hr := inT_get h hjt
  rw [gb_permL, gb_notL b _ (by omega), gb_notL (permL b t) _ (by rw [permL_length]; exact hj), gb_permL]
  simp [hjt]
theorem perm_append_not (a b : List Int) : notL a ++ notL b = notL (a ++ b) := by
  refine gb_ext (bytes_append (notL_bytes _) (notL_bytes _)) (notL_bytes _) (by rw [List.length_append, notL_length, notL_length, notL_length, List.length_append]) fun j hj => ?_
  rw [List.length_append, notL_length, notL_length] at hj
  rw [gb_notL _ _ (by rw [List.length_append]; exact hj)]
  have app : ∀ (x y : List Int) (j : Nat), gb (x ++ y) j = if j < 8 * x.length then gb x j else gb y (j - 8 * x.length) := by
    intro x y j
    unfold gb
    rw [List.getD_eq_getElem?_getD, List.getElem?_append]
    by_cases hj : j < 8 * x.length
    · rw [if_pos hj, if_pos (by omega), List.getD_eq_getElem?_getD]
    · rw [if_neg hj, if_neg (by omega), List.getD_eq_getElem?_getD, show (j - 8 * x.length) / 8 = j / 8 - x.length by omega, show (j - 8 * x.length) % 8 = j % 8 by omega]
  rw [app, app, notL_length]
  by_cases hja : j < 8 * a.length
  · rw [if_pos hja, if_pos hja, gb_notL _ _ hja]
  · rw [if_neg hja, if_neg hja, gb_notL _ _ (by omega)]
theorem take_not (a : List Int) (n : Nat) : (notL a).take n = notL (a.take n) := by
  have h := perm_append_not (a.take n) (a.drop n)
  rw [List.take_append_drop] at h
  rw [← h]
  by_cases hn : n ≤ a.length
  · rw [List.take_left' (by rw [notL_length, List.length_take]; omega)]
  · rw [List.drop_eq_nil_of_le (by omega)]
    rw [show notL ([] : List Int) = [] from rfl, List.append_nil, List.take_of_length_le (by rw [notL_length, List.length_take]; omega)]
theorem drop_not (a : List Int) (n : Nat) : (notL a).drop n = notL (a.drop n) := by
  have h := perm_append_not (a.take n) (a.drop n)
  rw [List.take_append_drop] at h
  rw [← h]
  by_cases hn : n ≤ a.length
  · rw [List.drop_left' (by rw [notL_length, List.length_take]; omega)]
  · have e1 : (notL (a.take n) ++ notL (a.drop n)).drop n = [] := List.drop_eq_nil_of_le (by rw [List.length_append, notL_length, notL_length, List.length_take, List.length_drop]; omega)
    have e2 : a.drop n = [] := List.drop_eq_nil_of_le (by omega)
    rw [e1, e2]
    rfl
theorem FL_not {r k : List Int} (hr : r.length = 4) (hk : k.length = 6) : FL (notL r) (notL k) = FL r k := by
  unfold FL
  rw [perm_not (b := r) (by rw [hr]; decide +kernel) (by decide +kernel), xor_turned (by rw [wide_length, hk])]
def nots (s : Two) : Two := (notL s.1, notL s.2)
theorem rnd_not {s : Two} (h : Halves s) {k : List Int} (hk : k.length = 6) : rnd (nots s) (notL k) = nots (rnd s k) := by
  unfold rnd nots
  rw [FL_not h.l2 hk, xor_not_left (by rw [h.l1, FL_length])]
theorem rounds_not (ks : List (List Int)) (hk : ∀ k ∈ ks, k.length = 6) : ∀ {s : Two}, Halves s → rounds (ks.map notL) (nots s) = nots (rounds ks s) := by
  induction ks with
  | nil => intro s _; rfl
  | cons k ks ih =>
    intro s h
    show rounds (ks.map notL) (rnd (nots s) (notL k)) = nots (rounds ks (rnd s k))
    rw [rnd_not h (hk k List.mem_cons_self)]
    exact ih (fun q hq => hk q (List.mem_cons_of_mem _ hq)) (rnd_halves h k)
/-- ALL BITS OTHERS: of a block and keys with all bits others all bits of what is made are others. -/
theorem once_not {b : List Int} (hl : b.length = 8) {ks : List (List Int)} (hk : ∀ k ∈ ks, k.length = 6) : onceL (notL b) (ks.map notL) = notL (onceL b ks) := by
  have h0 := half_halves b
  have h1 := rounds_halves ks h0
  have e0 : half (permL (notL b) firstT) = nots (half (permL b firstT)) := by
    rw [perm_not (by rw [hl]; decide +kernel) (by decide +kernel)]
    unfold half nots
    rw [take_not, drop_not]
  unfold onceL
  rw [e0, rounds_not ks hk h0]
  show permL (notL _ ++ notL _) invT = _
  rw [perm_append_not, perm_not (by rw [List.length_append, h1.l1, h1.l2]; decide +kernel) (by decide +kernel)]
theorem pick_in (i : Nat) (hi : i < 16) : inT 64 (pick i) = true ∧ (pick i).length = 48 ∧ ((pick i).all fun x => decide (x % 8 ≠ 0)) = true := by
  have h : ∀ i : Fin 16, inT 64 (pick i.val) = true ∧ (pick i.val).length = 48 ∧ ((pick i.val).all fun x => decide (x % 8 ≠ 0)) = true := by decide +kernel
  exact h ⟨i, hi⟩
theorem keys_length (x : List Int) : (keysL x).length = 16 := by simp [keysL]
theorem keys_get (x : List Int) (i : Nat) (hi : i < 16) : (keysL x).getD i [] = permL x (pick i) := by
  unfold keysL
  rw [List.getD_eq_getElem?_getD, List.getElem?_map, List.getElem?_range hi]
  rfl
theorem keys_mem {x k : List Int} (h : k ∈ keysL x) : k.length = 6 ∧ Bytes k := by
  unfold keysL at h
  obtain ⟨i, hi, rfl⟩ := List.mem_map.1 h
  refine ⟨?_, permL_bytes _ _⟩
  rw [permL_length, (pick_in i (List.mem_range.1 hi)).2.1]
theorem keys_not {x : List Int} (hx : x.length = 8) : keysL (notL x) = (keysL x).map notL := by
  unfold keysL
  rw [List.map_map]
  refine List.map_congr_left fun i hi => ?_
  have h := pick_in i (List.mem_range.1 hi)
  exact perm_not (by rw [hx]; exact h.1) (by rw [h.2.1])
/-- THE LAST BIT OF EACH BYTE OF A KEY DOES NOT COUNT. -/
theorem keys_parity {x y : List Int} (h : ∀ j, j % 8 ≠ 7 → gb x j = gb y j) : keysL x = keysL y := by
  unfold keysL
  refine List.map_congr_left fun i hi => ?_
  have hp := pick_in i (List.mem_range.1 hi)
  refine gb_ext (permL_bytes _ _) (permL_bytes _ _) (by rw [permL_length, permL_length]) fun j _ => ?_
  rw [gb_permL, gb_permL]
  by_cases hj : j < (pick i).length
  · have hr := inT_get hp.1 hj
    have h8 := List.all_eq_true.1 hp.2.2 _ (getD_mem hj)
    simp only [decide_eq_true_eq] at h8
    rw [h _ (by omega)]
  · simp [hj]
/-- F BY THE SUM ALONE. -/
theorem FL_wide (a b k : List Int) (hk : k.length = 6) : FL b (xorL k (xorL (permL a wideT) (permL b wideT))) = FL a k := by
  unfold FL
  congr 2
  have la := wide_length a
  have lb := wide_length b
  refine gb_ext (xorL_bytes _ _) (xorL_bytes _ _) (by rw [xorL_length, xorL_length, la, lb]) fun j _ => ?_
  rw [gb_xorL _ _ (by rw [xorL_length, lb, hk]), gb_xorL _ _ (by rw [xorL_length, la, hk]), gb_xorL _ _ (by rw [la, lb]), gb_xorL _ _ (by rw [la, hk])]
  cases gb (permL a wideT) j <;> cases gb (permL b wideT) j <;> cases gb k j <;> rfl
end Go.Proofs.Ytnbopkmhakfmmaa.Plain
