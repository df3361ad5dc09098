/- DesTellE: what the reference of chapter 6 comes to: plain laws over the printed functions. Conditions: bytes, and bounds on lengths. -/
import Derived.Test.YtnbopkmhakfmmaaDesTellD
import Derived.Test.YtnbopkmhakfmmaaDesTellB
import Derived.Test.YtnbopkmhakfmmaaMDesk
import Derived.Test.YtnbopkmhakfmmaaMDesl
namespace Go.Proofs.Ytnbopkmhakfmmaa.Pure
open Go.RowKit Go.Proofs.Ytnbopkmhakfmmaa.MDes Go.Proofs.YtnbopkmhakfmmaaW.PrintWords Go.Proofs.YtnbopkmhakfmmaaW.PrintLast Go.Proofs.YtnbopkmhakfmmaaW.PrintMore Go.Proofs.Ytnbopkmhakfmmaa.Plain

/-! ### the reference's Keys -/
theorem perm_comp {b t u : List Int} (hu : inT t.length u = true) : permL (permL b t) u = permL b (u.map fun n => rd t (n - 1)) := by
  refine gb_ext (permL_bytes _ _) (permL_bytes _ _) (by rw [permL_length, permL_length, List.length_map]) fun j _ => ?_
  rw [gb_permL, gb_permL, gb_permL, List.length_map]
  by_cases hj : j < u.length
  · have hr := inT_get hu hj
    have e : (u.map fun n => rd t (n - 1)).getD j 0 = t.getD (u.getD j 0 - 1).toNat 0 := by
      rw [List.getD_eq_getElem?_getD, List.getElem?_map, List.getElem?_eq_getElem hj, List.getD_eq_getElem?_getD (l := u), List.getElem?_eq_getElem hj]
      rfl
    rw [e]
    have ht : (u.getD j 0 - 1).toNat < t.length := by omega
    simp only [hj, ht, decide_true, Bool.true_and]
  · simp [hj]
theorem refchosen_f (k : Nat) (hk : 100 ≤ k) : scrimref6_chosen.f k = some halvesT := at_rounds scrimref6_chosen.mono hk (by decide +kernel)
theorem last_f : scrimref6_last.f = some takenT := rfl
/-- By how much the halves are turned behind i times. -/
def byT : Nat → Nat
  | 0 => 0
  | i + 1 => byT i + byN i
def turnedT (b : Nat) : List Int := (List.range 56).map fun j => halvesT.getD (j / 28 * 28 + (j % 28 + b) % 28) 0
theorem turned_pick : ∀ i : Fin 16, (takenT.map fun n => rd (turnedT (byT (i.val + 1))) (n - 1)) = pick i.val := by decide +kernel
theorem turned_in : ∀ b : Fin 30, inT 64 (turnedT b.val) = true := by decide +kernel
theorem byT_lt : ∀ i : Fin 17, byT i.val < 30 := by decide +kernel
theorem turned_length (b : Nat) : (turnedT b).length = 56 := by simp [turnedT]
theorem half_at (j b : Nat) (hj : j < 56) (hb : b < 30) : wrap64 ((wrap64 ((wrap64 (Int.tdiv (j : Int) 28)) * 28)) + (Int.tmod (wrap64 ((wrap64 ((j : Int) - (wrap64 ((wrap64 (Int.tdiv (j : Int) 28)) * 28)))) + (b : Int))) 28)) = ((j / 28 * 28 + (j % 28 + b) % 28 : Nat) : Int) := by
  have e1 : wrap64 (Int.tdiv (j : Int) 28) = ((j / 28 : Nat) : Int) := by rw [Int.tdiv_eq_ediv_of_nonneg (by omega)]; unfold wrap64; omega
  have e2 : wrap64 (((j / 28 : Nat) : Int) * 28) = ((j / 28 * 28 : Nat) : Int) := by unfold wrap64; omega
  have e3 : wrap64 ((j : Int) - ((j / 28 * 28 : Nat) : Int)) = ((j % 28 : Nat) : Int) := by unfold wrap64; omega
  have e4 : wrap64 (((j % 28 : Nat) : Int) + (b : Int)) = ((j % 28 + b : Nat) : Int) := by unfold wrap64; omega
  have e5 : Int.tmod ((j % 28 + b : Nat) : Int) 28 = (((j % 28 + b) % 28 : Nat) : Int) := by rw [Int.tmod_eq_emod_of_nonneg (by omega)]; omega
  rw [e1, e2, e3, e4, e5]
  unfold wrap64; omega
theorem refkeys_inner (x : List Int) (x6 : List (List Int)) (x7 : Int) (b : Nat) (hb : b < 30) (R : List (List Int) × Int) (K : Nat)
    (hend : ∀ k, K ≤ k → scrimref6_Keys.l1 k x halvesT (b : Int) x6 x7 (turnedT b) 56 = some R) (d : Nat) :
    ∀ (k j : Nat), j + d = 56 → d + K ≤ k → scrimref6_Keys.l1 k x halvesT (b : Int) x6 x7 ((turnedT b).take j) (j : Int) = some R := by
  induction d with
  | zero =>
    intro k j hd hk
    obtain rfl : j = 56 := by omega
    rw [List.take_of_length_le (by rw [turned_length]; omega)]
    exact hend k (by omega)
  | succ d ih =>
    intro k j hd hk
    obtain ⟨k, rfl⟩ : ∃ m, k = m + 1 := ⟨k - 1, by omega⟩
    have hh : halvesT.length = 56 := rfl
    rw [scrimref6_Keys.l1, if_pos (by omega), half_at j b (by omega) hb, if_pos (by omega), if_pos (by rw [hh]; omega), if_pos (by rw [List.length_take, turned_length]; omega), rd_nat, w_succ (by omega)]
    have e : (turnedT b).take j ++ [halvesT.getD (j / 28 * 28 + (j % 28 + b) % 28) 0] = (turnedT b).take (j + 1) := by
      rw [List.take_succ_eq_append_getElem (by rw [turned_length]; omega)]
      congr 1
      simp [turnedT]
    rw [e]
    exact ih k (j + 1) (by omega) (by omega)
theorem refkeys_round (k : Nat) (x : List Int) (x6 : List (List Int)) (i : Nat) (hi : i < 16) : scrimref6_Keys.l0 (k + 3) x halvesT (byT i : Int) x6 ((i : Int) + 1) = scrimref6_Keys.l1 k x halvesT (byT (i + 1) : Int) x6 ((i : Int) + 1) [] 0 := by
  have hb := byT_lt ⟨i, by omega⟩
  simp only at hb
  have w2 : wrap64 ((byT i : Int) + 2) = (byT i : Int) + 2 := w_of (by omega) (by omega)
  have w1 : wrap64 ((byT i : Int) + 2 - 1) = (byT i : Int) + 1 := by unfold wrap64; omega
  have hs : byT (i + 1) = byT i + byN i := rfl
  rw [scrimref6_Keys.l0, if_pos (by omega), w2]
  by_cases h1 : i = 0
  · subst h1
    rw [if_pos (by decide), scrimref6_Keys.j1, if_pos rfl, w1, scrimref6_Keys.j2]; rfl
  · rw [if_neg (by omega)]
    by_cases h2 : i = 1
    · subst h2
      rw [if_pos (by decide), scrimref6_Keys.j1, if_pos rfl, w1, scrimref6_Keys.j2]; rfl
    · rw [if_neg (by omega)]
      by_cases h3 : i = 8
      · subst h3
        rw [if_pos (by decide), scrimref6_Keys.j1, if_pos rfl, w1, scrimref6_Keys.j2]; rfl
      · rw [if_neg (by omega)]
        by_cases h4 : i = 15
        · subst h4
          rw [show (((15 : Nat) : Int) + 1 == 16) = true from by decide, scrimref6_Keys.j1, if_pos rfl, w1, scrimref6_Keys.j2]; rfl
        · have e : ((i : Int) + 1 == 16) = false := beq_eq_false_iff_ne.2 (by omega)
          rw [e, scrimref6_Keys.j1, if_neg (by decide), scrimref6_Keys.j2, hs]
          have : byN i = 2 := by unfold byN; rw [if_neg (by omega)]
          rw [this]; rfl
theorem refkeys_loop (K0 : Nat) (hK0 : 2200 ≤ K0) (x : List Int) (hx : x.length = 8) (hb : Bytes x) (d : Nat) : ∀ (k i : Nat), i + d = 16 → d * 70 + K0 ≤ k →
    scrimref6_Keys.l0 k x halvesT (byT i : Int) ((List.range i).map fun i => permL x (pick i)) ((i : Int) + 1) = some (keysL x, 0) := by
  induction d with
  | zero =>
    intro k i hd hk
    obtain ⟨k, rfl⟩ : ∃ m, k = m + 1 := ⟨k - 1, by omega⟩
    obtain rfl : i = 16 := by omega
    rw [scrimref6_Keys.l0, if_neg (by omega)]
    rfl
  | succ d ih =>
    intro k i hd hk
    obtain ⟨k, rfl⟩ : ∃ m, k = m + 3 := ⟨k - 3, by omega⟩
    have hd1 : i + 1 + d = 16 := by omega
    have hk1 : 56 + (d * 70 + K0 + 1) ≤ k := by omega
    have hbt := byT_lt ⟨i + 1, by omega⟩
    have htp := turned_pick ⟨i, by omega⟩
    have hti := turned_in ⟨byT (i + 1), hbt⟩
    simp only at hbt htp hti
    rw [refkeys_round k x _ i (by omega)]
    have hl := turned_length (byT (i + 1))
    show scrimref6_Keys.l1 k x halvesT (byT (i + 1) : Int) _ _ ((turnedT (byT (i + 1))).take 0) ((0 : Nat) : Int) = _
    refine refkeys_inner x _ _ (byT (i + 1)) hbt _ (d * 70 + K0 + 1) (fun k hk => ?_) 56 k 0 rfl hk1
    obtain ⟨k, rfl⟩ : ∃ m, k = m + 1 := ⟨k - 1, by omega⟩
    have h7 : (permL x (turnedT (byT (i + 1)))).length = 7 := by rw [permL_length, hl]
    have htl : takenT.length = 48 := rfl
    have hin : inT 56 takenT = true := by decide +kernel
    rw [scrimref6_Keys.l1, if_neg (by decide), by_f k x _ hb (by omega) (by omega) (by rw [hx]; exact hti) (by omega), Option.bind_some, last_f, Option.bind_some,
      by_f k _ takenT (permL_bytes _ _) (by omega) (by omega) (by rw [h7]; exact hin) (by omega), Option.bind_some, perm_comp (by rw [hl]; exact hin), htp, if_pos (by rw [List.length_map, List.length_range]; omega)]
    have e : ((List.range i).map fun i => permL x (pick i)) ++ [permL x (pick i)] = (List.range (i + 1)).map fun i => permL x (pick i) := by rw [List.range_succ, List.map_append]; rfl
    have w : wrap64 ((i : Int) + 1 + 1) = ((i + 1 : Nat) : Int) + 1 := by unfold wrap64; omega
    rw [e, w]
    exact ih k (i + 1) hd1 (Nat.le_of_succ_le_succ hk)
theorem refkeys_f (k : Nat) (hk : 4000 ≤ k) (x : List Int) (hb : Bytes x) : scrimref6_Keys.f k x = some (if x.length = 8 then (keysL x, 0) else ([], 4)) := by
  unfold scrimref6_Keys.f
  by_cases h : x.length = 8
  · rw [if_pos (by omega), if_pos h, refchosen_f k (by omega), Option.bind_some]
    exact refkeys_loop 2200 (Nat.le_refl _) x h hb 16 k 0 rfl (by omega)
  · rw [if_neg (by omega), if_neg h]

/-! ### the reference's F -/
theorem wider_f (k : Nat) (hk : 100 ≤ k) : scrimref6_wider.f k = some wideT := at_rounds scrimref6_wider.mono hk (by decide +kernel)
theorem refmixed_f : scrimref6_mixed.f = some mixT := rfl
def sixI (b0 b1 b2 b3 b4 b5 : Bool) : Int := wrap64 ((wrap64 (2 * (wrap64 ((wrap64 (2 * (wrap64 ((wrap64 (2 * (wrap64 ((wrap64 (2 * (wrap64 ((wrap64 (2 * (wrap64 ((wrap64 (2 * 0)) + b2i b0)))) + b2i b1)))) + b2i b2)))) + b2i b3)))) + b2i b4)))) + b2i b5)
def rowR (six : Int) : Int := wrap64 ((wrap64 ((wrap64 (Int.tdiv six 32)) * 2)) + (Int.tmod six 2))
def placeR (six : Int) : Int := Int.tmod (wrap64 (Int.tdiv six 2)) 16
theorem rows_tell : ∀ i : Fin 8, ∃ l, scrimref6_rows.f (i.val : Int) = some l := by
  intro i
  unfold scrimref6_rows.f
  repeat' split
  all_goals exact ⟨_, rfl⟩
theorem refbox_tells : ∀ (i : Fin 8) (b0 b1 b2 b3 b4 b5 : Bool), ∃ l, scrimref6_rows.f (i.val : Int) = some l ∧ 0 ≤ rowR (sixI b0 b1 b2 b3 b4 b5) ∧ rowR (sixI b0 b1 b2 b3 b4 b5) < (l.length : Int) ∧
    scrimref6_At.f (rdOf ByteArray.empty l (rowR (sixI b0 b1 b2 b3 b4 b5))) (placeR (sixI b0 b1 b2 b3 b4 b5)) = some (((boxN.getD i.val []).getD (16 * (2 * bn b0 + bn b5) + (8 * bn b1 + 4 * bn b2 + 2 * bn b3 + bn b4)) 0 : Nat) : Int) := by
  have h : ∀ (i : Fin 8) (b0 b1 b2 b3 b4 b5 : Bool), ((scrimref6_rows.f (i.val : Int)).bind fun l => if 0 ≤ rowR (sixI b0 b1 b2 b3 b4 b5) then (if rowR (sixI b0 b1 b2 b3 b4 b5) < (l.length : Int) then scrimref6_At.f (rdOf ByteArray.empty l (rowR (sixI b0 b1 b2 b3 b4 b5))) (placeR (sixI b0 b1 b2 b3 b4 b5)) else none) else none) = some (((boxN.getD i.val []).getD (16 * (2 * bn b0 + bn b5) + (8 * bn b1 + 4 * bn b2 + 2 * bn b3 + bn b4)) 0 : Nat) : Int) := by decide +kernel
  intro i b0 b1 b2 b3 b4 b5
  obtain ⟨l, hl⟩ := rows_tell i
  have := h i b0 b1 b2 b3 b4 b5
  rw [hl, Option.bind_some] at this
  by_cases c1 : 0 ≤ rowR (sixI b0 b1 b2 b3 b4 b5)
  · rw [if_pos c1] at this
    by_cases c2 : rowR (sixI b0 b1 b2 b3 b4 b5) < (l.length : Int)
    · rw [if_pos c2] at this
      exact ⟨l, hl, c1, c2, this⟩
    · rw [if_neg c2] at this; cases this
  · rw [if_neg c1] at this; cases this
theorem shl_ref : ∀ (v : Fin 16) (h : Fin 2), shl .i64 (v.val : Int) ((4 - 4 * h.val : Nat) : Int) % 256 = shl .u8 (v.val : Int) ((4 * (1 - h.val) : Nat) : Int) := by decide +kernel
theorem reff_turn (k : Nat) (x out : List Int) (hx : Bytes x) (hxl : x.length ≤ 1000) (i : Nat) (hi : i < 8) (hl : out.length = 4) :
    scrimref6_F.l0 (k + 8) x out (i : Int) = scrimref6_F.l0 k x (outPut out i (sval x i : Nat)) ((i + 1 : Nat) : Int) := by
  have rb : ∀ (n : Nat) (m : Int), n ≤ 1000 → m = (n : Int) + 1 → scrimref2_Bit.f x m = some (b2i (gb x n)) := fun n m hn hm => by
    subst hm
    rw [refbit_f x _ (by omega) hx (by omega)]
    unfold bitv
    rw [if_pos (by omega), show ((n : Int) + 1 - 1).toNat = n by omega]
  have w6 : wrap64 (6 * (i : Int)) = 6 * (i : Int) := w_of (by omega) (by omega)
  have wj : ∀ j : Int, 0 ≤ j → j ≤ 10 → wrap64 (6 * (i : Int) + j) = 6 * (i : Int) + j := fun j h0 h1 => w_of (by omega) (by omega)
  have s1 : wrap64 (1 + 1) = 2 := by decide +kernel
  have s2 : wrap64 (2 + 1) = 3 := by decide +kernel
  have s3 : wrap64 (3 + 1) = 4 := by decide +kernel
  have s4 : wrap64 (4 + 1) = 5 := by decide +kernel
  have s5 : wrap64 (5 + 1) = 6 := by decide +kernel
  have s6 : wrap64 (6 + 1) = 7 := by decide +kernel
  have e1 : scrimref6_F.l0 (k + 8) x out (i : Int) = scrimref6_F.l1 (k + 1) x out (i : Int) (sixI (gb x (6 * i)) (gb x (6 * i + 1)) (gb x (6 * i + 2)) (gb x (6 * i + 3)) (gb x (6 * i + 4)) (gb x (6 * i + 5))) 7 := by
    rw [show k + 8 = (k + 7) + 1 from rfl, scrimref6_F.l0, if_pos (by omega)]
    rw [show k + 7 = (k + 6) + 1 from rfl, scrimref6_F.l1, if_pos (by decide), w6, wj 1 (by decide) (by decide), rb (6 * i) _ (by omega) (by omega), Option.bind_some, s1]
    rw [show k + 6 = (k + 5) + 1 from rfl, scrimref6_F.l1, if_pos (by decide), w6, wj 2 (by decide) (by decide), rb (6 * i + 1) _ (by omega) (by omega), Option.bind_some, s2]
    rw [show k + 5 = (k + 4) + 1 from rfl, scrimref6_F.l1, if_pos (by decide), w6, wj 3 (by decide) (by decide), rb (6 * i + 2) _ (by omega) (by omega), Option.bind_some, s3]
    rw [show k + 4 = (k + 3) + 1 from rfl, scrimref6_F.l1, if_pos (by decide), w6, wj 4 (by decide) (by decide), rb (6 * i + 3) _ (by omega) (by omega), Option.bind_some, s4]
    rw [show k + 3 = (k + 2) + 1 from rfl, scrimref6_F.l1, if_pos (by decide), w6, wj 5 (by decide) (by decide), rb (6 * i + 4) _ (by omega) (by omega), Option.bind_some, s5]
    rw [show k + 2 = (k + 1) + 1 from rfl, scrimref6_F.l1, if_pos (by decide), w6, wj 6 (by decide) (by decide), rb (6 * i + 5) _ (by omega) (by omega), Option.bind_some, s6]
    rfl
  rw [e1]
  obtain ⟨l, h1, h2, h3, h4⟩ := refbox_tells ⟨i, hi⟩ (gb x (6 * i)) (gb x (6 * i + 1)) (gb x (6 * i + 2)) (gb x (6 * i + 3)) (gb x (6 * i + 4)) (gb x (6 * i + 5))
  simp only at h1 h4
  have hsv : (boxN.getD i []).getD (16 * (2 * bn (gb x (6 * i)) + bn (gb x (6 * i + 5))) + (8 * bn (gb x (6 * i + 1)) + 4 * bn (gb x (6 * i + 2)) + 2 * bn (gb x (6 * i + 3)) + bn (gb x (6 * i + 4)))) 0 = sval x i := rfl
  rw [hsv] at h4
  have hlt := sval_lt x i
  generalize sval x i = v at h4 hlt ⊢
  generalize sixI (gb x (6 * i)) (gb x (6 * i + 1)) (gb x (6 * i + 2)) (gb x (6 * i + 3)) (gb x (6 * i + 4)) (gb x (6 * i + 5)) = six at h2 h3 h4 ⊢
  unfold rowR at h2 h3 h4
  unfold placeR at h4
  have e2 : wrap64 (Int.tdiv (i : Int) 2) = ((i / 2 : Nat) : Int) := by rw [Int.tdiv_eq_ediv_of_nonneg (by omega)]; unfold wrap64; omega
  have e3 : IntKind.u64.wrap (wrap64 (4 - (wrap64 (4 * (Int.tmod (i : Int) 2))))) = ((4 - 4 * (i % 2) : Nat) : Int) := by
    rw [Int.tmod_eq_emod_of_nonneg (by omega), w_of (x := 4 * ((i : Int) % 2)) (by omega) (by omega), w_of (by omega) (by omega)]
    simp [IntKind.wrap, IntKind.bits, IntKind.signed]; omega
  have e4 := shl_ref ⟨v, hlt⟩ ⟨i % 2, by omega⟩
  simp only at e4
  rw [scrimref6_F.l1, if_neg (by decide), h1, Option.bind_some, if_pos h2, if_pos h3, h4, Option.bind_some, e2, if_pos (by omega), if_pos (by omega), e3, if_pos (by omega), e4, Int.toNat_natCast, w_succ (by omega)]
  unfold outPut
  rfl
theorem reff_loop (x : List Int) (hx : Bytes x) (hxl : x.length ≤ 1000) (d : Nat) : ∀ (k i : Nat) (out : List Int), i + d = 8 → d * 8 + 2200 ≤ k → out.length = 4 → Bytes out → (∀ j, gb out j = (decide (j < 4 * i) && (sval x (j / 4)).testBit (3 - j % 4))) →
    scrimref6_F.l0 k x out (i : Int) = some (permL (sOut x) mixT, true) := by
  induction d with
  | zero =>
    intro k i out hd hk hl hb hg
    obtain ⟨k, rfl⟩ : ∃ m, k = m + 1 := ⟨k - 1, by omega⟩
    obtain rfl : i = 8 := by omega
    have e : out = sOut x := gb_ext hb (sOut_bytes x) (by rw [hl, sOut_length]) fun j hj => by
      rw [hg]
      unfold sOut
      rw [gb_pack]
    have hs := sOut_length x
    have hm : mixT.length = 32 := rfl
    rw [e, scrimref6_F.l0, if_neg (by decide), refmixed_f, Option.bind_some, by_f k _ mixT (sOut_bytes x) (by omega) (by omega) (by rw [hs]; decide +kernel) (by omega), Option.bind_some]
  | succ d ih =>
    intro k i out hd hk hl hb hg
    obtain ⟨k, rfl⟩ : ∃ m, k = m + 8 := ⟨k - 8, by omega⟩
    obtain ⟨h1, h2, h3⟩ := outPut_gb x out hl hb i (by omega) hg
    rw [reff_turn k x out hx hxl i (by omega) hl]
    exact ih k (i + 1) _ (by omega) (by omega) h1 h2 h3
theorem refF_f (k : Nat) (hk : 3000 ≤ k) (r q : List Int) (hr : Bytes r) (hq : Bytes q) : scrimref6_F.f k r q = some (if r.length = 4 ∧ q.length = 6 then (FL r q, true) else ([], false)) := by
  obtain ⟨k, rfl⟩ : ∃ m, k = m + 1 := ⟨k - 1, by omega⟩
  unfold scrimref6_F.f
  by_cases h1 : r.length = 4
  · rw [if_pos (by omega)]
    by_cases h2 : q.length = 6
    · have e : ((q.length : Int) != 6) = false := by rw [h2]; rfl
      have hw := wide_length r
      have hx := xorL_length (permL r wideT) q
      have hwt : wideT.length = 48 := rfl
      rw [e, if_pos ⟨h1, h2⟩, scrimref6_F.j0, if_neg (by decide), wider_f k (by omega), Option.bind_some, by_f k r wideT hr (by omega) (by omega) (by rw [h1]; decide +kernel) (by omega), Option.bind_some,
        both_f k _ q (permL_bytes _ _) hq (by rw [wide_length, h2]) (by omega) (by omega), Option.bind_some, if_pos (by decide)]
      exact reff_loop _ (xorL_bytes _ _) (by omega) 8 k 0 _ (by omega) (by omega) (by simp) (bytes_replicate 4) (fun j => by rw [gb_replicate]; simp)
    · have e : ((q.length : Int) != 6) = true := bne_iff_ne.2 (by omega)
      rw [e, if_neg (fun h => h2 h.2), scrimref6_F.j0, if_pos rfl]
  · rw [if_neg (by omega), if_neg (fun h => h1 h.1), scrimref6_F.j0, if_pos rfl]

end Go.Proofs.Ytnbopkmhakfmmaa.Pure
