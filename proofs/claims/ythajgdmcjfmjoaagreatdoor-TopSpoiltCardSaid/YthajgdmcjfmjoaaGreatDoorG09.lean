/- TopSpoilt, part 9 of 38 of its proof: a relative machine (values, memory, an evaluator, all sound against the model), and by it the walks. Conditions: none. -/
import Derived.Test.YthajgdmcjfmjoaaGreatDoorG08
set_option linter.all false
namespace Go.Proofs.YthajgdmcjfmjoaaGreatDoor.Rel
section
def PmB (x:List Int) (T:List Nat) (k:Nat) (out:List Int):Prop:=Bytes out ∧ (∀ i,i < k → i < 8 * out.length → bitF out i = bitF x ((T[i]?).getD 1 - 1)) ∧ ∀ i,k ≤ i → i < 8 * out.length → bitF out i = 0
theorem bit_nat {y r:Nat}:(y / 2 ^ r % 2 = 1) ↔ y.testBit r = true:=by
 rw [Nat.testBit_eq_decide_div_mod_eq,decide_eq_true_eq]
theorem bitF_nat {x:List Int} {i:Nat} {y:Nat} (h:x[i / 8]? = some (y:Int)):bitF x i = if y.testBit (7 - i % 8) = true then 1 else 0:=by
 unfold bitF
 rw [h,Option.getD_some]
 have e:(y:Int) / ((2 ^ (7 - i % 8):Nat):Int) % 2 = ((y / 2 ^ (7 - i % 8) % 2:Nat):Int):=rfl
 rw [e]
 have h2:=@bit_nat y (7 - i % 8)
 split
 ·rename_i hb; rw [h2.2 hb]; rfl
 ·rename_i hb
  have:¬ y / 2 ^ (7 - i % 8) % 2 = 1:=fun e => hb (h2.1 e)
  have:y / 2 ^ (7 - i % 8) % 2 = 0:=by omega
  rw [this]; rfl
theorem pm_step {x:List Int} {T:List Nat} {k:Nat} {out:List Int} (h:PmB x T k out) (hk:k < 8 * out.length):PmB x T (k + 1) (pmStep x T k out):=by
 obtain ⟨hb,h1,h2⟩:=h
 have hkl:k / 8 < out.length:=by omega
 have hx:out[k / 8]? = some out[k / 8]:=List.getElem?_eq_getElem hkl
 have hin:=hb _ (List.getElem_mem hkl)
 obtain ⟨y,hy⟩:=Int.eq_ofNat_of_zero_le hin.1
 have hbi:=bitF_in x ((T[k]?).getD 1 - 1)
 have hst:pmStep x T k out = out.set (k / 8) ((y ||| (bitF x ((T[k]?).getD 1 - 1)).toNat * 2 ^ (7 - k % 8):Nat):Int):=by
  unfold pmStep pmV
  rw [hx,Option.getD_some,hy,Int.toNat_natCast]
 have hlen:(pmStep x T k out).length = out.length:=by simp [pmStep]
 have key:∀ i,i < 8 * out.length → bitF (pmStep x T k out) i = if i = k then (if y.testBit (7 - k % 8) = true then 1 else bitF x ((T[k]?).getD 1 - 1)) else bitF out i:=by
  intro i hi
  by_cases hik:i / 8 = k / 8
  ·have hg:(pmStep x T k out)[i / 8]? = some ((y ||| (bitF x ((T[k]?).getD 1 - 1)).toNat * 2 ^ (7 - k % 8):Nat):Int):=by
    rw [hst,hik,List.getElem?_set_self hkl]
   rw [bitF_nat hg,Nat.testBit_or]
   have ho:bitF out i = if y.testBit (7 - i % 8) = true then 1 else 0:=bitF_nat (by rw [hik,hx,hy])
   rcases (show bitF x ((T[k]?).getD 1 - 1) = 0 ∨ bitF x ((T[k]?).getD 1 - 1) = 1 by omega) with e | e
   ·rw [e,ho]
    simp only [Int.toNat_zero,Nat.zero_mul,Nat.zero_testBit,Bool.or_false]
    by_cases hik2:i = k
    ·subst hik2; simp
    ·simp [hik2]
   ·rw [e,ho]
    simp only [Int.toNat_one,Nat.one_mul,Nat.testBit_two_pow]
    by_cases hik2:i = k
    ·subst hik2; simp
    ·have:¬ (7 - k % 8 = 7 - i % 8):=by omega
     simp [hik2,this]
  ·have:bitF (pmStep x T k out) i = bitF out i:=by
    unfold bitF
    rw [hst,List.getElem?_set_ne (Ne.symm hik)]
   rw [this,if_neg (by rintro rfl; exact hik rfl)]
 have hk0:y.testBit (7 - k % 8) = false:=by
  have h0:=h2 k (Nat.le_refl _) hk
  rw [bitF_nat (by rw [hx,hy])] at h0
  cases hb:y.testBit (7 - k % 8) with
  | false => rfl
  | true => rw [hb] at h0; simp at h0
 refine ⟨?_,?_,?_⟩
 ·intro n hn
  rcases List.mem_or_eq_of_mem_set (by unfold pmStep at hn; exact hn) with hn | rfl
  ·exact hb n hn
  ·rw [hx,Option.getD_some]; exact pmV_in hin.1 hin.2
 ·intro i hi hil
  rw [hlen] at hil
  rw [key i hil]
  split
  ·rename_i e; subst e; rw [hk0]; simp
  ·exact h1 i (by omega) hil
 ·intro i hi hil
  rw [hlen] at hil
  rw [key i hil,if_neg (by omega)]
  exact h2 i (by omega) hil
theorem pm_bits {x:List Int} {T:List Nat}:∀ (n k:Nat) (out:List Int),PmB x T k out → k + n ≤ 8 * out.length → PmB x T (k + n) (pmF x T n k out)
 | 0,_,_,h,_ => h
 | n + 1,k,out,h,hk => by
  rw [pmF,show k + (n + 1) = k + 1 + n by omega]
  exact pm_bits n (k + 1) _ (pm_step h (by omega)) (by simp only [pmStep,List.length_set]; omega)
theorem pmOut_bits {x:List Int} {T:List Nat}:Bytes (pmOut x T) ∧ ∀ i,i < T.length → bitF (pmOut x T) i = bitF x ((T[i]?).getD 1 - 1):=by
 have h0:PmB x T 0 (List.replicate ((T.length + 7) / 8) 0):=by
  refine ⟨fun n hn => by have:=(List.mem_replicate.1 hn).2; omega,fun i hi => by omega,fun i _ hi => ?_⟩
  simp only [List.length_replicate] at hi
  have:(List.replicate ((T.length + 7) / 8) (0:Int))[i / 8]? = some ((0:Nat):Int):=by rw [List.getElem?_replicate,if_pos (by omega)]; rfl
  rw [bitF_nat this]; simp
 have h:=pm_bits T.length 0 _ h0 (by simp only [List.length_replicate]; omega)
 rw [Nat.zero_add] at h
 refine ⟨h.1,fun i hi => h.2.1 i hi ?_⟩
 have:=pmOut_len x T
 unfold pmOut at this
 rw [this]; omega
theorem bytes_ext {x y:List Int} (hl:x.length = y.length) (hx:Bytes x) (hy:Bytes y) (h:∀ i,i < 8 * x.length → bitF x i = bitF y i):x = y:=by
 apply List.ext_getElem hl
 intro j h1 h2
 obtain ⟨a,ha⟩:=Int.eq_ofNat_of_zero_le (hx _ (List.getElem_mem h1)).1
 obtain ⟨b,hb⟩:=Int.eq_ofNat_of_zero_le (hy _ (List.getElem_mem h2)).1
 have ha':=(hx _ (List.getElem_mem h1)).2
 have hb':=(hy _ (List.getElem_mem h2)).2
 rw [ha,hb]
 have e:a = b:=by
  apply Nat.eq_of_testBit_eq
  intro r
  by_cases hr:r < 8
  ·have:=h (8 * j + (7 - r)) (by omega)
   have e1:(8 * j + (7 - r)) / 8 = j:=by omega
   have e2:7 - (8 * j + (7 - r)) % 8 = r:=by omega
   rw [bitF_nat (y:=a) (by rw [e1,List.getElem?_eq_getElem h1,ha]),bitF_nat (y:=b) (by rw [e1,List.getElem?_eq_getElem h2,hb]),e2] at this
   cases ea:a.testBit r <;> cases eb:b.testBit r <;> rw [ea,eb] at this <;> simp at this ⊢
  ·have h256:2 ^ 8 ≤ 2 ^ r:=Nat.pow_le_pow_right (by decide) (by omega)
   rw [Nat.testBit_lt_two_pow (by omega),Nat.testBit_lt_two_pow (by omega)]
 rw [e]
theorem pm_back {x:List Int} {T U:List Nat} {n:Nat} (hx:x.length = n) (hb:Bytes x) (hT:T.length = 8 * n) (hU:U.length = 8 * n) (h:∀ i,i < 8 * n → (T[(U[i]?).getD 1 - 1]?).getD 1 = i + 1 ∧ (U[i]?).getD 1 - 1 < 8 * n):pmOut (pmOut x T) U = x:=by
 have l1:=pmOut_len x T
 have l2:=pmOut_len (pmOut x T) U
 refine bytes_ext (by omega) pmOut_bits.1 hb fun i hi => ?_
 have hi':i < 8 * n:=by omega
 rw [pmOut_bits.2 i (by omega),pmOut_bits.2 _ (by have:=(h i hi').2; omega),(h i hi').1,Nat.add_sub_cancel]
end
section
open Go.Proofs
noncomputable section
theorem GrowL.g {M M':Mem} {T:List Nat} (h:GrowL M M' T) {b:Nat} {k:Blk} (hk:M[b]? = some k) (hb:b ∉ T):M'[b]? = some k:=by
 by_cases e:M'[b]? = M[b]?
 ·rw [e]; exact hk
 ·exact absurd (h.same b (List.getElem?_eq_some_iff.1 hk).1 e) hb
theorem GrowL.g0 {M M':Mem} (h:GrowL M M' []) {b:Nat} {k:Blk} (hk:M[b]? = some k):M'[b]? = some k:=h.g hk (by simp)
theorem GrowL.tr {M M1 M2:Mem} {T:List Nat} (h:GrowL M M1 T) (h':GrowL M1 M2 []):GrowL M M2 T:=by
 refine ⟨Nat.le_trans h.le h'.le,fun b hb hne => ?_,fun b cs hb => h.ro b cs (h'.ro b cs hb),fun b cs hb => h'.keep b cs (h.keep b cs hb),h.own⟩
 by_cases e:M2[b]? = M1[b]?
 ·exact h.same b hb (by rwa [e] at hne)
 ·exact absurd (h'.same b (Nat.lt_of_lt_of_le hb h.le) e) (by simp)
theorem GrowL.st {M M1:Mem} {T:List Nat} (h:GrowL M M1 T) {b:Nat} (hb:M.length ≤ b) {k0 k:Blk} (hk0:M1[b]? = some k0) (hr:∀ cs,k ≠ .ro cs):GrowL M (M1.set b k) T:=by
 have hlt:=(List.getElem?_eq_some_iff.1 hk0).1
 refine ⟨by rw [List.length_set]; exact h.le,fun i hi hne => ?_,fun i cs hi => ?_,fun i cs hi => ?_,h.own⟩
 ·rw [List.getElem?_set_ne (by omega)] at hne; exact h.same i hi hne
 ·by_cases e:b = i
  ·subst e; rw [List.getElem?_set_self hlt] at hi; injection hi with hi; exact absurd hi (hr cs)
  ·rw [List.getElem?_set_ne e] at hi; exact h.ro i cs hi
 ·by_cases e:b = i
  ·have:=(List.getElem?_eq_some_iff.1 hi).1; omega
  ·rw [List.getElem?_set_ne e]; exact h.keep i cs hi
theorem GrowL.ch {M:Mem} {b:Nat} {k0 k:Blk} (hk0:M[b]? = some k0) (hr0:∀ cs,k0 ≠ .ro cs) (hr:∀ cs,k ≠ .ro cs):GrowL M (M.set b k) [b]:=by
 have hlt:=(List.getElem?_eq_some_iff.1 hk0).1
 refine ⟨by rw [List.length_set]; exact Nat.le_refl _,fun i hi hne => ?_,fun i cs hi => ?_,fun i cs hi => ?_,fun i hi cs h => ?_⟩
 ·by_cases e:b = i
  ·simp [e]
  ·rw [List.getElem?_set_ne e] at hne; exact absurd rfl hne
 ·by_cases e:b = i
  ·subst e; rw [List.getElem?_set_self hlt] at hi; injection hi with hi; exact absurd hi (hr cs)
  ·rw [List.getElem?_set_ne e] at hi; exact hi
 ·by_cases e:b = i
  ·subst e; rw [hk0] at hi; injection hi with hi; exact absurd hi (hr0 cs)
  ·rw [List.getElem?_set_ne e]; exact hi
 ·simp only [List.mem_singleton] at hi; subst hi
  rw [hk0] at h; injection h with h; exact hr0 cs h
theorem GrowL.one (M:Mem) (cs:List V) (g:Nat):GrowL M (M ++ [.own cs g]) []:=GrowL.app _ _ (by simp)
theorem GrowL.two (M:Mem) (cs ds:List V) (g g':Nat):GrowL M (M ++ [.own cs g,.own ds g']) []:=GrowL.app _ _ (by simp)
theorem rd_own {M:Mem} {b o n:Nat} {cs:List V} {g:Nat} (h:M[b]? = some (.own cs g)) (hn:o + n ≤ cs.length):rd M b o n = some ((cs.drop o).take n):=by
 unfold rd; rw [h]; simp only [Option.bind_some,Blk.cells,if_pos hn]
theorem rd_own0 {M:Mem} {b n:Nat} {cs:List V} {g:Nat} (h:M[b]? = some (.own cs g)) (hn:cs.length = n):rd M b 0 n = some cs:=by
 rw [rd_own h (by omega)]; simp [← hn]
theorem rd_grow {M M':Mem} {T:List Nat} (h:GrowL M M' T) {b o n:Nat} {cs:List V} (hr:rd M b o n = some cs) (hb:b ∉ T):rd M' b o n = some cs:=by
 obtain ⟨k,hk,_⟩:=rd_row hr
 unfold rd at hr ⊢
 rw [h.g hk hb]; rw [hk] at hr; exact hr
theorem wr_own {M:Mem} {b o:Nat} {cs:List V} {g:Nat} {v:V} (h:M[b]? = some (.own cs g)) (ho:o < cs.length) (hv:v.one = true):wr M b o [v] = some (M.set b (.own (cs.set o v) g)):=by
 simp only [wr,h,List.length_singleton,List.all_cons,List.all_nil,hv,Bool.and_self,and_true]
 rw [if_pos (by omega)]
 congr 3
 rw [List.set_eq_take_append_cons_drop,if_pos ho]
 simp
theorem set_get {M:Mem} {b:Nat} {k k0:Blk} (h:M[b]? = some k0):(M.set b k)[b]? = some k:=List.getElem?_set_self (List.getElem?_eq_some_iff.1 h).1
theorem set_ne {M:Mem} {b c:Nat} {k:Blk} (h:b ≠ c):(M.set b k)[c]? = M[c]?:=List.getElem?_set_ne h
theorem app_last {M:Mem} {k:Blk}:(M ++ [k])[M.length]? = some k:=by simp
theorem lt_of {M:Mem} {b:Nat} {k:Blk} (h:M[b]? = some k):b < M.length:=(List.getElem?_eq_some_iff.1 h).1
theorem LimP.grow {M M':Mem} {T:List Nat} (h:GrowL M M' T) {b o len:Nat} {lim:Option Nat} (hl:LimP M b o len lim) (hb:b < M.length) (ht:b ∉ T):LimP M' b o len lim:=by
 cases lim with
 | some c => exact hl
 | none =>
  show o + len ≤ known M' b
  have hl:o + len ≤ known M b:=hl
  have:M'[b]? = M[b]?:=by
   by_cases e:M'[b]? = M[b]?
   ·exact e
   ·exact absurd (h.same b hb e) ht
  unfold known at hl ⊢
  rw [this]; exact hl
section
variable {ρ:Operand → Option V} {M M':Mem} {x y:Operand} {a b v:V} {t:TypeId}
theorem st_ex {i:Nat} {vs:List V} (hx:ρ x = some (.tup vs)) (h:vs[i]? = some v):astep noX tyF ρ M (.extract x i) = some (.pure v):=by
 simp only [astep,aExtract,hx,h,Option.map_some]
theorem st_call {f:Operand} {g:Nat} {args:Array Operand} {ts:Array TypeId} {al:List V} (hf:ρ f = some (.fn g [])) (ha:evs ρ args.toList = some al):astep noX tyF ρ M (.call ⟨.value f,args,ts⟩) = some (.call g al):=by
 simp only [astep,aCall,aCallV,hf,ha,Option.map_some,List.nil_append]
theorem st_callf {f:Operand} {g:Nat} {args:Array Operand} {ts:Array TypeId} {fs al:List V} (hf:ρ f = some (.fn g fs)) (ha:evs ρ args.toList = some al):astep noX tyF ρ M (.call ⟨.value f,args,ts⟩) = some (.call g (fs ++ al)):=by
 simp only [astep,aCall,aCallV,hf,ha,Option.map_some]
structure ElT (t:TypeId) (z:V) (q:Nat):Prop where
 h:∃ d e,tyF t = some d ∧ d.kind = .slice e ∧ elem1 tyF d = some (z,q)
theorem el22:ElT 22 (.int .u8 0) 1:=⟨_,_,rfl,rfl,rfl⟩
theorem el56:ElT 56 (.int .i64 0) 8:=⟨_,_,rfl,rfl,rfl⟩
theorem el36:ElT 36 .nilsl 24:=⟨_,_,rfl,rfl,rfl⟩
theorem st_mk {z:V} {q l c:Nat} (ht:ElT t z q) (hq:q ≤ 24) (hx:ρ x = some (.int .i64 l)) (hy:ρ y = some (.int .i64 c)) (h1:l ≤ c) (h2:c ≤ 1000000):astep noX tyF ρ M (.makeSlice t x y) = some (.val (.sl M.length 0 l (some c)) (M ++ [.own (List.replicate c z) 0])):=by
 obtain ⟨d,e,e1,e2,e3⟩:=ht.h
 have hm:(c:Int) * (q:Nat) ≤ 1000000 * 24:=Int.mul_le_mul (by omega) (by omega) (by omega) (by omega)
 have hc:0 ≤ (l:Int) ∧ (l:Int) ≤ c ∧ (c:Int) * (q:Nat) ≤ 2 ^ 48 ∧ (c:Int) < 2 ^ 63:=by omega
 simp only [astep,aMake,e1,Option.bind_some,hx,hy,makeV,e3]
 rw [if_pos hc]
 simp only [Int.toNat_natCast]
theorem st_bs0 {z:V} {q:Nat} (ht:ElT t z q):astep noX tyF ρ M (.buildSlice t 0 #[]) = some (.val (.sl M.length 0 0 (some 0)) (M ++ [.own [] 0])):=by
 obtain ⟨d,e,e1,e2,e3⟩:=ht.h
 simp [astep,aBuildS,e1,evp,buildSliceV,e3,afill]
theorem st_bs1 {z:V} {q:Nat} (ht:ElT t z q) (hx:ρ x = some v) (hv:cellsOf v = [v]):astep noX tyF ρ M (.buildSlice t 1 #[(0,x)]) = some (.val (.sl M.length 0 1 (some 1)) (M ++ [.own [v] 0])):=by
 obtain ⟨d,e,e1,e2,e3⟩:=ht.h
 simp [astep,aBuildS,e1,evp,hx,buildSliceV,e3,afill,hv]
theorem st_ap {z:V} {q:Nat} {s n:V} {l:List V} {r:R} (ht:ElT t z q) (hx:ρ x = some s) (hy:ρ y = some n) (hn:newsV M n = some l) (hr:appendV M (z,q) s l = some r):astep noX tyF ρ M (.call ⟨.builtin .append,#[x,y],#[t,t]⟩) = some r:=by
 obtain ⟨d,e,e1,e2,e3⟩:=ht.h
 simp only [astep,aCall,aAppend,e1,Option.bind_some,e3,hx,hy,e2,hn,hr]
theorem ap_nil {z:V} {q:Nat} {l:List V} (h0:l ≠ []) (hl:l.length ≤ 1000000) (hq:1 ≤ q ∧ q ≤ 24):appendV M (z,q) .nilsl l = some (.val (.sl M.length 0 l.length none) (M ++ [.own l 1])):=by
 have:l.length * q ≤ 1000000 * 24:=Nat.mul_le_mul hl hq.2
 have h0:l.length ≠ 0:=by simpa using h0
 simp only [appendV,h0,if_false]
 rw [if_pos (by omega)]
theorem ap_zero {z:V} {q c:Nat}:appendV M (z,q) (.sl c 0 0 (some 0)) [] = some (.val (.sl c 0 0 (some 0)) M):=by
 simp [appendV]
theorem ap_in {z:V} {q c o len cap:Nat} {cs l:List V} {g:Nat} (hb:M[c]? = some (.own cs g)) (hl:len + l.length ≤ cap) (h0:l ≠ []) (h1:l.all V.one = true) (hc:o + len + l.length ≤ cs.length):appendV M (z,q) (.sl c o len (some cap)) l = some (.val (.sl c o (len + l.length) (some cap)) (M.set c (.own (cs.take (o + len) ++ l ++ cs.drop (o + len + l.length)) g))):=by
 have h0:l.length ≠ 0:=by simpa using h0
 simp only [appendV,if_pos hl,if_neg h0]
 simp only [wr,hb,h1,and_true]
 rw [if_pos hc]
 rfl
theorem ap_out {z:V} {q c o len cap:Nat} {l olds:List V} (hl:cap < len + l.length) (hr:rd M c o len = some olds) (h0:l ≠ []) (hn:len + l.length ≤ 1000000) (hq:1 ≤ q ∧ q ≤ 24):appendV M (z,q) (.sl c o len (some cap)) l = some (.val (.sl M.length 0 (len + l.length) none) (M ++ [.own (olds ++ l) 1])):=by
 have:(len + l.length) * q ≤ 1000000 * 24:=Nat.mul_le_mul hn hq.2
 have h0:l.length ≠ 0:=by simpa using h0
 simp only [appendV]
 rw [if_neg (by omega),if_pos (by omega),hr]; rfl
theorem ap_go {z:V} {q c o len:Nat} {l cs:List V} (hb:M[c]? = some (.own cs 1)) (h0:l ≠ []) (h1:l.all V.one = true) (hn:len + l.length ≤ 1000000) (hq:1 ≤ q ∧ q ≤ 24) (hc:o + len ≤ cs.length):appendV M (z,q) (.sl c o len none) l = some (.val (.sl M.length 0 (len + l.length) none) (M.set c .dead ++ [.own ((cs.drop o).take len ++ l) 1])):=by
 have:(len + l.length) * q ≤ 1000000 * 24:=Nat.mul_le_mul hn hq.2
 have h0:l.length ≠ 0:=by simpa using h0
 simp only [appendV,if_neg h0]
 rw [if_pos ⟨by omega,by omega,h1⟩,hb]
 simp only [if_pos hc]
theorem ap_none {z:V} {q c o len:Nat} (h:o + len ≤ known M c):appendV M (z,q) (.sl c o len none) [] = some (.val (.sl c o len none) M):=by
 simp [appendV,h]
theorem idxLe_n {n i:Nat} {k:IntKind} (h:i ≤ n):idxLe n (.int k i) = some i:=by rw [idxLe_eq]; simp [h]
theorem known_own {c:Nat} {cs:List V} (h:M[c]? = some (.own cs 1)):known M c = cs.length:=by unfold known; rw [h]; rfl
theorem st_slT {c o len i:Nat} {lim:Option Nat} (ht:SlT t) (hx:ρ x = some (.sl c o len lim)) (hy:ρ y = some (.int .i64 i)) (hi:i ≤ len) (hl:LimP M c o len lim):astep noX tyF ρ M (.slice t x none (some y) none) = some (.pure (.sl c o i lim)):=by
 obtain ⟨d,e,de,h1,h2,h3,h4⟩:=ht.h
 simp only [astep,aSlice,h1,Option.bind_some,hx,oo,hy,Option.map_some,sliceV,h2,h3,h4]
 cases lim with
 | some cp =>
  have hl:len ≤ cp:=hl
  simp only [mB,uB,idxLe_n (show i ≤ cp by omega),Option.bind_some,Nat.sub_zero]
  by_cases hc:cp = 0
  ·simp [hc]
  ·simp [hc]
 | none =>
  have hl:o + len ≤ known M c:=hl
  simp only [uB,idxLe_n (show i ≤ known M c - o by omega),Option.bind_some]
  simp
theorem st_slD {c o len i:Nat} {lim:Option Nat} (ht:SlT t) (hx:ρ x = some (.sl c o len lim)) (hy:ρ y = some (.int .i64 i)) (hi:i < len) (hl:LimP M c o len lim):astep noX tyF ρ M (.slice t x (some y) none none) = some (.pure (.sl c (o + i) (len - i) (lim.map (· - i)))):=by
 obtain ⟨d,e,de,h1,h2,h3,h4⟩:=ht.h
 simp only [astep,aSlice,h1,Option.bind_some,hx,oo,hy,Option.map_some,sliceV,h2,h3,h4]
 cases lim with
 | some cp =>
  have hl:len ≤ cp:=hl
  simp only [mB,uB,idxLe_n (show i ≤ len by omega),Option.bind_some,ne_eq,not_true_eq_false,if_false]
  rw [if_neg (by omega)]; rfl
 | none =>
  have hl:o + len ≤ known M c:=hl
  simp only [uB,idxLe_n (show i ≤ len by omega),Option.bind_some,ne_eq,not_true_eq_false,if_false]
  rw [if_pos (.inr (by omega))]; rfl
theorem LimP.le {c o len i:Nat} {lim:Option Nat} (h:LimP M c o len lim) (hi:i ≤ len):LimP M c o i lim:=by
 cases lim with
 | some cp => exact Nat.le_trans hi h
 | none => have:o + len ≤ known M c:=h; show o + i ≤ known M c; omega
theorem LimP.drop {c o len i:Nat} {lim:Option Nat} (h:LimP M c o len lim) (hi:i ≤ len):LimP M c (o + i) (len - i) (lim.map (· - i)):=by
 cases lim with
 | some cp => have:len ≤ cp:=h; show len - i ≤ cp - i; omega
 | none => have:o + len ≤ known M c:=h; show o + i + (len - i) ≤ known M c; omega
end
section
variable {d:Option Ty} {M:Mem} {k:IntKind} {a b:Int}
theorem b_lssT (h:a < b):abin noX d M .lss (.int k a) (.int k b) = some (.bool true,none):=by rw [abin_lss]; simp [h]
theorem b_lssF (h:¬ a < b):abin noX d M .lss (.int k a) (.int k b) = some (.bool false,none):=by rw [abin_lss]; simp [h]
theorem b_eqlT (h:a = b):abin noX d M .eql (.int k a) (.int k b) = some (.bool true,none):=by
 simp only [abin,bInt,bLit,if_true,eint_eq,aint,Option.map_some]; simp [h]
theorem b_eqlF (h:a ≠ b):abin noX d M .eql (.int k a) (.int k b) = some (.bool false,none):=by
 simp only [abin,bInt,bLit,if_true,eint_eq,aint,Option.map_some]; simp [h]
theorem b_neqT (h:a ≠ b):abin noX d M .neq (.int k a) (.int k b) = some (.bool true,none):=by
 simp only [abin,bInt,bLit,if_true,eint_eq,aint,Option.map_some]; simp [h]
theorem b_neqF (h:a = b):abin noX d M .neq (.int k a) (.int k b) = some (.bool false,none):=by
 simp only [abin,bInt,bLit,if_true,eint_eq,aint,Option.map_some]; simp [h]
theorem b_gtrT (h:b < a):abin noX d M .gtr (.int k a) (.int k b) = some (.bool true,none):=by
 simp only [abin,bInt,bLit,if_true,eint_eq,aint,Option.map_some]; simp [h]
theorem b_gtrF (h:¬ b < a):abin noX d M .gtr (.int k a) (.int k b) = some (.bool false,none):=by
 simp only [abin,bInt,bLit,if_true,eint_eq,aint,Option.map_some]; simp [h]
theorem b_geqT (h:b ≤ a):abin noX d M .geq (.int k a) (.int k b) = some (.bool true,none):=by
 simp only [abin,bInt,bLit,if_true,eint_eq,aint,Option.map_some]; simp [h]
theorem b_geqF (h:¬ b ≤ a):abin noX d M .geq (.int k a) (.int k b) = some (.bool false,none):=by
 simp only [abin,bInt,bLit,if_true,eint_eq,aint,Option.map_some]; simp [h]
theorem b_leqT (h:a ≤ b):abin noX d M .leq (.int k a) (.int k b) = some (.bool true,none):=by
 simp only [abin,bInt,bLit,if_true,eint_eq,aint,Option.map_some]; simp [h]
theorem b_leqF (h:¬ a ≤ b):abin noX d M .leq (.int k a) (.int k b) = some (.bool false,none):=by
 simp only [abin,bInt,bLit,if_true,eint_eq,aint,Option.map_some]; simp [h]
theorem b_add {m n r:Nat} (h:m + n = r) (hr:r ≤ 1000000000):abin noX d M .add (.int .i64 m) (.int .i64 n) = some (.int .i64 r,none):=by
 rw [abin_add (by omega) (by omega)]; rw [← h]; rfl
theorem b_sub {m n r:Nat} (h:r + n = m) (hr:m ≤ 1000000000):abin noX d M .sub (.int .i64 m) (.int .i64 n) = some (.int .i64 r,none):=by
 rw [abin_sub (by omega) (by omega)]
 rw [show (m:Int) - n = r by omega]
theorem b_slnil {t:TypeId} {c o n:Nat} {lim:Option Nat} (ht:SlT t):abin noX (tyF t) M .eql (.sl c o n lim) .nilsl = some (.bool false,none):=by
 obtain ⟨d,e,de,h1,h2,h3,h4⟩:=ht.h
 simp only [abin,bEq,h1,h2,aeq,Option.map_some]
theorem b_nilnil {t:TypeId} (ht:SlT t):abin noX (tyF t) M .eql .nilsl .nilsl = some (.bool true,none):=by
 obtain ⟨d,e,de,h1,h2,h3,h4⟩:=ht.h
 simp only [abin,bEq,h1,h2,aeq,Option.map_some]
end
section
variable {G:GF} {M:Mem} {c o n:Nat} {lim:Option Nat} {cs:List V}
theorem clone56 (hG:GOK G) (hr:rd M c o n = some cs) (h0:0 < n) (hn:n ≤ 1000000):ACall Tryz.prog G 104 [.sl c o n lim] M (.sl (M.length + 1) 0 n none) (M ++ [.own [] 0,.own cs 1]):=by
 have hl:=rd_len hr
 refine acall_mk (n:=8) (fv:=fnOf Tryz.f104) rfl rfl (by simp) (by decide) ?_
 refine AWX.seq (AWX.region (AOX.q hG rfl (st_as rfl) rfl (AOX.nil ?_)))
 refine AWX.seq (AWX.seq (AWX.region (AOX.q hG rfl (st_mv rfl) rfl (AOX.q hG rfl (st_bin rfl rfl (b_slnil sl56)) rfl (AOX.nil ?_)))))
 refine AWX.cf rfl (AWX.skip ?_)
 refine AWX.seq (AWX.region (AOX.qv hG rfl (st_bs0 el56) rfl (AOX.q hG rfl (st_mv rfl) rfl (AOX.qv hG rfl (st_ap el56 rfl rfl (rd_grow (GrowL.one _ _ _) hr (by simp)) (ap_out (olds:=[]) (by omega) (rd_own0 app_last rfl) (by intro e; subst e; simp at hl; omega) (by omega) (by decide))) rfl (AOX.q hG rfl (st_as rfl) rfl (AOX.nil ?_))))))
 have e:(M ++ [Blk.own [] 0]) ++ [Blk.own ([] ++ cs) 1] = M ++ [.own [] 0,.own cs 1]:=by simp
 rw [e]
 exact AWX.fin rfl (by simp [retV,hl])
end
end
end
section
open Go.Proofs
noncomputable section
def rMix:Rn:=⟨2093,93,[.row .u8 16 0 255],List.replicate 16 .u8,.tup [.sl 0 0 16 (some 16),.bool true],[(symT' .u8 16 0,0)]⟩
def rTurnA (n:Int) (gid:Nat):Rn:=⟨gid,109,[.row .u8 16 0 255,.lit (.int .i64 n)],List.replicate 16 .u8,.sl 0 0 16 (some 16),[(symT' .u8 16 0,0)]⟩
end
def xm:List Nat → Nat → Nat → Nat
 | [],_,_ => 0
 | a :: l,i,m => (if m.testBit i = true then a else 0) ^^^ xm l (i + 1) m
theorem xor4 (a b c d:Nat):(a ^^^ b) ^^^ (c ^^^ d) = (a ^^^ c) ^^^ (b ^^^ d):=by
 rw [Nat.xor_assoc,Nat.xor_assoc,← Nat.xor_assoc b c d,Nat.xor_comm b c,Nat.xor_assoc c b d]
theorem xm_xor:∀ (l:List Nat) (i m n:Nat),xm l i (m ^^^ n) = xm l i m ^^^ xm l i n
 | [],_,_,_ => by simp [xm]
 | a :: l,i,m,n => by
  rw [xm,xm,xm,xm_xor l (i + 1) m n,xor4,Nat.testBit_xor]
  congr 1
  cases m.testBit i <;> cases n.testBit i <;> simp
theorem xm_zero:∀ (l:List Nat) (i:Nat),xm l i 0 = 0
 | [],_ => rfl
 | a :: l,i => by rw [xm,xm_zero l (i + 1)]; simp
theorem xm_one:∀ (l:List Nat) (i j:Nat),xm l i (2 ^ (i + j)) = (l[j]?).getD 0
 | [],_,_ => by simp [xm]
 | a :: l,i,0 => by
  have h:∀ (l:List Nat) (k:Nat),i < k → xm l k (2 ^ i) = 0:=by
   intro l
   induction l with
   | nil => intro k _; rfl
   | cons b l ih =>
    intro k hk
    rw [xm,ih (k + 1) (by omega),Nat.testBit_two_pow]
    have:¬ i = k:=by omega
    simp [this]
  rw [xm,Nat.add_zero,h l (i + 1) (by omega),Nat.testBit_two_pow]
  simp
 | a :: l,i,j + 1 => by
  rw [xm,Nat.testBit_two_pow,show i + (j + 1) = i + 1 + j by omega,xm_one l (i + 1) j]
  have:¬ (i + 1 + j = i):=by omega
  simp [this]
end
section
open Go.Proofs
noncomputable section
def undoes:Nat → Option Nat
 | 2402 => some 2403
 | 2403 => some 2402
 | _ => none
def allFrom (M:Mem) (g:Nat) (bs:List V):Nat → List V → Bool
 | _,[] => true
 | i,a :: l => (match defOf M a with
  | some (.call h j _ cs) => Nat.beq h g && (Nat.beq j i && sames cs bs)
  | _ => false) && allFrom M g bs (i + 1) l
def in8:List V → Bool
 | [] => true
 | v :: l => (leI 0 v.lo && leI v.hi 255) && in8 l
def permX:Rule:=fun M d => match d with
 | .call g j k args => match undoes g,args with
  | some h,a :: l => match defOf M a with
   | some (.call _ _ _ bs) => match (Nat.beq bs.length 8 && Nat.beq l.length 7) && (in8 bs && allFrom M h bs 0 (a :: l)) with
    | true => match nth bs j with
     | some b => retag k b
     | none => none
    | false => none
   | _ => none
  | _,_ => none
 | _ => none
structure PermG (G:GF):Prop where
 first:∀ x j,x.length = 8 → Bytes x → G 2402 x j = pmAt x tFirst j
 inv:∀ x j,x.length = 8 → Bytes x → G 2403 x j = pmAt x tInv j
theorem tFI:∀ i,i < 8 * 8 → (tFirst[(tInv[i]?).getD 1 - 1]?).getD 1 = i + 1 ∧ (tInv[i]?).getD 1 - 1 < 8 * 8:=by decide
theorem tIF:∀ i,i < 8 * 8 → (tInv[(tFirst[i]?).getD 1 - 1]?).getD 1 = i + 1 ∧ (tFirst[i]?).getD 1 - 1 < 8 * 8:=by decide
theorem perm_law {G:GF} (hP:PermG G) {g h:Nat} (hu:undoes g = some h) {x y:List Int} (hx:x.length = 8) (hb:Bytes x) (hy:y.length = 8) (hyx:∀ i,i < 8 → y[i]? = some (G h x i)) {j:Nat}:G g y j = (x[j]?).getD 0:=by
 unfold undoes at hu
 split at hu
 ·injection hu with hu; subst hu
  have e:y = pmOut x tInv:=by
   have l:=pmOut_len x tInv
   have l64:tInv.length = 64:=by decide
   apply List.ext_getElem?
   intro i
   by_cases hi:i < 8
   ·rw [hyx i hi,hP.inv x i hx hb,pmAt,List.getElem?_eq_getElem (by omega)]; rfl
   ·rw [List.getElem?_eq_none_iff.2 (by omega),List.getElem?_eq_none_iff.2 (by omega)]
  rw [hP.first y j hy (by rw [e]; exact pmOut_bits.1),e,pmAt,pm_back (n:=8) hx hb (by decide) (by decide) tIF]
 ·injection hu with hu; subst hu
  have e:y = pmOut x tFirst:=by
   have l:=pmOut_len x tFirst
   have l64:tFirst.length = 64:=by decide
   apply List.ext_getElem?
   intro i
   by_cases hi:i < 8
   ·rw [hyx i hi,hP.first x i hx hb,pmAt,List.getElem?_eq_getElem (by omega)]; rfl
   ·rw [List.getElem?_eq_none_iff.2 (by omega),List.getElem?_eq_none_iff.2 (by omega)]
  rw [hP.inv y j hy (by rw [e]; exact pmOut_bits.1),e,pmAt,pm_back (n:=8) hx hb (by decide) (by decide) tFI]
 ·cases hu
theorem in8_ok {φ:Pl}:∀ {l:List V} {ns:List Int},in8 l = true → nums φ l = some ns → Bytes ns
 | [],ns,_,h => by simp only [nums,Option.some.injEq] at h; subst h; intro n hn; cases hn
 | v :: l,ns,h,hn => by
  simp only [in8,Bool.and_eq_true,leI_iff] at h
  simp only [nums,Option.bind_eq_some_iff,Option.map_eq_some_iff] at hn
  obtain ⟨n,h1,l',h2,rfl⟩:=hn
  have:=V.bnd h1
  intro m hm
  rcases List.mem_cons.1 hm with rfl | hm
  ·omega
  ·exact in8_ok h.2 h2 m hm
theorem allFrom_ok {G:GF} {φ:Pl} {M:Mem} (hE:EqF G φ M) {g:Nat} {bs:List V} {x:List Int} (hx:nums φ bs = some x):∀ {l:List V} {i:Nat} {y:List Int},allFrom M g bs i l = true → nums φ l = some y → ∀ j,j < l.length → y[j]? = some (G g x (i + j))
 | [],_,_,_,_,j,hj => by simp at hj
 | a :: l,i,y,h,hy,j,hj => by
  simp only [allFrom,Bool.and_eq_true] at h
  simp only [nums,Option.bind_eq_some_iff,Option.map_eq_some_iff] at hy
  obtain ⟨n,h1,l',h2,rfl⟩:=hy
  cases j with
  | zero =>
   have h3:=h.1
   split at h3
   ·rename_i h' j' k' cs hd
    simp only [Bool.and_eq_true] at h3
    obtain ⟨e1,e2,e3⟩:=h3
    have:=Nat.eq_of_beq_eq_true e1; subst this
    have:=Nat.eq_of_beq_eq_true e2; subst this
    obtain ⟨k2,hv⟩:=defOf_sound hE hd h1
    simp only [Def.val,Option.map_eq_some_iff] at hv
    obtain ⟨z,hz,hv⟩:=hv
    injection hv with _ hv
    have:=sames_num e3 hz hx
    subst this
    simp [hv]
   ·cases h3
  | succ j =>
   rw [List.getElem?_cons_succ,allFrom_ok hE hx h.2 h2 j (by simpa using hj),show i + 1 + j = i + (j + 1) by omega]
theorem permX_ok {G:GF} (hP:PermG G):RuleOK G permX:=by
 intro φ M d x v hE h hd
 unfold permX at h
 split at h
 ·rename_i g j k args
  split at h
  ·rename_i h' a l hu
   split at h
   ·rename_i g0 j0 k0 bs hda
    split at h
    ·rename_i hc
     simp only [Bool.and_eq_true] at hc
     obtain ⟨⟨hl1,hl2⟩,hin,hall⟩:=hc
     have e1:=Nat.eq_of_beq_eq_true hl1
     have e2:=Nat.eq_of_beq_eq_true hl2
     rw [nth_eq] at h
     split at h
     ·rename_i b hb
      simp only [Def.val,Option.map_eq_some_iff] at hd
      obtain ⟨y,hy,rfl⟩:=hd
      obtain ⟨na,hna⟩:∃ n,a.num φ = some n:=by
       simp only [nums,Option.bind_eq_some_iff] at hy
       obtain ⟨n,h1,_⟩:=hy
       exact ⟨n,h1⟩
      obtain ⟨k1,hv⟩:=defOf_sound hE hda hna
      simp only [Def.val,Option.map_eq_some_iff] at hv
      obtain ⟨z,hz,_⟩:=hv
      have hzl:=nums_len hz
      have hyl:=nums_len hy
      simp only [List.length_cons] at hyl
      have hj:j < 8:=by rw [← e1]; exact (List.getElem?_eq_some_iff.1 hb).1
      have hlaw:=perm_law hP hu (x:=z) (y:=y) (by omega) (in8_ok hin hz) (by omega) (fun i hi => by
       have:=allFrom_ok hE hz hall hy i (by simp only [List.length_cons]; omega)
       rwa [Nat.zero_add] at this) (j:=j)
      have hzj:z[j]? = some z[j]:=List.getElem?_eq_getElem (by omega)
      obtain ⟨b',hb',hbn⟩:=nums_get hz j z[j] hzj
      have:b' = b:=Option.some.inj (hb'.symm.trans hb)
      subst this
      obtain ⟨h3,_,_⟩:=retag_ok h hbn
      refine ⟨_,rfl,?_⟩
      rw [hlaw,hzj,Option.getD_some]; exact h3
     ·cases h
    ·cases h
   ·cases h
  ·cases h
 ·cases h
end
end
section
open Go.Proofs
noncomputable section
def maskV (ms:List (Option Nat)):V → Option Nat
 | .sym _ j _ _ => match nth ms j with
  | some (some m) => some m
  | _ => none
 | .int _ n => match eqI n 0 with
  | true => some 0
  | false => none
 | _ => none
def maskD (tb:Tab) (ms:List (Option Nat)) (b:Blk):Option Nat :=
 match tabOf tb b,b with
 | some _,.eqn d _ => match d with
  | .bin .xor .u8 u v => match maskV ms u,maskV ms v with
   | some x,some y => some (Nat.xor x y)
   | _,_ => none
  | _ => none
 | _,_ => none
def mks (M:Mem):Tab → List (Option Nat) → (List (Option Nat) → Bool) → Bool :=
 List.rec (motive:=fun _ => Tab → List (Option Nat) → (List (Option Nat) → Bool) → Bool) (fun _ ms k => k ms) (fun b _ ih tb ms k => kOI (tabOf tb b) fun t => kSpine (snocK tb t) fun tb' => kON (maskD tb ms b) fun e => kSpine (snocK ms e) fun ms => ih tb' ms k) M
def MkI (x:List Nat) (ms:List (Option Nat)) (acc:List (Option Int)):Prop:=ms.length = acc.length ∧ ∀ (j m:Nat),ms[j]? = some (some m) → acc[j]? = some (some (xm x 0 m:Int)) ∧ xm x 0 m ≤ 255
theorem mask_num {x:List Nat} {ms:List (Option Nat)} {acc:List (Option Int)} (h:MkI x ms acc) {v:V} {m:Nat} {n:Int} (hm:maskV ms v = some m) (hv:v.num (plOf acc) = some n):n = (xm x 0 m:Int) ∧ xm x 0 m ≤ 255:=by
 cases v <;> simp only [maskV,reduceCtorEq] at hm
 ·rename_i k n'
  split at hm
  ·rename_i hz
   injection hm with hm; subst hm
   rw [eqI_iff] at hz; subst hz
   simp only [V.num,V.conc,Option.some.injEq] at hv
   subst hv
   rw [xm_zero]; exact ⟨rfl,by omega⟩
  ·cases hm
 rename_i k j lo hi
 rw [nth_eq] at hm
 split at hm
 ·rename_i m' hj
  injection hm with hm; subst hm
  obtain ⟨h1,h2⟩:=h.2 j m' hj
  rcases V.num_cases hv with ⟨_,e⟩ | ⟨_,i,_,_,p,e,hp,hpn,_,_⟩
  ·cases e
  ·injection e with _ e2 _ _
   subst e2
   rw [plOf_get h1] at hp
   injection hp with hp
   exact ⟨by rw [← hpn,← hp],h2⟩
 ·cases hm
def mksL:Mem → Tab → List (Option Nat) → List (Option Nat)
 | [],_,ms => ms
 | b :: M,tb,ms => mksL M (tb ++ [tabOf tb b]) (ms ++ [maskD tb ms b])
theorem mks_eq:∀ (M:Mem) (tb:Tab) (ms:List (Option Nat)) (k:List (Option Nat) → Bool),mks M tb ms k = k (mksL M tb ms)
 | [],_,_,_ => rfl
 | b :: M,tb,ms,k => by
  show (kOI (tabOf tb b) fun t => kSpine (snocK tb t) fun tb' => kON (maskD tb ms b) fun e => kSpine (snocK ms e) fun ms => mks M tb' ms k) = _
  simp only [kOI_eq,kSpine_eq,kON_eq,snocK_eq]
  exact mks_eq M _ _ k
theorem mks_ok {G:GF} (hG:GOK G) {x:List Nat}:∀ (M:Mem) {tb:Tab} {ms:List (Option Nat)} {acc:List (Option Int)},Fits tb acc → MkI x ms acc → MkI x (mksL M tb ms) (solve G M acc)
 | [],_,_,_,_,h => h
 | b :: M,tb,ms,acc,hf,h => by
  refine mks_ok hG M (hf.snoc hG b) ⟨by simp [h.1],?_⟩
  intro j m hj
  by_cases hlt:j < ms.length
  ·rw [List.getElem?_append_left hlt] at hj
   obtain ⟨h1,h2⟩:=h.2 j m hj
   exact ⟨by rw [List.getElem?_append_left (by have:=h.1; omega)]; exact h1,h2⟩
  ·rw [List.getElem?_append_right (by omega)] at hj
   have hje:j = ms.length:=by
    have:=(List.getElem?_eq_some_iff.1 hj).1; simp at this; omega
   subst hje
   simp only [Nat.sub_self,List.getElem?_cons_zero,Option.some.injEq] at hj
   unfold maskD at hj
   split at hj
   ·rename_i p d w ht
    obtain ⟨lo,hi⟩:=p
    obtain ⟨d1,n,e1,h2,h3,_⟩:=sol1_ok hG hf ht
    injection e1 with e1 e2; subst e1 e2
    split at hj
    ·rename_i u v
     split at hj
     ·rename_i a c ha hc
      injection hj with hj; subst hj
      obtain ⟨y,z,hy,hz,h4⟩:=val_bin h2
      obtain ⟨rfl,ya⟩:=mask_num h ha hy
      obtain ⟨rfl,za⟩:=mask_num h hc hz
      have hx:=(nat_bits .u8 (xm x 0 a) (xm x 0 c) (by simp only [kmax]; omega) (by simp only [kmax]; omega)).2.2
      simp only [aint] at h4
      rw [hx] at h4
      injection h4 with h4; injection h4 with _ h4
      have e3:xm x 0 (Nat.xor a c) = xm x 0 a ^^^ xm x 0 c:=xm_xor x 0 a c
      refine ⟨?_,?_⟩
      ·rw [h.1,List.getElem?_append_right (Nat.le_refl _),Nat.sub_self,h3,e3,← h4]; rfl
      ·rw [e3]
       have:xm x 0 a ^^^ xm x 0 c < 2 ^ 8:=Nat.xor_lt_two_pow (by omega) (by omega)
       omega
     ·cases hj
    ·cases hj
   ·cases hj
end
end
section
open Go.Proofs
noncomputable section
def revK:Nat → List V
 | 0 => []
 | n + 1 => symRow .u8 0 255 6 (8 + 6 * n) ++ revK n
def revN (ks:List Int):Nat → List Int
 | 0 => []
 | n + 1 => (ks.drop (6 * n)).take 6 ++ revN ks n
def getQ (σ:Sub):List Nat → Option (List V)
 | [] => some []
 | q :: l => match nth σ q with
  | some (some v) => (getQ σ l).map (v :: ·)
  | _ => none
def isRow (i:Nat):List V → Bool
 | [] => true
 | v :: l => (match v with
  | .sym _ j _ _ => Nat.beq i j
  | _ => false) && isRow (i + 1) l
def onceChk (X:Rule) (e:Lvl):Bool :=
 kAll e.2.1 fun D => kNats e.2.2 fun qs => kTab (List.replicate 104 (some (0,255))) fun tb => kSpine (List.replicate 104 .dead) fun M => kSpine ((symRow .u8 0 255 104 0).map some) fun σ => rpl X D tb M σ fun M σ =>
  match getQ σ qs with
  | some ys => (in8 ys && Nat.beq ys.length 8) && kSpine ((ys ++ revK 16).map some) fun σ => rpl X D tb M σ fun _ σ => match getQ σ qs with
   | some zs => Nat.beq zs.length 8 && isRow 0 zs
   | none => false
  | none => false
theorem getQ_get {σ:Sub}:∀ {l:List Nat} {ys:List V},getQ σ l = some ys → ys.length = l.length ∧ ∀ (j:Nat) (v:V),ys[j]? = some v → ∃ q,l[j]? = some q ∧ σ[q]? = some (some v)
 | [],ys,h => by simp only [getQ,Option.some.injEq] at h; subst h; exact ⟨rfl,fun j v hj => by simp at hj⟩
 | q :: l,ys,h => by
  simp only [getQ,nth_eq] at h
  split at h
  ·rename_i v hv
   simp only [Option.map_eq_some_iff] at h
   obtain ⟨ys',h1,rfl⟩:=h
   obtain ⟨h2,h3⟩:=getQ_get h1
   refine ⟨by simp [h2],fun j x hj => ?_⟩
   cases j with
   | zero => simp only [List.getElem?_cons_zero,Option.some.injEq] at hj; subst hj; exact ⟨q,rfl,hv⟩
   | succ j => exact h3 j x (by simpa using hj)
  ·cases h
theorem isRow_get:∀ {zs:List V} {i:Nat},isRow i zs = true → ∀ (j:Nat) (v:V),zs[j]? = some v → ∃ k lo hi,v = .sym k (i + j) lo hi
 | [],_,_,j,v,h => by simp at h
 | z :: zs,i,h,j,v,hj => by
  simp only [isRow,Bool.and_eq_true] at h
  cases j with
  | zero =>
   simp only [List.getElem?_cons_zero,Option.some.injEq] at hj
   subst hj
   have h1:=h.1
   split at h1
   ·rename_i k j' lo hi
    have:=Nat.eq_of_beq_eq_true h1; subst this
    exact ⟨k,lo,hi,rfl⟩
   ·cases h1
  | succ j =>
   obtain ⟨k,lo,hi,e⟩:=isRow_get h.2 j v (by simpa using hj)
   exact ⟨k,lo,hi,by rw [e,show i + 1 + j = i + (j + 1) by omega]⟩
theorem nums_sym {φ:Pl}:∀ {n i:Nat} {l:List Int},l.length = n → Bytes l → (∀ (j:Nat) (m:Int),l[j]? = some m → φ (i + j) = some (0,0,0,m)) → nums φ (symRow .u8 0 255 n i) = some l
 | 0,_,[],_,_,_ => rfl
 | n + 1,i,m :: l,hl,hb,h => by
  have h0:=h 0 m rfl
  rw [Nat.add_zero] at h0
  have hm:=hb m (by simp)
  have ih:=nums_sym (φ:=φ) (n:=n) (i:=i + 1) (l:=l) (by simpa using hl) (fun a ha => hb a (by simp [ha])) fun j a hj => by rw [show i + 1 + j = i + (j + 1) by omega]; exact h (j + 1) a (by simpa using hj)
  simp only [symRow,nums,V.num,V.conc,h0,Option.bind_some,hm,and_self,if_true,ih,Option.map_some]
theorem bytes_app {a b:List Int} (ha:Bytes a) (hb:Bytes b):Bytes (a ++ b):=fun n hn => by
 rcases List.mem_append.1 hn with h | h
 ·exact ha n h
 ·exact hb n h
theorem revN_ok {ks:List Int} (hk:ks.length = 96) (hb:Bytes ks) {φ:Pl} (h:∀ (j:Nat) (m:Int),ks[j]? = some m → φ (8 + j) = some (0,0,0,m)):∀ n,n ≤ 16 → nums φ (revK n) = some (revN ks n) ∧ (revN ks n).length = 6 * n ∧ Bytes (revN ks n) ∧ (revK n).length = 6 * n
 | 0,_ => ⟨rfl,rfl,fun n hn => (by cases hn),rfl⟩
 | n + 1,hn => by
  obtain ⟨h1,h2,h3,h4⟩:=revN_ok hk hb h n (by omega)
  have hl:((ks.drop (6 * n)).take 6).length = 6:=by simp; omega
  have hbt:Bytes ((ks.drop (6 * n)).take 6):=fun m hm => hb m (List.mem_of_mem_drop (List.mem_of_mem_take hm))
  refine ⟨nums_join (nums_sym hl hbt fun j m hj => ?_) h1,by simp [revN,h2]; omega,bytes_app hbt h3,by simp [revK,symRow_len,h4]; omega⟩
  have hj6:j < 6:=by have:=(List.getElem?_eq_some_iff.1 hj).1; omega
  rw [List.getElem?_take,if_pos hj6,List.getElem?_drop] at hj
  rw [show 8 + 6 * n + j = 8 + (6 * n + j) by omega]
  exact h _ m hj
theorem subs_rep {G:GF} {φ:Pl} {M:Mem} (hE:EqF G φ M) (hF:Fresh φ M) {vs:List V} {ns:List Int} (h:nums φ vs = some ns):RepI G φ M (vs.map some) (ns.map some):=by
 have hl:=nums_len h
 refine ⟨hE,hF,by simp [hl],fun j v hj => ?_⟩
 rw [List.getElem?_map,Option.map_eq_some_iff] at hj
 obtain ⟨v',hv,e⟩:=hj
 injection e with e; subst e
 have hjl:=(List.getElem?_eq_some_iff.1 hv).1
 have hn:ns[j]? = some ns[j]:=List.getElem?_eq_getElem (by omega)
 obtain ⟨w,hw,hwn⟩:=nums_get h j _ hn
 have:w = v':=Option.some.inj (hw.symm.trans hv)
 subst this
 exact ⟨ns[j],by rw [List.getElem?_map,hn]; rfl,hwn⟩
def onceOf (G:GF) (e:Lvl) (x ks:List Int):List Int:=(List.range 8).map fun j => numAt (solve G e.2.1 ((x ++ ks).map some)) e.2.2 j
theorem once_back {G:GF} (hG:GOK G) {X:Rule} (hX:RuleOK G X) {e:Lvl} (h:onceChk X e = true) {x ks:List Int} (hx:x.length = 8) (hk:ks.length = 96) (hbx:Bytes x) (hbk:Bytes ks) :
  (onceOf G e x ks).length = 8 ∧ Bytes (onceOf G e x ks) ∧ onceOf G e (onceOf G e x ks) (revN ks 16) = x:=by
 unfold onceChk at h
 simp only [kAll_eq,kNats_eq,kTab_eq,kSpine_eq] at h
 have hxl:(x ++ ks).length = 104:=by simp [hx,hk]
 have hb:=bytes_app hbx hbk
 have hf:Fits (List.replicate 104 (some (0,255))) ((x ++ ks).map some):=by have:=bytes_fits hb; rwa [hxl] at this
 have name0:∀ (i:Nat) (n:Int),(x ++ ks)[i]? = some n → plOf ((x ++ ks).map some) i = some (0,0,0,n):=fun i n hi => plOf_get (by rw [List.getElem?_map,hi]; rfl)
 have hn0:nums (plOf ((x ++ ks).map some)) (symRow .u8 0 255 104 0) = some (x ++ ks):=nums_sym hxl hb fun j m hj => by rw [Nat.zero_add]; exact name0 j m hj
 have hI:=subs_rep (G:=G) (M:=List.replicate 104 .dead) (fun i d v hi => by rw [List.getElem?_replicate] at hi; split at hi <;> cases hi) (fun i hi => plOf_fresh (by simp only [List.length_replicate] at hi; simp only [List.length_map,hxl]; exact hi)) hn0
 obtain ⟨φ1,M1,σ1,hle,hI1,h1⟩:=rpl_ok hG hX _ hf hI h
 split at h1
 case h_2 => cases h1
 rename_i ys hys
 simp only [Bool.and_eq_true] at h1
 obtain ⟨⟨hin,hyl⟩,h1⟩:=h1
 have hyl:=Nat.eq_of_beq_eq_true hyl
 obtain ⟨hql,hyg⟩:=getQ_get hys
 have hyn:nums φ1 ys = some (onceOf G e x ks):=by
  have:∀ (l:List V) (i:Nat),(∀ (j:Nat) (v:V),l[j]? = some v → v.num φ1 = some (numAt (solve G e.2.1 ((x ++ ks).map some)) e.2.2 (i + j))) → nums φ1 l = some ((List.range' i l.length).map fun j => numAt (solve G e.2.1 ((x ++ ks).map some)) e.2.2 j):=by
   intro l
   induction l with
   | nil => intro i _; rfl
   | cons v l ih =>
    intro i hv
    have h0:=hv 0 v rfl
    rw [Nat.add_zero] at h0
    have:=ih (i + 1) fun j w hw => by rw [show i + 1 + j = i + (j + 1) by omega]; exact hv (j + 1) w (by simpa using hw)
    simp only [nums,h0,this,Option.bind_some,Option.map_some,List.length_cons,List.range'_succ,List.map_cons]
  have h2:=this ys 0 fun j v hv => by
   obtain ⟨q,hq,hσ⟩:=hyg j v hv
   obtain ⟨n,hn,hvn⟩:=hI1.num q v hσ
   rw [hvn,Nat.zero_add]
   simp only [numAt,hq,hn]
  rw [h2,hyl,← List.range_eq_range']; rfl
 have hyb:=in8_ok hin hyn
 have hyl2:(onceOf G e x ks).length = 8:=by simp [onceOf]
 have name1:∀ (i:Nat) (n:Int),(x ++ ks)[i]? = some n → φ1 i = some (0,0,0,n):=fun i n hi => hle _ _ (name0 i n hi)
 obtain ⟨r1,r2,r3,r4⟩:=revN_ok hk hbk (φ:=φ1) (fun j m hj => name1 (8 + j) m (by rw [List.getElem?_append_right (by omega),hx,Nat.add_sub_cancel_left]; exact hj)) 16 (Nat.le_refl _)
 have hn1:=nums_join hyn r1
 have hb2:=bytes_app hyb r3
 have hl2:(onceOf G e x ks ++ revN ks 16).length = 104:=by simp [hyl2,r2]
 have hf2:Fits (List.replicate 104 (some (0,255))) ((onceOf G e x ks ++ revN ks 16).map some):=by have:=bytes_fits hb2; rwa [hl2] at this
 obtain ⟨φ2,M2,σ2,hle2,hI2,h2⟩:=rpl_ok hG hX _ hf2 (subs_rep hI1.eqf hI1.fresh hn1) h1
 split at h2
 case h_2 => cases h2
 rename_i zs hzs
 simp only [Bool.and_eq_true] at h2
 have hzl:=Nat.eq_of_beq_eq_true h2.1
 obtain ⟨_,hzg⟩:=getQ_get hzs
 refine ⟨hyl2,hyb,?_⟩
 generalize onceOf G e x ks = Y at *
 apply List.ext_getElem?
 intro j
 by_cases hj:j < 8
 ·have hz:zs[j]? = some zs[j]:=List.getElem?_eq_getElem (by omega)
  obtain ⟨q,hq,hσ⟩:=hzg j _ hz
  obtain ⟨n,hn,hvn⟩:=hI2.num q _ hσ
  obtain ⟨k,lo,hi,hsym⟩:=isRow_get h2.2 j _ hz
  have hxj:x[j]? = some x[j]:=List.getElem?_eq_getElem (by omega)
  have hφ:=hle2 _ _ (name1 j x[j] (by rw [List.getElem?_append_left (by omega)]; exact hxj))
  rw [hsym,Nat.zero_add] at hvn
  have hnx:n = x[j]:=by
   rcases V.num_cases hvn with ⟨_,e'⟩ | ⟨_,i,_,_,p,e',hp,hpn,_,_⟩
   ·cases e'
   ·injection e' with _ e2 _ _
    subst e2
    rw [hφ] at hp
    injection hp with hp
    rw [← hpn,← hp]
  have hr8:(List.range 8)[j]? = some j:=by rw [List.getElem?_range hj]
  rw [hxj]
  unfold onceOf
  rw [List.getElem?_map,hr8,Option.map_some]
  congr 1
  simp only [numAt,hq,hn]
  exact hnx
 ·rw [List.getElem?_eq_none_iff.2 (by simp [onceOf]; omega),List.getElem?_eq_none_iff.2 (by omega)]
end
end
section
open Go.Proofs
noncomputable section
def pickM (ms:List (Option Nat)):List Nat → Option (List Nat)
 | [] => some []
 | q :: l => match nth ms q with
  | some (some m) => (pickM ms l).map (m :: ·)
  | _ => none
def oneM:Nat → Nat → List (Option Nat)
 | 0,_ => []
 | n + 1,i => some (2 ^ i) :: oneM n (i + 1)
def invM (L:List Nat):Nat → List Nat → Bool
 | _,[] => true
 | j,m :: l => Nat.beq (xm L 0 m) (2 ^ j) && invM L (j + 1) l
def mixChk (e:Lvl):Bool:=mks e.2.1 (List.replicate 16 (some (0,255))) (oneM 16 0) fun ms => match pickM ms e.2.2 with
 | some L => kNats L fun L => Nat.beq L.length 16 && invM L 0 L
 | none => false
theorem xm_comp (x:List Nat):∀ (L:List Nat) (i m:Nat),xm (L.map (xm x 0)) i m = xm x 0 (xm L i m)
 | [],_,_ => by simp [xm,xm_zero]
 | a :: l,i,m => by
  rw [List.map_cons,xm,xm,xm_comp x l (i + 1) m,xm_xor]
  congr 1
  split
  ·rfl
  ·rw [xm_zero]
theorem pickM_get {ms:List (Option Nat)}:∀ {l L:List Nat},pickM ms l = some L → L.length = l.length ∧ ∀ (j m:Nat),L[j]? = some m → ∃ q,l[j]? = some q ∧ ms[q]? = some (some m)
 | [],L,h => by simp only [pickM,Option.some.injEq] at h; subst h; exact ⟨rfl,fun j m hj => by simp at hj⟩
 | q :: l,L,h => by
  simp only [pickM,nth_eq] at h
  split at h
  ·rename_i m hm
   simp only [Option.map_eq_some_iff] at h
   obtain ⟨L',h1,rfl⟩:=h
   obtain ⟨h2,h3⟩:=pickM_get h1
   refine ⟨by simp [h2],fun j a hj => ?_⟩
   cases j with
   | zero => simp only [List.getElem?_cons_zero,Option.some.injEq] at hj; subst hj; exact ⟨q,rfl,hm⟩
   | succ j => exact h3 j a (by simpa using hj)
  ·cases h
theorem oneM_get:∀ {n i j m:Nat},(oneM n i)[j]? = some (some m) → m = 2 ^ (i + j) ∧ j < n
 | 0,_,j,m,h => by simp [oneM] at h
 | n + 1,i,0,m,h => by simp only [oneM,List.getElem?_cons_zero,Option.some.injEq] at h; exact ⟨h.symm,by omega⟩
 | n + 1,i,j + 1,m,h => by
  simp only [oneM,List.getElem?_cons_succ] at h
  obtain ⟨h1,h2⟩:=oneM_get h
  exact ⟨by rw [h1,show i + 1 + j = i + (j + 1) by omega],by omega⟩
theorem oneM_len:∀ (n i:Nat),(oneM n i).length = n
 | 0,_ => rfl
 | n + 1,i => by simp [oneM,oneM_len n (i + 1)]
theorem invM_get {L:List Nat}:∀ {l:List Nat} {j i m:Nat},invM L j l = true → l[i]? = some m → xm L 0 m = 2 ^ (j + i)
 | [],_,_,_,_,h => by simp at h
 | a :: l,j,i,m,h,hi => by
  simp only [invM,Bool.and_eq_true] at h
  cases i with
  | zero => simp only [List.getElem?_cons_zero,Option.some.injEq] at hi; subst hi; exact Nat.eq_of_beq_eq_true h.1
  | succ i =>
   have:=invM_get h.2 (i:=i) (by simpa using hi)
   rw [this,show j + 1 + i = j + (i + 1) by omega]
def mixOf (G:GF) (e:Lvl) (x:List Int):List Int:=(List.range 16).map fun j => numAt (solve G e.2.1 (x.map some)) e.2.2 j
theorem mix_one {G:GF} (hG:GOK G) (D:Mem) {x:List Nat} (hx:x.length = 16) (hb:∀ n ∈ x,n ≤ 255):MkI x (mksL D (List.replicate 16 (some (0,255))) (oneM 16 0)) (solve G D ((x.map (fun n:Nat => (n:Int))).map some)):=by
 have hb':Bytes (x.map (fun n:Nat => (n:Int))):=by
  intro n hn
  obtain ⟨m,hm,rfl⟩:=List.mem_map.1 hn
  have:=hb m hm
  omega
 have hf:=bytes_fits hb'
 rw [List.length_map,hx] at hf
 refine mks_ok hG D hf ⟨by simp [oneM_len,hx],fun j m hj => ?_⟩
 obtain ⟨rfl,hj16⟩:=oneM_get hj
 have hxj:x[j]? = some x[j]:=List.getElem?_eq_getElem (by omega)
 rw [xm_one x 0 j,hxj,Option.getD_some]
 exact ⟨by simp [hxj],hb _ (List.getElem_mem (by omega))⟩
theorem mix_mask {G:GF} (hG:GOK G) {e:Lvl} (h:mixChk e = true):∃ L:List Nat,L.length = 16 ∧ invM L 0 L = true ∧ ∀ x:List Nat,x.length = 16 → (∀ n ∈ x,n ≤ 255) → mixOf G e (x.map (fun n:Nat => (n:Int))) = (L.map (xm x 0)).map (fun n:Nat => (n:Int)) ∧ ∀ n ∈ L.map (xm x 0),n ≤ 255:=by
 unfold mixChk at h
 rw [mks_eq] at h
 split at h
 ·rename_i L hL
  simp only [kNats_eq,Bool.and_eq_true,Nat.beq_eq] at h
  obtain ⟨hl,hi⟩:=h
  refine ⟨L,hl,hi,fun x hx hb => ?_⟩
  have H:=mix_one hG e.2.1 hx hb
  obtain ⟨p1,p2⟩:=pickM_get hL
  have each:∀ j (hj:j < 16),numAt (solve G e.2.1 ((x.map (fun n:Nat => (n:Int))).map some)) e.2.2 j = (xm x 0 (L[j]'(by omega)):Int) ∧ xm x 0 (L[j]'(by omega)) ≤ 255:=by
   intro j hj
   obtain ⟨q,h1,h2⟩:=p2 j (L[j]'(by omega)) (List.getElem?_eq_getElem (by omega))
   obtain ⟨h3,h4⟩:=H.2 q _ h2
   refine ⟨?_,h4⟩
   rw [numAt,h1]
   simp only
   rw [h3]
  refine ⟨List.ext_getElem (by simp [mixOf,hl]) fun j a b => ?_,fun n hn => ?_⟩
  ·simp only [mixOf,List.getElem_map,List.getElem_range]
   exact (each j (by simpa [mixOf] using a)).1
  ·obtain ⟨m,hm,rfl⟩:=List.mem_map.1 hn
   obtain ⟨j,hj,rfl⟩:=List.getElem_of_mem hm
   exact (each j (by omega)).2
 ·cases h
theorem mix_mix {G:GF} (hG:GOK G) {e:Lvl} (h:mixChk e = true) {x:List Nat} (hx:x.length = 16) (hb:∀ n ∈ x,n ≤ 255):mixOf G e (mixOf G e (x.map (fun n:Nat => (n:Int)))) = x.map (fun n:Nat => (n:Int)):=by
 obtain ⟨L,hl,hi,H⟩:=mix_mask hG h
 obtain ⟨h1,h2⟩:=H x hx hb
 rw [h1,(H _ (by simp [hl]) h2).1]
 congr 1
 refine List.ext_getElem (by simp [hl,hx]) fun j a b => ?_
 rw [List.getElem_map,xm_comp,invM_get hi (List.getElem?_eq_getElem (by simpa using a)),xm_one x 0 j]
 rw [List.getElem?_eq_getElem b,Option.getD_some]
end
end
section
open Go.Proofs
noncomputable section
def revV (l:List V):Nat → List V
 | 0 => []
 | n + 1 => (l.drop (6 * n)).take 6 ++ revV l n
def onceX:Rule:=fun M d => match d with
 | .call g j k args => match Nat.beq g 2077,args with
  | true,a :: l => match defOf M a with
   | some (.call _ _ _ bs) => match (Nat.beq bs.length 104 && Nat.beq l.length 103) && ((in8 bs && Nat.blt j 8) && (allFrom M 2077 bs 0 ((a :: l).take 8) && sames ((a :: l).drop 8) (revV (bs.drop 8) 16))) with
    | true => match nth bs j with
     | some b => retag k b
     | none => none
    | false => none
   | _ => none
  | _,_ => none
 | _ => none
structure OnceG (G:GF):Prop where
 len:∀ x ks,x.length = 8 → ks.length = 96 → Bytes x → Bytes ks → ∃ y:List Int,y.length = 8 ∧ (∀ i,i < 8 → y[i]? = some (G 2077 (x ++ ks) i)) ∧ ∀ j,j < 8 → G 2077 (y ++ revN ks 16) j = (x[j]?).getD 0
theorem nums_take {φ:Pl} {l:List V} {ns:List Int} (h:nums φ l = some ns) (n:Nat):nums φ (l.take n) = some (ns.take n) ∧ nums φ (l.drop n) = some (ns.drop n):=by
 have h':=h
 rw [← List.take_append_drop n l] at h'
 obtain ⟨x,y,h1,h2,rfl⟩:=nums_append h'
 have hl:=nums_len h1
 have hl2:=nums_len h2
 simp only [List.length_take,List.length_drop] at hl hl2
 by_cases hn:n ≤ l.length
 ·rw [Nat.min_eq_left hn] at hl
  rw [List.take_left' hl,List.drop_left' hl]
  exact ⟨h1,h2⟩
 ·have hy:y = []:=List.eq_nil_of_length_eq_zero (by omega)
  subst hy
  have t1:x.take n = x:=List.take_of_length_le (by omega)
  have t2:x.drop n = []:=List.drop_of_length_le (by omega)
  rw [List.append_nil,t1,t2]
  exact ⟨h1,h2⟩
theorem revV_nums {φ:Pl} {l:List V} {ns:List Int} (h:nums φ l = some ns):∀ n,nums φ (revV l n) = some (revN ns n)
 | 0 => rfl
 | n + 1 => nums_join (nums_take (nums_take h (6 * n)).2 6).1 (revV_nums h n)
theorem bytes_take {l:List Int} (h:Bytes l) (n:Nat):Bytes (l.take n) ∧ Bytes (l.drop n):=⟨fun m hm => h m (List.mem_of_mem_take hm),fun m hm => h m (List.mem_of_mem_drop hm)⟩
theorem onceX_ok {G:GF} (hO:OnceG G):RuleOK G onceX:=by
 intro φ M d x v hE h hd
 unfold onceX at h
 split at h
 ·rename_i g j k args
  split at h
  ·rename_i a l hg
   have:=Nat.eq_of_beq_eq_true hg; subst this
   split at h
   ·rename_i g0 j0 k0 bs hda
    split at h
    ·rename_i hc
     simp only [Bool.and_eq_true] at hc
     obtain ⟨⟨hl1,hl2⟩,⟨hin,hj⟩,hall,hsame⟩:=hc
     have e1:=Nat.eq_of_beq_eq_true hl1
     have e2:=Nat.eq_of_beq_eq_true hl2
     have hj:j < 8:=by simpa [Nat.blt_eq] using hj
     rw [nth_eq] at h
     split at h
     ·rename_i b hb
      simp only [Def.val,Option.map_eq_some_iff] at hd
      obtain ⟨y,hy,rfl⟩:=hd
      obtain ⟨na,hna⟩:∃ n,a.num φ = some n:=by
       simp only [nums,Option.bind_eq_some_iff] at hy
       obtain ⟨n,h1,_⟩:=hy
       exact ⟨n,h1⟩
      obtain ⟨k1,hv⟩:=defOf_sound hE hda hna
      simp only [Def.val,Option.map_eq_some_iff] at hv
      obtain ⟨z,hz,_⟩:=hv
      have hzl:=nums_len hz
      have hyl:=nums_len hy
      simp only [List.length_cons] at hyl
      have hzb:=in8_ok hin hz
      obtain ⟨w,hw1,hw2,hw3⟩:=hO.len (z.take 8) (z.drop 8) (by simp; omega) (by simp; omega) (bytes_take hzb 8).1 (bytes_take hzb 8).2
      rw [List.take_append_drop] at hw2
      have hyt:=nums_take hy 8
      have hyw:y.take 8 = w:=by
       apply List.ext_getElem?
       intro i
       by_cases hi:i < 8
       ·have:=allFrom_ok hE hz hall hyt.1 i (by simp only [List.length_take,List.length_cons]; omega)
        rw [Nat.zero_add] at this
        rw [this,hw2 i hi]
       ·rw [List.getElem?_eq_none_iff.2 (by simp; omega),List.getElem?_eq_none_iff.2 (by omega)]
      have hyd:y.drop 8 = revN (z.drop 8) 16:=sames_num hsame hyt.2 (revV_nums (nums_take hz 8).2 16)
      have hlaw:G 2077 y j = ((z.take 8)[j]?).getD 0:=by
       rw [← List.take_append_drop 8 y,hyw,hyd]; exact hw3 j hj
      have hzj:z[j]? = some z[j]:=List.getElem?_eq_getElem (by omega)
      obtain ⟨b',hb',hbn⟩:=nums_get hz j z[j] hzj
      have:b' = b:=Option.some.inj (hb'.symm.trans hb)
      subst this
      obtain ⟨h3,_,_⟩:=retag_ok h hbn
      refine ⟨_,rfl,?_⟩
      rw [hlaw,List.getElem?_take,if_pos hj,hzj,Option.getD_some]; exact h3
     ·cases h
    ·cases h
   ·cases h
  ·cases h
 ·cases h
theorem onceG_of {G:GF} (hG:GOK G) {X:Rule} (hX:RuleOK G X) {e:Lvl} (h:onceChk X e = true) (hg:∀ ns j,G 2077 ns j = clampG 2077 (numAt (solve G e.2.1 (ns.map some)) e.2.2 j)):OnceG G:=by
 have key:∀ x ks:List Int,x.length = 8 → ks.length = 96 → Bytes x → Bytes ks → ∀ j,j < 8 → (onceOf G e x ks)[j]? = some (G 2077 (x ++ ks) j):=by
  intro x ks hx hk hbx hbk j hj
  obtain ⟨h1,h2,_⟩:=once_back hG hX h hx hk hbx hbk
  have hr8:(List.range 8)[j]? = some j:=by rw [List.getElem?_range hj]
  have e1:(onceOf G e x ks)[j]? = some (numAt (solve G e.2.1 ((x ++ ks).map some)) e.2.2 j):=by
   unfold onceOf
   rw [List.getElem?_map,hr8]; rfl
  rw [e1,hg]
  have hb:=h2 _ (List.mem_of_getElem? e1)
  unfold clampG
  have hgb:gb 2077 = (0,255):=by decide
  rw [hgb,if_pos hb]
 refine ⟨fun x ks hx hk hbx hbk => ?_⟩
 obtain ⟨h1,h2,h3⟩:=once_back hG hX h hx hk hbx hbk
 refine ⟨onceOf G e x ks,h1,fun i hi => key x ks hx hk hbx hbk i hi,fun j hj => ?_⟩
 have hr:=revN_ok hk hbk (φ:=plOf ((List.replicate 8 (some 0)) ++ ks.map some)) (fun j m hj => plOf_get (by rw [List.getElem?_append_right (by simp),List.length_replicate,Nat.add_sub_cancel_left,List.getElem?_map,hj]; rfl)) 16 (Nat.le_refl _)
 have:=key (onceOf G e x ks) (revN ks 16) h1 hr.2.1 h2 hr.2.2.1 j hj
 rw [h3] at this
 rw [this]; rfl
end
end
end Go.Proofs.YthajgdmcjfmjoaaGreatDoor.Rel
