/- TopSpoilt, part 10 of 38 of its proof: a relative machine (values, memory, an evaluator, all sound against the model), and by it the walks. Conditions: none. -/
import Derived.Test.YthajgdmcjfmjoaaGreatDoorG08
import Derived.Test.YthajgdmcjfmjoaaGreatDoorG09
set_option linter.all false
namespace Go.Proofs.YthajgdmcjfmjoaaGreatDoor.Rel
open Go.Proofs
noncomputable section
def cStep (c:Code) (i:Nat):Code:=match c with
 | .seq a b => bif Nat.beq i 0 then a else b
 | .cond _ a b => bif Nat.beq i 0 then a else b
 | .block _ c => c
 | .loop c => c
 | .scope c => c
 | c => c
def cAt (p:List Nat) (c:Code):Code:=p.foldl cStep c
def GS (n:Nat) (M:Mem) (v:V) (cs:List V):Prop:=(v = .nilsl ∧ cs = []) ∨ ∃ b,n ≤ b ∧ v = .sl b 0 cs.length none ∧ M[b]? = some (.own cs 1)
theorem GS.app {M0 M:Mem} {v:V} {cs l:List V} {z:V} {q:Nat} (hM:GrowL M0 M []) (h:GS M0.length M v cs) (h0:l ≠ []) (h1:l.all V.one = true) (hn:cs.length + l.length ≤ 1000000) (hq:1 ≤ q ∧ q ≤ 24) :
  ∃ v' M',appendV M (z,q) v l = some (.val v' M') ∧ GS M0.length M' v' (cs ++ l) ∧ GrowL M0 M' []:=by
 rcases h with ⟨rfl,rfl⟩ | ⟨b,hb,rfl,hk⟩
 ·exact ⟨_,_,ap_nil h0 (by simpa using hn) hq,.inr ⟨M.length,hM.le,rfl,app_last⟩,hM.tr (GrowL.one _ _ _)⟩
 ·refine ⟨_,_,ap_go hk h0 h1 hn hq (by simp),.inr ⟨M.length,hM.le,by simp,?_⟩,(hM.st hb hk (by simp)).tr (GrowL.one _ _ _)⟩
  simp
def iRow (l:List Int):List V:=l.map (.int .i64)
def desTab:List Int:=[57,49,41,33,25,17,9,1,58,50,42,34,26,18,10,2,59,51,43,35,27,19,11,3,60,52,44,36,63,55,47,39,31,23,15,7,62,54,46,38,30,22,14,6,61,53,45,37,29,21,13,5,28,20,12,4]
def desTk:List Nat:=[14,17,11,24,1,5,3,28,15,6,21,10,23,19,12,4,26,8,16,7,27,20,13,2,41,52,31,37,47,55,30,40,51,45,33,48,44,49,39,56,34,53,46,42,50,36,29,32]
def byOf (i:Nat):Nat:=if i < 2 ∨ i = 8 ∨ i = 15 then 1 else 2
def rotL (b:Nat) (l:List Int):List Int:=(l.take 28).drop b ++ (l.take 28).take b ++ (l.drop 28).drop b ++ (l.drop 28).take b
def desTabs:Nat → List Int
 | 0 => desTab
 | i + 1 => rotL (byOf i) (desTabs i)
def pickL (tab:List Int) (n:Nat):List Int:=(desTk.take n).map fun m => (tab[m - 1]?).getD 0
theorem pick_ok:∀ i,i < 16 → pickL (desTabs (i + 1)) 48 = (tPick i).map fun n:Nat => (n:Int):=by decide +kernel
theorem tPick_len:∀ i,(tPick i).length = 48:=by intro i; unfold tPick; split <;> rfl
theorem tPick_in (i:Nat):∀ n ∈ tPick i,1 ≤ n ∧ n ≤ 8 * 8:=by unfold tPick; split <;> decide
theorem desTk_in:∀ k,k < 48 → 1 ≤ (desTk[k]?).getD 0 ∧ (desTk[k]?).getD 0 ≤ 56:=by decide
theorem tabs_len:∀ i,i ≤ 16 → (desTabs i).length = 56:=by decide +kernel
def kyOut:Code:=cAt [1,1,1,1,0,1,0,0] (fnOf Tryz.f74).body
def kyIn:Code:=cAt [1,1,0,0,1,1,1,1,1,1,0,1,0,0] kyOut
section
variable {G:GF} {Q:AExit → St → Prop} {b o tb kb i:Nat} {lim:Option Nat} {M0 M1:Mem} {pk out:V} {tab:List Int}
def kyC (b o tb kb i:Nat) (lim:Option Nat) (out pk:V) (k:Nat):List (Nat × V):=[(0,.sl b o 8 lim),(4,.sl tb 0 56 none),(5,.sl kb 0 48 none),(6,out),(24,.int .i64 i),(11,pk),(58,.sl kb 0 48 none),(59,.int .i64 (48:Nat)),(60,.int .i64 k)]
theorem ky_in (hG:GOK G) (ht:M0[tb]? = some (.own (iRow tab) 1)) (htl:tab.length = 56) (hk:M0[kb]? = some (.own (iRow (desTk.map fun n:Nat => (n:Int))) 1)):∀ (n k:Nat) (l:List (Nat × V)) (M1:Mem) (pk:V),k + n = 48 → GrowL M0 M1 [] → GS M0.length M1 pk (iRow (pickL tab k)) → subL 85 l (kyC b o tb kb i lim out pk k) →
  (∀ (l2:List (Nat × V)) (M2:Mem) (pk2:V),GrowL M0 M2 [] → GS M0.length M2 pk2 (iRow (pickL tab 48)) → subL 85 l2 (kyC b o tb kb i lim out pk2 48) → Q (.exit 2) (mkSt 85 l2 M2)) → LX G kyIn (mkSt 85 l M1) Q
 | 0,k,l,M1,pk,hn,hM,hp,hl,hQ => by
  have hk48:k = 48:=by omega
  subst hk48
  refine LX.step (AWX.ff _ hl ?_)
  refine AWX.seq (AWX.region (AOX.q hG rfl (st_bin rfl rfl (b_lssF (by omega))) rfl (AOX.nil ?_)))
  refine AWX.seq (AWX.cf rfl (AWX.exit ?_))
  exact hQ _ _ _ hM hp ⟨rfl,rfl,rfl,rfl,rfl,rfl,rfl,rfl,rfl,trivial⟩
 | n + 1,k,l,M1,pk,hn,hM,hp,hl,hQ => by
  obtain ⟨hk1,hk2⟩:=desTk_in k (by omega)
  have hkl:k < desTk.length:=by show k < 48; omega
  have htk:desTk[k]? = some desTk[k]:=List.getElem?_eq_getElem hkl
  generalize desTk[k] = tk at htk
  rw [htk] at hk1 hk2
  simp only [Option.getD_some] at hk1 hk2
  have htv:tab[tk - 1]? = some (tab[tk - 1]'(by omega)):=List.getElem?_eq_getElem (by omega)
  generalize tab[tk - 1]'(by omega) = tv at htv
  have hpick:pickL tab (k + 1) = pickL tab k ++ [tv]:=by
   simp only [pickL,List.take_add_one,htk,Option.toList_some,List.map_append,List.map_cons,List.map_nil,htv,Option.getD_some]
  have hpl:(pickL tab k).length = k:=by simp only [pickL,List.length_map,List.length_take]; exact Nat.min_eq_left (by show k ≤ 48; omega)
  refine LX.step (AWX.ff _ hl ?_)
  refine AWX.seq (AWX.region (AOX.q hG rfl (st_bin rfl rfl (b_lssT (by omega))) rfl (AOX.nil ?_)))
  refine AWX.seq (AWX.ct rfl (AWX.skip ?_))
  refine AWX.seq (AWX.block (AWX.seq (AWX.region (AOX.q hG rfl (st_ix sl56 rfl rfl (show k < 48 by omega)) rfl
   (AOX.q (v:=.int .i64 tk) hG rfl (st_ld one3 rfl (rd_one (rd_own0 (hM.g0 hk) rfl) (by simp [iRow,htk]))) rfl
   (AOX.q hG rfl (st_as rfl) rfl (AOX.nil ?_)))))))
  refine AWX.region (AOX.q hG rfl (st_mv rfl) rfl (AOX.q hG rfl (st_mv rfl) rfl (AOX.q hG rfl (st_mv rfl) rfl
   (AOX.q hG rfl (st_bin rfl rfl (b_sub (n:=1) (r:=tk - 1) (by omega) (by omega))) rfl
   (AOX.q hG rfl (st_ix sl56 rfl rfl (show tk - 1 < 56 by omega)) rfl
   (AOX.q (v:=.int .i64 tv) hG rfl (st_ld one3 rfl (rd_one (rd_own0 (n:=56) (hM.g0 ht) (by simp [iRow,htl])) (by simp [iRow,htv]))) rfl
   (AOX.qv hG rfl (st_bs1 el56 rfl rfl) rfl ?_)))))))
  have hM1:GrowL M0 (M1 ++ [.own [.int .i64 tv] 0]) []:=hM.tr (GrowL.one _ _ _)
  have hp1:GS M0.length (M1 ++ [.own [.int .i64 tv] 0]) pk (iRow (pickL tab k)):=by
   rcases hp with h | ⟨c,h1,h2,h3⟩
   ·exact .inl h
   ·exact .inr ⟨c,h1,h2,(GrowL.one _ _ _).g0 h3⟩
  obtain ⟨pk',M2,ha,hg,hM2⟩:=GS.app (z:=.int .i64 0) (q:=8) (l:=[.int .i64 tv]) hM1 hp1 (by simp) rfl (by simp [iRow,hpl]; omega) (by decide)
  refine AOX.qv hG rfl (st_ap el56 rfl rfl (rd_own0 app_last rfl) ha) rfl (AOX.q hG rfl (st_as rfl) rfl (AOX.nil ?_))
  refine AWX.region (AOX.q hG rfl (st_bin rfl rfl (b_add (n:=1) (r:=k + 1) rfl (by omega))) rfl (AOX.q hG rfl (st_mv rfl) rfl (AOX.nil ?_)))
  refine ky_in hG ht htl hk n (k + 1) _ M2 pk' (by omega) hM2 ?_ ⟨rfl,rfl,rfl,rfl,rfl,rfl,rfl,rfl,rfl,trivial⟩ hQ
  rw [hpick]; simpa [iRow] using hg
theorem ap_go' {M:Mem} {z:V} {q c o len n':Nat} {l cs cs':List V} (hb:M[c]? = some (.own cs 1)) (h0:l ≠ []) (h1:l.all V.one = true) (hn:n' ≤ 1000000) (hq:1 ≤ q ∧ q ≤ 24) (hc:o + len ≤ cs.length) (e1:len + l.length = n') (e2:(cs.drop o).take len ++ l = cs'):appendV M (z,q) (.sl c o len none) l = some (.val (.sl M.length 0 n' none) (M.set c .dead ++ [.own cs' 1])):=by
 subst e1 e2
 exact ap_go hb h0 h1 hn hq hc
theorem iRow_len {l:List Int}:(iRow l).length = l.length:=by simp [iRow]
theorem iRow_one {l:List Int}:(iRow l).all V.one = true:=by simp [iRow,V.one]
theorem iRow_ne {l:List Int} (h:0 < l.length):iRow l ≠ []:=by intro e; have:=congrArg List.length e; rw [iRow_len] at this; simp only [List.length_nil] at this; omega
theorem iRow_drop {l:List Int} {n:Nat}:(iRow l).drop n = iRow (l.drop n):=by simp [iRow,List.map_drop]
theorem iRow_take {l:List Int} {n:Nat}:(iRow l).take n = iRow (l.take n):=by simp [iRow,List.map_take]
theorem iRow_app {l r:List Int}:iRow l ++ iRow r = iRow (l ++ r):=by simp [iRow]
theorem rd_row1 {M:Mem} {b o n:Nat} {l:List Int} {g:Nat} (h:M[b]? = some (.own (iRow l) g)) (hn:o + n ≤ l.length):rd M b o n = some (iRow ((l.drop o).take n)):=by
 rw [rd_own h (by rw [iRow_len]; exact hn),iRow_drop,iRow_take]
def kyA (b o tb kb i:Nat) (lim:Option Nat) (out:V):List (Nat × V):=[(0,.sl b o 8 lim),(4,.sl tb 0 56 none),(5,.sl kb 0 48 none),(6,out),(24,.int .i64 i)]
def kyB (b o kb i:Nat) (lim:Option Nat) (out l9 l10:V) (n:Nat):List (Nat × V):=[(0,.sl b o 8 lim),(5,.sl kb 0 48 none),(6,out),(24,.int .i64 i),(8,.int .i64 n),(9,l9),(10,l10)]
theorem ky_cut (hG:GOK G) (ht:M1[tb]? = some (.own (iRow tab) 1)) (htl:tab.length = 56) {n:Nat} {l:List (Nat × V)} (hl:subL 85 l ((8,.int .i64 n) :: kyA b o tb kb i lim out))
  (hQ:∀ (l2:List (Nat × V)) (M2:Mem) (c1 c2:Nat),GrowL M1 M2 [] → M1.length ≤ c1 → M1.length ≤ c2 → c1 ≠ c2 → M2[c1]? = some (.own (iRow (tab.take 28)) 1) → M2[c2]? = some (.own (iRow (tab.drop 28)) 1) → subL 85 l2 (kyB b o kb i lim out (.sl c1 0 28 none) (.sl c2 0 28 none) n) → Q .normal (mkSt 85 l2 M2)) :
  AWX G (cAt [1,1,0,0,1,1,1,0] kyOut) (mkSt 85 l M1) Q:=by
 have hkn:=known_own ht
 rw [iRow_len,htl] at hkn
 have htb:=lt_of ht
 refine AWX.ff _ hl (AWX.draw ?_)
 refine QG2.b (bad:=[40,41]) hG (by kernel_rfl) rfl (st_mv rfl) rfl ?_
 refine QG2.q (bad:=[40,41]) hG (by kernel_rfl) rfl rfl (st_slT (i:=28) sl56 rfl rfl (by omega) (show 0 + 56 ≤ known M1 tb by omega)) rfl ?_
 refine QG2.c (bad:=[40,41]) hG (by kernel_rfl) rfl (.inl rfl) rfl (st_call rfl rfl) (clone56 hG (rd_row1 ht (by omega)) (by omega) (by omega)) (GrowL.two _ _ _ _ _) rfl ?_
 refine QG2.b (bad:=[37,38,39]) hG (by kernel_rfl) rfl (st_mv rfl) rfl ?_
 have hM2:GrowL M1 (M1 ++ [.own [] 0,.own (iRow ((tab.drop 0).take 28)) 1]) []:=GrowL.two _ _ _ _ _
 have hc1:(M1 ++ [Blk.own [] 0,.own (iRow ((tab.drop 0).take 28)) 1])[M1.length + 1]? = some (.own (iRow ((tab.drop 0).take 28)) 1):=by rw [List.getElem?_append_right (by omega)]; simp
 have hM2l:(M1 ++ [Blk.own [] 0,.own (iRow ((tab.drop 0).take 28)) 1]).length = M1.length + 2:=by simp
 generalize M1 ++ [Blk.own [] 0,.own (iRow ((tab.drop 0).take 28)) 1] = M2 at hM2 hc1 hM2l
 have ht2:=hM2.g0 ht
 refine QG2.k [tb] (bad:=[37,38,39]) hG (by kernel_rfl) ⟨.inr fun c hc => by simp only [List.mem_singleton] at hc; subst hc; exact ⟨by simp,htb⟩,trivial⟩ rfl (st_slD (i:=28) sl56 rfl rfl (by omega) (show 0 + 56 ≤ known (maskK [tb] M2) tb by rw [maskK_known (by simp),known_own ht2,iRow_len]; omega)) rfl ?_
 refine QG2.c (bad:=[]) hG (by kernel_rfl) (by kernel_rfl) (.inl rfl) rfl (st_call rfl rfl) (clone56 hG (n:=28) (rd_row1 ht2 (by omega)) (by omega) (by omega)) (GrowL.two _ _ _ _ _) rfl ?_
 refine QG2.b (bad:=[]) hG (by kernel_rfl) rfl (st_as rfl) rfl ?_
 refine QG2.b (bad:=[]) hG (by kernel_rfl) rfl (st_as rfl) rfl ?_
 refine QG2.done (by kernel_rfl) rfl (hQ _ _ _ _ (hM2.tr (GrowL.two _ _ _ _ _)) (by omega) (by rw [hM2l]; omega) (by omega) ((GrowL.two _ _ _ _ _).g0 hc1) ?_ ⟨rfl,rfl,rfl,rfl,rfl,rfl,rfl,trivial⟩)
 rw [List.getElem?_append_right (by omega),show M2.length + 1 - M2.length = 1 by omega]
 have:List.take 28 (List.drop 28 tab) = tab.drop 28:=List.take_of_length_le (by simp; omega)
 simp [this]
theorem ky_rot (hG:GOK G) {M2:Mem} {c1 c2 n:Nat} {L R:List Int} {l:List (Nat × V)} (hM:GrowL M1 M2 []) (hc1:M1.length ≤ c1) (hc2:M1.length ≤ c2) (hne:c1 ≠ c2) (h1:M2[c1]? = some (.own (iRow L) 1)) (h2:M2[c2]? = some (.own (iRow R) 1)) (hL:L.length = 28) (hR:R.length = 28) (hn:1 ≤ n) (hn2:n ≤ 2)
  (hl:subL 85 l (kyB b o kb i lim out (.sl c1 0 28 none) (.sl c2 0 28 none) n))
  (hQ:∀ (l2:List (Nat × V)) (M3:Mem) (tb:Nat),GrowL M1 M3 [] → M1.length ≤ tb → M3[tb]? = some (.own (iRow (L.drop n ++ L.take n ++ R.drop n ++ R.take n)) 1) → subL 85 l2 (kyA b o tb kb i lim out) → Q .normal (mkSt 85 l2 M3)) :
  AWX G (cAt [1,1,0,0,1,1,1,1,0] kyOut) (mkSt 85 l M2) Q:=by
 have k1:=known_own h1
 have k2:=known_own h2
 rw [iRow_len,hL] at k1
 rw [iRow_len,hR] at k2
 have lt2:=lt_of h2
 refine AWX.ff _ hl (AWX.draw ?_)
 refine QG2.b (bad:=[44,46,47,48,50,51,52,54,55,56]) hG (by kernel_rfl) rfl (st_mv rfl) rfl ?_
 refine QG2.b (bad:=[43,46,47,48,50,51,52,54,55,56]) hG (by kernel_rfl) rfl (st_mv rfl) rfl ?_
 refine QG2.q (bad:=[46,47,48,50,51,52,54,55,56]) hG (by kernel_rfl) rfl rfl (st_slD (i:=n) sl56 rfl rfl (by omega) (show 0 + 28 ≤ known M2 c1 by omega)) rfl ?_
 refine QG2.b (bad:=[43,44,45,47,50,51,52,54,55,56]) hG (by kernel_rfl) rfl (st_mv rfl) rfl ?_
 refine QG2.b (bad:=[43,44,45,46,50,51,52,54,55,56]) hG (by kernel_rfl) rfl (st_mv rfl) rfl ?_
 refine QG2.q (bad:=[43,44,45,50,51,52,54,55,56]) hG (by kernel_rfl) rfl rfl (st_slT (i:=n) sl56 rfl rfl (by omega) (show 0 + 28 ≤ known M2 c1 by omega)) rfl ?_
 refine QG2.av (T:=[c1]) (bad:=[50,51,52,54,55,56]) hG (by kernel_rfl) rfl (.inr (all_lt (by kernel_rfl))) rfl (st_ap el56 rfl rfl (rd_row1 (n:=n) h1 (by omega)) (ap_go' (n':=28) (cs':=iRow (L.drop n ++ L.take n)) h1 (iRow_ne (by simp; omega)) iRow_one (by omega) (by decide) (by rw [iRow_len]; omega) (by rw [iRow_len]; simp; omega) (by
  rw [iRow_drop,iRow_take,iRow_app,Nat.zero_add,List.drop_zero,List.take_of_length_le (by simp; omega)]))) ((GrowL.ch h1 (by simp) (by simp)).tr (GrowL.one _ _ _)) rfl ?_
 have hg:GrowL M2 (M2.set c1 .dead ++ [.own (iRow (L.drop n ++ L.take n)) 1]) [c1]:=(GrowL.ch h1 (by simp) (by simp)).tr (GrowL.one _ _ _)
 have hM3:GrowL M1 (M2.set c1 .dead ++ [.own (iRow (L.drop n ++ L.take n)) 1]) []:=(hM.st hc1 h1 (by simp)).tr (GrowL.one _ _ _)
 have h3:(M2.set c1 .dead ++ [Blk.own (iRow (L.drop n ++ L.take n)) 1])[M2.length]? = some (.own (iRow (L.drop n ++ L.take n)) 1):=by simp
 generalize M2.set c1 .dead ++ [Blk.own (iRow (L.drop n ++ L.take n)) 1] = M3 at hg hM3 h3
 have h23:=hg.g h2 (by simp; omega)
 refine QG2.b (bad:=[43,44,45,46,47,48,49,51,54,55,56]) hG (by kernel_rfl) rfl (st_mv rfl) rfl ?_
 refine QG2.b (bad:=[43,44,45,46,47,48,49,50,54,55,56]) hG (by kernel_rfl) rfl (st_mv rfl) rfl ?_
 refine QG2.k [c2] (bad:=[43,44,45,46,47,48,49,54,55,56]) hG (by kernel_rfl) ⟨.inr fun c hc => by simp only [List.mem_singleton] at hc; subst hc; exact ⟨by simp; omega,lt2⟩,trivial⟩ rfl (st_slD (i:=n) sl56 rfl rfl (by omega) (show 0 + 28 ≤ known (maskK [c2] M3) c2 by rw [maskK_known (by simp),known_own h23,iRow_len]; omega)) rfl ?_
 have hl4:(L.drop n ++ L.take n).length = 28:=by simp; omega
 refine QG2.av (T:=[M2.length]) (bad:=[54,55,56]) hG (by kernel_rfl) (by kernel_rfl) (.inr (all_lt (by kernel_rfl))) rfl (st_ap el56 rfl rfl (rd_row1 (n:=28 - n) h23 (by omega)) (ap_go' (n':=56 - n) (cs':=iRow (L.drop n ++ L.take n ++ R.drop n)) h3 (iRow_ne (by simp; omega)) iRow_one (by omega) (by decide) (by rw [iRow_len]; omega) (by rw [iRow_len]; simp; omega) (by
  rw [iRow_drop,iRow_take,iRow_app,Nat.zero_add,List.drop_zero,List.take_of_length_le (i:=28) (l:=L.drop n ++ L.take n) (by omega),List.take_of_length_le (i:=28 - n) (l:=R.drop n) (by simp; omega)]))) ((GrowL.ch h3 (by simp) (by simp)).tr (GrowL.one _ _ _)) rfl ?_
 have hle3:=hg.le
 have hg4:GrowL M3 (M3.set M2.length .dead ++ [.own (iRow (L.drop n ++ L.take n ++ R.drop n)) 1]) [M2.length]:=(GrowL.ch h3 (by simp) (by simp)).tr (GrowL.one _ _ _)
 have hM4:GrowL M1 (M3.set M2.length .dead ++ [.own (iRow (L.drop n ++ L.take n ++ R.drop n)) 1]) []:=(hM3.st hM.le h3 (by simp)).tr (GrowL.one _ _ _)
 have h4:(M3.set M2.length .dead ++ [Blk.own (iRow (L.drop n ++ L.take n ++ R.drop n)) 1])[M3.length]? = some (.own (iRow (L.drop n ++ L.take n ++ R.drop n)) 1):=by simp
 generalize M3.set M2.length .dead ++ [Blk.own (iRow (L.drop n ++ L.take n ++ R.drop n)) 1] = M4 at hg4 hM4 h4
 have h24:=hg4.g h23 (by simp; omega)
 have lt3:=lt_of h23
 refine QG2.b (bad:=[43,44,45,46,47,48,49,50,51,52,53,55]) hG (by kernel_rfl) rfl (st_mv rfl) rfl ?_
 refine QG2.b (bad:=[43,44,45,46,47,48,49,50,51,52,53,54]) hG (by kernel_rfl) rfl (st_mv rfl) rfl ?_
 refine QG2.k [c2] (bad:=[43,44,45,46,47,48,49,50,51,52,53]) hG (by kernel_rfl) ⟨.inr fun c hc => by simp only [List.mem_singleton] at hc; subst hc; exact ⟨by simp; omega,lt3⟩,.inr fun c hc => by simp only [List.mem_singleton] at hc; subst hc; exact ⟨by simp; omega,lt2⟩,trivial⟩ rfl (st_slT (i:=n) sl56 rfl rfl (by omega) (show 0 + 28 ≤ known (maskK [c2] M4) c2 by rw [maskK_known (by simp),known_own h24,iRow_len]; omega)) rfl ?_
 have hl5:(L.drop n ++ L.take n ++ R.drop n).length = 56 - n:=by simp; omega
 refine QG2.av (T:=[M3.length]) (bad:=[]) hG (by kernel_rfl) (by kernel_rfl) (.inr (all_lt (by kernel_rfl))) rfl (st_ap el56 rfl rfl (rd_row1 (n:=n) h24 (by omega)) (ap_go' (n':=56) (cs':=iRow (L.drop n ++ L.take n ++ R.drop n ++ R.take n)) h4 (iRow_ne (by simp; omega)) iRow_one (by omega) (by decide) (by rw [iRow_len]; omega) (by rw [iRow_len]; simp; omega) (by
  rw [iRow_drop,iRow_take,iRow_app,List.drop_zero,List.take_of_length_le (i:=56 - n) (by omega),List.drop_zero]))) ((GrowL.ch h4 (by simp) (by simp)).tr (GrowL.one _ _ _)) rfl ?_
 refine QG2.b (bad:=[]) hG (by kernel_rfl) rfl (st_as rfl) rfl ?_
 refine QG2.done (by kernel_rfl) rfl (hQ _ _ M4.length ((hM4.st (Nat.le_trans hM3.le (Nat.le_refl _)) h4 (by simp)).tr (GrowL.one _ _ _)) hM4.le (by simp) ⟨rfl,rfl,rfl,rfl,rfl,trivial⟩)
theorem ky_by (hG:GOK G) (hi:i < 16) {l:List (Nat × V)} (hl:subL 85 l ((7,.int .i64 i) :: (8,.int .i64 2) :: kyA b o tb kb i lim out))
  (hQ:∀ l2,subL 85 l2 ((8,.int .i64 (byOf i)) :: kyA b o tb kb i lim out) → Q .normal (mkSt 85 l2 M1)):AWX G (cAt [1,1,0,0,1,1,0] kyOut) (mkSt 85 l M1) Q:=by
 refine AWX.ff _ hl ?_
 by_cases h2:i < 2
 ·refine AWX.seq (AWX.region (AOX.q hG rfl (st_mv rfl) rfl (AOX.q hG rfl (st_bin rfl rfl (b_lssT (by omega))) rfl (AOX.q hG rfl (st_mv rfl) rfl
   (AOX.qn rfl rfl rfl rfl (AOX.qn rfl rfl rfl rfl (AOX.q hG rfl (st_pickT rfl rfl) rfl (AOX.q hG rfl (st_mv rfl) rfl
   (AOX.qn rfl rfl rfl rfl (AOX.qn rfl rfl rfl rfl (AOX.q hG rfl (st_pickT rfl rfl) rfl (AOX.nil ?_))))))))))))
  refine AWX.ct rfl (AWX.region (AOX.q (v:=.int .i64 (byOf i)) hG rfl (st_as (by rw [byOf,if_pos (.inl h2)]; rfl)) rfl (AOX.nil (hQ _ ⟨rfl,rfl,rfl,rfl,rfl,rfl,trivial⟩))))
 by_cases h8:i = 8
 ·refine AWX.seq (AWX.region (AOX.q hG rfl (st_mv rfl) rfl (AOX.q hG rfl (st_bin rfl rfl (b_lssF (by omega))) rfl (AOX.q hG rfl (st_mv rfl) rfl
   (AOX.qg hG rfl rfl (st_mv rfl) rfl (AOX.qg hG rfl rfl (st_bin rfl rfl (b_eqlT (by omega))) rfl (AOX.q hG rfl (st_pickF rfl rfl) rfl (AOX.q hG rfl (st_mv rfl) rfl
   (AOX.qn rfl rfl rfl rfl (AOX.qn rfl rfl rfl rfl (AOX.q hG rfl (st_pickT rfl rfl) rfl (AOX.nil ?_))))))))))))
  refine AWX.ct rfl (AWX.region (AOX.q (v:=.int .i64 (byOf i)) hG rfl (st_as (by rw [byOf,if_pos (.inr (.inl h8))]; rfl)) rfl (AOX.nil (hQ _ ⟨rfl,rfl,rfl,rfl,rfl,rfl,trivial⟩))))
 by_cases h15:i = 15
 ·refine AWX.seq (AWX.region (AOX.q hG rfl (st_mv rfl) rfl (AOX.q hG rfl (st_bin rfl rfl (b_lssF (by omega))) rfl (AOX.q hG rfl (st_mv rfl) rfl
   (AOX.qg hG rfl rfl (st_mv rfl) rfl (AOX.qg hG rfl rfl (st_bin rfl rfl (b_eqlF (by omega))) rfl (AOX.q hG rfl (st_pickF rfl rfl) rfl (AOX.q hG rfl (st_mv rfl) rfl
   (AOX.qg hG rfl rfl (st_mv rfl) rfl (AOX.qg hG rfl rfl (st_bin rfl rfl (b_eqlT (by omega))) rfl (AOX.q hG rfl (st_pickF rfl rfl) rfl (AOX.nil ?_))))))))))))
  refine AWX.ct rfl (AWX.region (AOX.q (v:=.int .i64 (byOf i)) hG rfl (st_as (by rw [byOf,if_pos (.inr (.inr h15))]; rfl)) rfl (AOX.nil (hQ _ ⟨rfl,rfl,rfl,rfl,rfl,rfl,trivial⟩))))
 refine AWX.seq (AWX.region (AOX.q hG rfl (st_mv rfl) rfl (AOX.q hG rfl (st_bin rfl rfl (b_lssF (by omega))) rfl (AOX.q hG rfl (st_mv rfl) rfl
   (AOX.qg hG rfl rfl (st_mv rfl) rfl (AOX.qg hG rfl rfl (st_bin rfl rfl (b_eqlF (by omega))) rfl (AOX.q hG rfl (st_pickF rfl rfl) rfl (AOX.q hG rfl (st_mv rfl) rfl
   (AOX.qg hG rfl rfl (st_mv rfl) rfl (AOX.qg hG rfl rfl (st_bin rfl rfl (b_eqlF (by omega))) rfl (AOX.q hG rfl (st_pickF rfl rfl) rfl (AOX.nil ?_))))))))))))
 have e:byOf i = 2:=by rw [byOf,if_neg (by omega)]
 exact AWX.cf rfl (AWX.skip (hQ _ ⟨by rw [e]; rfl,rfl,rfl,rfl,rfl,rfl,trivial⟩))
structure KyI (M M1:Mem) (i tb kb ob:Nat) (bs:List Nat) (x:List Int):Prop where
 gr:GrowL M M1 []
 tb:M1[tb]? = some (.own (iRow (desTabs i)) 1)
 kb:M1[kb]? = some (.own (iRow (desTk.map fun n:Nat => (n:Int))) 1)
 ol:M.length ≤ ob
 ob:M1[ob]? = some (.own (bs.map (fun b => V.sl b 0 6 (some 6)) ++ List.replicate (16 - i) .nilsl) 0)
 bl:bs.length = i
 nd:bs.Nodup
 bs:∀ (j c:Nat),bs[j]? = some c → M.length ≤ c ∧ M1[c]? = some (.own (u8s' (pmOut x (tPick j))) 0)
theorem KyI.grow {M M1 M2:Mem} {ob:Nat} {bs:List Nat} {x:List Int} (h:KyI M M1 i tb kb ob bs x) (hM:GrowL M1 M2 []):KyI M M2 i tb kb ob bs x :=
 ⟨h.gr.tr hM,hM.g0 h.tb,hM.g0 h.kb,h.ol,hM.g0 h.ob,h.bl,h.nd,fun j c hj => ⟨(h.bs j c hj).1,hM.g0 (h.bs j c hj).2⟩⟩
theorem ky_round (hG:GOK G) {M M1:Mem} {ob:Nat} {bs:List Nat} {x:List Int} (hrun:bitRuns 8) (hx:x.length = 8) (hxb:Bytes x) (hr:rd M b o 8 = some (u8s' x)) (hlim:LimP M b o 8 lim) (hb:b < M.length) (hi:i < 16) (h:KyI M M1 i tb kb ob bs x) {l:List (Nat × V)} (hl:subL 85 l (kyA b o tb kb i lim (.sl ob 0 i (some 16))))
  (hQ:∀ l2 M2 tb2 bs2,KyI M M2 (i + 1) tb2 kb ob bs2 x → subL 85 l2 (kyA b o tb2 kb (i + 1) lim (.sl ob 0 (i + 1) (some 16))) → LX G kyOut (mkSt 85 l2 M2) Q):LX G kyOut (mkSt 85 l M1) Q:=by
 refine LX.step (AWX.ff _ hl ?_)
 refine AWX.seq (AWX.region (AOX.q hG rfl (st_bin rfl rfl (b_lssT (by omega))) rfl (AOX.nil ?_)))
 refine AWX.seq (AWX.ct rfl (AWX.skip ?_))
 refine AWX.seq (AWX.block (AWX.seq (AWX.region (AOX.q hG rfl (st_mv rfl) rfl (AOX.q hG rfl (st_as rfl) rfl (AOX.nil ?_))))))
 refine AWX.seq (AWX.region (AOX.q hG rfl (st_as rfl) rfl (AOX.nil ?_)))
 refine AWX.seq (ky_by (b:=b) (o:=o) (tb:=tb) (kb:=kb) (i:=i) (lim:=lim) hG hi ⟨rfl,rfl,rfl,rfl,rfl,rfl,rfl,trivial⟩ ?_)
 clear hl l
 intro l hl
 have htl:=tabs_len i (by omega)
 refine AWX.seq (ky_cut hG h.tb htl hl ?_)
 clear hl l
 intro l M2 c1 c2 hM2 hc1 hc2 hne h1 h2 hl
 have hby:1 ≤ byOf i ∧ byOf i ≤ 2:=by unfold byOf; split <;> omega
 refine AWX.seq (ky_rot hG hM2 hc1 hc2 hne h1 h2 (by simp; omega) (by simp; omega) hby.1 hby.2 hl ?_)
 clear hl l
 intro l M3 tb2 hM3 htb2 h3 hl
 have h3:M3[tb2]? = some (.own (iRow (desTabs (i + 1))) 1):=h3
 have hI3:=h.grow hM3
 refine AWX.seq (AWX.ff _ hl (AWX.region (AOX.q hG rfl (st_as rfl) rfl (AOX.nil ?_))))
 refine AWX.seq (AWX.seq (AWX.region (AOX.q hG rfl (st_mv rfl) rfl (AOX.q hG rfl (st_len sl56 rfl) rfl (AOX.q hG rfl (st_mv rfl) rfl (AOX.nil ?_))))))
 refine AWX.block (AWX.loop (ky_in (b:=b) (o:=o) (lim:=lim) (i:=i) (out:=.sl ob 0 i (some 16)) hG h3 (tabs_len (i + 1) (by omega)) hI3.kb 48 0 _ M3 .nilsl rfl (GrowL.refl _) (.inl ⟨rfl,rfl⟩) ⟨rfl,rfl,rfl,rfl,rfl,rfl,rfl,rfl,rfl,trivial⟩ ?_))
 clear hl l
 intro l M4 pk hM4 hpk hl
 have hI4:=hI3.grow hM4
 have h4:=hM4.g0 h3
 rw [pick_ok i hi] at hpk
 rcases hpk with ⟨_,hpk⟩ | ⟨pb,_,rfl,hpb⟩
 ·have:=congrArg List.length hpk
  have h48:=tPick_len i
  simp [iRow,h48] at this
 have h48:=tPick_len i
 rw [show (iRow ((tPick i).map fun n:Nat => (n:Int))).length = 48 by simp [iRow,h48]] at hl
 have hA:PmA M4 b o 8 pb 0 48 lim none x (tPick i):=by
  refine ⟨hrun,hx,hxb,rd_grow hI4.gr hr (by simp),LimP.grow hI4.gr hlim hb (by simp),h48,fun n hn => tPick_in i n hn,?_,by omega⟩
  rw [rd_own0 hpb (by simp [iRow,h48])]; simp [iRow]
 refine AWX.seq (AWX.ff _ hl (AWX.region (AOX.q hG rfl (st_mv rfl) rfl (AOX.q hG rfl (st_mv rfl) rfl (AOX.qc hG rfl (st_call rfl rfl) (pm_call hG hA) rfl
  (AOX.q hG rfl (st_mv rfl) rfl (AOX.q hG rfl (st_ex rfl rfl) rfl (AOX.q hG rfl (st_ex rfl rfl) rfl (AOX.q hG rfl (st_as rfl) rfl (AOX.q hG rfl (st_as rfl) rfl (AOX.nil ?_)))))))))))
 have hM5:GrowL M4 (M4 ++ [.own (u8s' (pmOut x (tPick i))) 0]) []:=GrowL.one _ _ _
 have hk5:(M4 ++ [Blk.own (u8s' (pmOut x (tPick i))) 0])[M4.length]? = some (.own (u8s' (pmOut x (tPick i))) 0):=app_last
 have hle4:=hI4.gr.le
 have hkk:M4.length ∉ bs:=fun hm => by
  obtain ⟨j,hj⟩:=List.getElem?_of_mem hm
  have:=lt_of (hI4.bs j _ hj).2
  omega
 generalize M4 ++ [Blk.own (u8s' (pmOut x (tPick i))) 0] = M5 at hM5 hk5
 generalize M4.length = kk at hk5 hle4 hkk
 refine AWX.region (AOX.q hG rfl (st_mv rfl) rfl (AOX.q hG rfl (st_mv rfl) rfl (AOX.qv hG rfl (st_bs1 el36 rfl rfl) rfl ?_)))
 have hM6:GrowL M4 (M5 ++ [.own [.sl kk 0 6 (some 6)] 0]) []:=hM5.tr (GrowL.one _ _ _)
 have hk6:(M5 ++ [Blk.own [.sl kk 0 6 (some 6)] 0])[kk]? = some (.own (u8s' (pmOut x (tPick i))) 0):=(GrowL.one _ _ _).g0 hk5
 have hn6:=app_last (M:=M5) (k:=Blk.own [.sl kk 0 6 (some 6)] 0)
 generalize M5 ++ [Blk.own [.sl kk 0 6 (some 6)] 0] = M6 at hM6 hk6 hn6
 have hI6:=hI4.grow hM6
 refine AOX.qv hG rfl (st_ap el36 rfl rfl (rd_own0 hn6 rfl) (ap_in hI6.ob (by simp; omega) (by simp) rfl (by simp [h.bl]; omega))) rfl (AOX.q hG rfl (st_as rfl) rfl (AOX.nil ?_))
 refine AWX.region (AOX.q hG rfl (st_bin rfl rfl (b_add (n:=1) (r:=i + 1) rfl (by omega))) rfl (AOX.q hG rfl (st_mv rfl) rfl (AOX.nil ?_)))
 have hrow:(bs.map (fun b => V.sl b 0 6 (some 6)) ++ List.replicate (16 - i) V.nilsl).take (0 + i) ++ [V.sl kk 0 6 (some 6)] ++ (bs.map (fun b => V.sl b 0 6 (some 6)) ++ List.replicate (16 - i) V.nilsl).drop (0 + i + 1) = (bs ++ [kk]).map (fun b => V.sl b 0 6 (some 6)) ++ List.replicate (16 - (i + 1)) .nilsl:=by
  rw [Nat.zero_add,List.take_left' (by simp [h.bl]),← List.drop_drop,List.drop_left' (by simp [h.bl]),List.drop_replicate,show 16 - i - 1 = 16 - (i + 1) by omega]
  simp
 refine hQ _ _ tb2 (bs ++ [kk]) ⟨hI6.gr.st h.ol hI6.ob (by simp),?_,?_,h.ol,?_,by simp [h.bl],List.nodup_append.2 ⟨h.nd,by simp,fun a ha b hb e => by simp only [List.mem_singleton] at hb; subst e hb; exact hkk ha⟩,?_⟩ ⟨rfl,rfl,rfl,rfl,rfl,trivial⟩
 ·rw [set_ne (fun e => by subst e; have:=hI6.ob; rw [hM6.g0 h4] at this; simp at this)]; exact hM6.g0 h4
 ·rw [set_ne (fun e => by subst e; have:=hI6.ob; rw [hI6.kb] at this; simp at this)]; exact hI6.kb
 ·rw [set_get hI6.ob]; simp only [List.length_singleton]; rw [hrow]
 ·intro j c hj
  have hne:M6[c]? = some (.own (u8s' (pmOut x (tPick j))) 0) → ob ≠ c:=fun hc e => by
   subst e
   have:=hI6.ob
   rw [hc] at this
   injection this with this
   injection this with this
   have:=congrArg List.length this
   rw [u8s'_len,pmOut_len,tPick_len] at this
   simp [h.bl] at this
   omega
  by_cases hj2:j < i
  ·rw [List.getElem?_append_left (by rw [h.bl]; exact hj2)] at hj
   have:=hI6.bs j c hj
   rw [set_ne (hne this.2)]; exact this
  ·rw [List.getElem?_append_right (by rw [h.bl]; omega)] at hj
   have hj0:j - bs.length = 0:=by
    have:=(List.getElem?_eq_some_iff.1 hj).1
    simp only [List.length_singleton] at this
    omega
   rw [hj0] at hj
   simp only [List.getElem?_cons_zero,Option.some.injEq] at hj
   subst hj
   have hji:j = i:=by rw [h.bl] at hj0; omega
   subst hji
   rw [set_ne (hne hk6)]; exact ⟨hle4,hk6⟩
theorem ky_loop (hG:GOK G) {M:Mem} {ob:Nat} {x:List Int} (hrun:bitRuns 8) (hx:x.length = 8) (hxb:Bytes x) (hr:rd M b o 8 = some (u8s' x)) (hlim:LimP M b o 8 lim) (hb:b < M.length)
  (hQ:∀ l2 M2 tb2 bs2,KyI M M2 16 tb2 kb ob bs2 x → subL 85 l2 (kyA b o tb2 kb 16 lim (.sl ob 0 16 (some 16))) → Q (.exit 0) (mkSt 85 l2 M2)):∀ (n i:Nat) (l:List (Nat × V)) (M1:Mem) (tb:Nat) (bs:List Nat),i + n = 16 → KyI M M1 i tb kb ob bs x → subL 85 l (kyA b o tb kb i lim (.sl ob 0 i (some 16))) → LX G kyOut (mkSt 85 l M1) Q
 | 0,i,l,M1,tb,bs,hn,h,hl => by
  have:i = 16:=by omega
  subst this
  refine LX.step (AWX.ff _ hl ?_)
  refine AWX.seq (AWX.region (AOX.q hG rfl (st_bin rfl rfl (b_lssF (by omega))) rfl (AOX.nil ?_)))
  exact AWX.seq (AWX.cf rfl (AWX.exit (hQ _ _ _ _ h ⟨rfl,rfl,rfl,rfl,rfl,trivial⟩)))
 | n + 1,i,l,M1,tb,bs,hn,h,hl =>
  ky_round hG hrun hx hxb hr hlim hb (by omega) h hl fun l2 M2 tb2 bs2 h2 hl2 => ky_loop hG hrun hx hxb hr hlim hb hQ n (i + 1) l2 M2 tb2 bs2 (by omega) h2 hl2
def chosenChk:Bool:=match FN noX tyF fn noS 6 103 [] [] with
 | some p => match p.1 with
  | .tup [.sl b1 0 56 none,.sl b2 0 48 none] => !Nat.beq b1 b2 && match nth p.2.1 b1,nth p.2.1 b2 with
   | some (.own cs 1),some (.own ds 1) => eqVs cs (iRow desTab) && eqVs ds (iRow (desTk.map fun n:Nat => (n:Int)))
   | _,_ => false
  | _ => false
 | none => false
theorem chosen_ok:chosenChk = true:=by kernel_rfl
theorem chosen_call (hG:GOK G) (M:Mem):ACall Tryz.prog G 103 [] M (.tup [.sl M.length 0 56 none,.sl (M.length + 1) 0 48 none]) (M ++ [.own (iRow desTab) 1,.own (iRow (desTk.map fun n:Nat => (n:Int))) 1]):=by
 have h:=chosen_ok
 unfold chosenChk at h
 split at h
 ·rename_i p hp
  obtain ⟨v0,M0',ch0⟩:=p
  simp only at h
  split at h
  ·rename_i b1 b2
   simp only [Bool.and_eq_true,nth_eq] at h
   obtain ⟨hne,h⟩:=h
   have hne:b1 ≠ b2:=fun e => by subst e; simp at hne
   split at h
   ·rename_i cs ds h1 h2
    simp only [Bool.and_eq_true] at h
    have e1:=eqVs_iff h.1
    have e2:=eqVs_iff h.2
    subst e1 e2
    have hk:=conS_ok (run hG noX_ok noS_ok 6 _ _ _ _ _ _ hp).1 (bl:=[b1,b2]) (fun i j b' hi hj => by
     have h1:=(List.getElem?_eq_some_iff.1 hi).1
     have h2:=(List.getElem?_eq_some_iff.1 hj).1
     simp only [List.length_cons,List.length_nil] at h1 h2
     have:(i = 0 ∨ i = 1) ∧ (j = 0 ∨ j = 1):=by omega
     rcases this with ⟨rfl | rfl,rfl | rfl⟩ <;> simp at hi hj
     ·rfl
     ·omega
     ·omega
     ·rfl)
    refine (hk 103 [] M _ _ [] ?_).1
    unfold conS
    have hr:rep [] [b1,b2] M.length (.tup [.sl b1 0 56 none,.sl b2 0 48 none]) = some (.tup [.sl M.length 0 56 none,.sl (M.length + 1) 0 48 none]):=by simp [rep,reps,idxOf,hne]
    have hn:news [] [b1,b2] M.length M0' [b1,b2] = some [.own (iRow desTab) 1,.own (iRow (desTk.map fun n:Nat => (n:Int))) 1]:=by
     simp only [news,h1,h2,iRow,reps_ints,Option.map_some]
    simp only [hr,hn]
   ·cases h
  ·cases h
 ·cases h
theorem keys_call (hG:GOK G) {M:Mem} {x:List Int} (hx:x.length = 8) (hxb:Bytes x) (hr:rd M b o 8 = some (u8s' x)) (hlim:LimP M b o 8 lim) :
  ∃ (M2:Mem) (ob:Nat) (bs:List Nat),ACall Tryz.prog G 74 [.sl b o 8 lim] M (.tup [.sl ob 0 16 (some 16),.int .i64 0]) M2 ∧ GrowL M M2 [] ∧ M.length ≤ ob ∧ bs.length = 16 ∧ bs.Nodup ∧ M2[ob]? = some (.own (bs.map fun b => V.sl b 0 6 (some 6)) 0) ∧ ∀ (j c:Nat),bs[j]? = some c → M.length ≤ c ∧ M2[c]? = some (.own (u8s' (pmOut x (tPick j))) 0):=by
 have hb:b < M.length:=by
  obtain ⟨k,hk,_⟩:=rd_row hr
  exact lt_of hk
 suffices h:AWX G (fnOf Tryz.f74).body (mkSt 85 (argL 0 [.sl b o 8 lim]) M) (fun e s => ∃ (M2:Mem) (ob:Nat) (bs:List Nat),Fini 85 (fnOf Tryz.f74).results (.tup [.sl ob 0 16 (some 16),.int .i64 0]) M2 e s ∧ GrowL M M2 [] ∧ M.length ≤ ob ∧ bs.length = 16 ∧ bs.Nodup ∧ M2[ob]? = some (.own (bs.map fun b => V.sl b 0 6 (some 6)) 0) ∧ ∀ (j c:Nat),bs[j]? = some c → M.length ≤ c ∧ M2[c]? = some (.own (u8s' (pmOut x (tPick j))) 0)) by
  obtain ⟨e,s,h1,M2,ob,bs,h2,h3⟩:=h
  exact ⟨M2,ob,bs,acall_mk (n:=85) (fv:=fnOf Tryz.f74) rfl rfl (by simp) (by decide) ⟨e,s,h1,h2⟩,h3⟩
 refine AWX.seq (AWX.region (AOX.q hG rfl (st_as rfl) rfl (AOX.q hG rfl (st_as rfl) rfl (AOX.nil ?_))))
 refine AWX.seq (AWX.seq (AWX.region (AOX.q hG rfl (st_mv rfl) rfl (AOX.q hG rfl (st_len sl22 rfl) rfl (AOX.q hG rfl (st_bin rfl rfl (b_neqF (by omega))) rfl (AOX.nil ?_))))))
 refine AWX.cf rfl (AWX.skip ?_)
 refine AWX.seq (AWX.region (AOX.qc hG rfl (st_call rfl rfl) (chosen_call hG M) rfl (AOX.q hG rfl (st_mv rfl) rfl (AOX.q hG rfl (st_ex rfl rfl) rfl (AOX.q hG rfl (st_ex rfl rfl) rfl (AOX.q hG rfl (st_as rfl) rfl (AOX.q hG rfl (st_as rfl) rfl (AOX.nil ?_))))))))
 have hM1:GrowL M (M ++ [.own (iRow desTab) 1,.own (iRow (desTk.map fun n:Nat => (n:Int))) 1]) []:=GrowL.two _ _ _ _ _
 have h1:(M ++ [Blk.own (iRow desTab) 1,.own (iRow (desTk.map fun n:Nat => (n:Int))) 1])[M.length]? = some (.own (iRow desTab) 1):=by rw [List.getElem?_append_right (by omega)]; simp
 have h2:(M ++ [Blk.own (iRow desTab) 1,.own (iRow (desTk.map fun n:Nat => (n:Int))) 1])[M.length + 1]? = some (.own (iRow (desTk.map fun n:Nat => (n:Int))) 1):=by rw [List.getElem?_append_right (by omega)]; simp
 generalize M ++ [Blk.own (iRow desTab) 1,.own (iRow (desTk.map fun n:Nat => (n:Int))) 1] = M1 at hM1 h1 h2
 refine AWX.seq (AWX.region (AOX.qv hG rfl (st_mk (l:=0) (c:=16) el36 (by omega) rfl rfl (by omega) (by omega)) rfl (AOX.q hG rfl (st_as rfl) rfl (AOX.nil ?_))))
 refine AWX.seq (AWX.seq (AWX.region (AOX.q hG rfl (st_mv rfl) rfl (AOX.nil ?_))))
 refine AWX.block (AWX.loop (ky_loop (b:=b) (o:=o) (lim:=lim) (kb:=M.length + 1) (ob:=M1.length) hG bit8 hx hxb hr hlim hb ?_ 16 0 _ _ M.length [] rfl ⟨hM1.tr (GrowL.one _ _ _),(GrowL.one _ _ _).g0 h1,(GrowL.one _ _ _).g0 h2,hM1.le,app_last,rfl,List.nodup_nil,fun j c hj => by simp at hj⟩ ⟨rfl,rfl,rfl,rfl,rfl,trivial⟩))
 intro l M2 tb bs h hl
 refine AWX.seq (AWX.ff _ hl (AWX.region (AOX.q hG rfl (st_mv rfl) rfl (AOX.q hG rfl (st_as rfl) rfl (AOX.q hG rfl (st_as rfl) rfl (AOX.nil (AWX.ret ?_)))))))
 refine ⟨M2,M1.length,bs,⟨.inr rfl,_,_,rfl,rfl,rfl⟩,h.gr,h.ol,h.bl,h.nd,?_,h.bs⟩
 rw [h.ob]; simp
end
end
end Go.Proofs.YthajgdmcjfmjoaaGreatDoor.Rel
