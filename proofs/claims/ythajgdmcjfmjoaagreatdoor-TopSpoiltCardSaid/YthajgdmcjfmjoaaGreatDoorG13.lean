/- TopSpoilt, part 13 of 38 of its proof: a relative machine (values, memory, an evaluator, all sound against the model), and by it the walks. Conditions: none. -/
import Derived.ChangeKeysEq
import Derived.Test.YthajgdmcjfmjoaaGreatDoorG12
set_option linter.all false
namespace Go.Proofs.YthajgdmcjfmjoaaGreatDoor.Rel
section
open Go.Proofs
noncomputable section
section
variable {ρ:Operand → Option V} {M:Mem} {x:Operand} {t:TypeId}
theorem st_nil {b o:Nat} (hx:ρ x = some (.ptr b o)):astep noX tyF ρ M (.nilCheck x) = some (.pure (.ptr b o)):=by simp only [astep,aNil,hx]
theorem st_fa {f:Nat} {u v:V} (h:((tyF t).bind fun d => fieldV tyF d f u) = some v) (hx:ρ x = some u):astep noX tyF ρ M (.fieldAddr t x f) = some (.pure v):=by
 cases hd:tyF t with
 | none => rw [hd] at h; cases h
 | some d =>
  rw [hd] at h
  simp only [Option.bind_some] at h
  simp only [astep,aField,hd,hx,Option.bind_some,h,Option.map_some]
end
theorem one36:OneT 36:=⟨_,rfl,rfl,rfl⟩
structure AriA (M:Mem) (p nk:Nat) (ts:List V) (T:Nat → List Int) (K:Nat → List Int):Prop where
 tab:TabA M ts T
 st:∃ g kb klim,M[p]? = some (.own (ts ++ [.sl kb 0 nk klim]) g) ∧ ∀ j,j < nk → ∃ c lim,rd M kb j 1 = some [.sl c 0 16 lim] ∧ rd M c 0 16 = some (u8s' (K j)) ∧ LimP M c 0 16 lim
 kl:∀ j,j < nk → (K j).length = 16 ∧ Bytes (K j)
 nk:13 ≤ nk ∧ nk ≤ 17
structure AriB (M:Mem) (p nk kb:Nat) (klim:Option Nat) (ts:List V) (T K:Nat → List Int):Prop where
 tab:TabA M ts T
 p4:rd M p (0 + 0) 4 = some ts
 p1:rd M p (0 + 4) 1 = some [.sl kb 0 nk klim]
 ky:∀ j,j < nk → ∃ c lim,rd M kb (0 + j) 1 = some [.sl c 0 16 lim] ∧ rd M c 0 16 = some (u8s' (K j))
 kl:∀ j,j < nk → (K j).length = 16 ∧ Bytes (K j)
 nk:13 ≤ nk ∧ nk ≤ 17
theorem AriA.b {M:Mem} {p nk:Nat} {ts:List V} {T K:Nat → List Int} (h:AriA M p nk ts T K):∃ kb klim,AriB M p nk kb klim ts T K:=by
 obtain ⟨g,kb,klim,h1,h2⟩:=h.st
 have hl:=h.tab.len
 refine ⟨kb,klim,h.tab,?_,?_,fun j hj => ?_,h.kl,h.nk⟩
 ·rw [rd_own h1 (by simp [hl])]
  simp [← hl]
 ·rw [rd_own h1 (by simp [hl])]
  simp [← hl]
 ·obtain ⟨c,lim,h3,h4,_⟩:=h2 j hj
  exact ⟨c,lim,by rw [Nat.zero_add]; exact h3,h4⟩
theorem AriB.grow {M M':Mem} {p nk kb:Nat} {klim:Option Nat} {ts:List V} {T K:Nat → List Int} (h:AriB M p nk kb klim ts T K) (hM:GrowL M M' []):AriB M' p nk kb klim ts T K:=by
 refine ⟨h.tab.grow hM,rd_grow hM h.p4 (by simp),rd_grow hM h.p1 (by simp),fun j hj => ?_,h.kl,h.nk⟩
 obtain ⟨c,lim,h3,h4⟩:=h.ky j hj
 exact ⟨c,lim,rd_grow hM h3 (by simp),rd_grow hM h4 (by simp)⟩
def ariE (G:GF) (T K:Nat → List Int):Nat → List Int → List Int
 | 0,x => x
 | n + 1,x => turnF G (1 + n % 2) T (ariE G T K n x) (K n)
def ariD (G:GF) (T K:Nat → List Int):Nat → List Int → List Int
 | 0,x => x
 | n + 1,x => ariD G T K n (xorL (layL (2 - n % 2) T (mixF G x)) (K n))
def encA (G:GF) (T K:Nat → List Int) (nk:Nat) (x:List Int):List Int:=xorL (layL 2 T (xorL (ariE G T K (nk - 2) x) (K (nk - 2)))) (K (nk - 1))
def decA (G:GF) (T K:Nat → List Int) (nk:Nat) (x:List Int):List Int:=ariD G T K (nk - 2) (xorL (layL 1 T (xorL x (K (nk - 1)))) (K (nk - 2)))
def Is16 (x:List Int):Prop:=x.length = 16 ∧ Bytes x
section
variable {G:GF} {Q:AExit → St → Prop} {b p nk kb:Nat} {lim klim:Option Nat} {M:Mem} {x:List Int} {ts:List V} {T K:Nat → List Int} {bk:Bool}
theorem is_xor {x y:List Int} (hx:Is16 x) (hy:Is16 y):Is16 (xorL x y):=⟨by rw [xorL_len (by rw [hx.1,hy.1]),hx.1],xorL_in hx.2 hy.2⟩
theorem is_lay {w:Nat} (hT:∀ j,j < 4 → (T j).length = 256 ∧ Bytes (T j)) (hx:Is16 x):Is16 (layL w T x):=⟨by rw [layL_len,hx.1],layL_in hT⟩
theorem ariE_is (hG:GOK G) (hT:∀ j,j < 4 → (T j).length = 256 ∧ Bytes (T j)) (hx:Is16 x):∀ n,(∀ j,j < n → Is16 (K j)) → Is16 (ariE G T K n x)
 | 0,_ => hx
 | n + 1,hK => turnF_in hG hT (ariE_is hG hT hx n fun j hj => hK j (by omega)).1 (hK n (by omega)).1
theorem ariD_is (hG:GOK G) (hT:∀ j,j < 4 → (T j).length = 256 ∧ Bytes (T j)):∀ (n:Nat) {x:List Int},Is16 x → (∀ j,j < n → Is16 (K j)) → Is16 (ariD G T K n x)
 | 0,_,hx,_ => hx
 | n + 1,x,hx,hK => ariD_is hG hT n (is_xor (is_lay hT (mixF_in hG hx.1 hx.2)) (hK n (by omega))) fun j hj => hK j (by omega)
def bkC:Code:=cAt [1,0] (fnOf Tryz.f59).body
def bkLp:Code:=cAt [1,1,1,1,0,0,0] bkC
def bkN (b o p nk:Nat) (lim:Option Nat) (bk:Bool) (i:Int):List (Nat × V):=[(0,.ptr p 0),(1,.sl b o 16 lim),(2,.bool bk),(8,.int .i64 (nk - 1:Nat)),(9,.int .i64 i)]
theorem bk_enc (hG:GOK G) (hA:AriB M p nk kb klim ts T K) (hK:∀ j,j < nk → Is16 (K j)) (hx:Is16 x)
  (hQ:∀ l2 M2 b2 o2 lim2,GrowL M M2 [] → LimP M2 b2 o2 16 lim2 → rd M2 b2 o2 16 = some (u8s' (ariE G T K (nk - 2) x)) → subL 134 l2 (bkN b2 o2 p nk lim2 false (nk - 2:Nat)) → Q (.exit 0) (mkSt 134 l2 M2)) :
  ∀ (n i:Nat) (l:List (Nat × V)) (M1:Mem) (b o:Nat) (lim:Option Nat),i + n = nk - 2 → GrowL M M1 [] → LimP M1 b o 16 lim → rd M1 b o 16 = some (u8s' (ariE G T K i x)) → subL 134 l (bkN b o p nk lim false i) → LX G bkLp (mkSt 134 l M1) Q
 | 0,i,l,M1,b,o,lim,hn,hM,hlim,hr,hl => by
  have hnk:=hA.nk
  have hi:i = nk - 2:=by omega
  refine LX.step (AWX.ff _ hl ?_)
  refine AWX.seq (AWX.seq (AWX.region (AOX.q hG rfl (st_mv rfl) rfl (AOX.q hG rfl (st_mv rfl) rfl (AOX.q hG rfl (st_bin rfl rfl (b_sub (n:=1) (r:=nk - 2) (by omega) (by omega))) rfl (AOX.q hG rfl (st_bin rfl rfl (b_lssF (by omega))) rfl (AOX.nil ?_)))))))
  subst hi
  exact AWX.cf rfl (AWX.exit (hQ _ _ _ _ _ hM hlim hr ⟨rfl,rfl,rfl,rfl,rfl,trivial⟩))
 | n + 1,i,l,M1,b,o,lim,hn,hM,hlim,hr,hl => by
  have hnk:=hA.nk
  have hB:=hA.grow hM
  have hy:=ariE_is (K:=K) hG hA.tab.tl hx i fun j hj => hK j (by omega)
  have hk:=hK i (by omega)
  obtain ⟨c,lm,hk1,hk2⟩:=hB.ky i (by omega)
  obtain ⟨M2,q,hc,hM2,_,hq⟩:=turn_call (lim:=lim) (lim2:=lm) hG hB.tab (w:=1 + i % 2) (by omega) hy.1 hk.1 hy.2 hk.2 hr hk2
  refine LX.step (AWX.ff _ hl ?_)
  refine AWX.seq (AWX.seq (AWX.region (AOX.q hG rfl (st_mv rfl) rfl (AOX.q hG rfl (st_mv rfl) rfl (AOX.q hG rfl (st_bin rfl rfl (b_sub (n:=1) (r:=nk - 2) (by omega) (by omega))) rfl (AOX.q hG rfl (st_bin rfl rfl (b_lssT (by omega))) rfl (AOX.nil ?_)))))))
  refine AWX.ct rfl (AWX.skip ?_)
  refine AWX.seq (AWX.block (AWX.draw ?_))
  refine QG2.b (bad:=[30,31,32,33,34,35,36,37,38,39,40]) hG (by kernel_rfl) rfl (st_mv rfl) rfl ?_
  refine QG2.b (bad:=[30,31,32,33,34,35,36,37,38,39,40]) hG (by kernel_rfl) rfl (st_nil rfl) rfl ?_
  refine QG2.b (bad:=[30,31,32,33,34,35,36,37,38,39,40]) hG (by kernel_rfl) rfl (st_fa rfl rfl) rfl ?_
  refine QG2.q (bad:=[30,31,32,33,34,35,36,37,38,39,40]) hG (by kernel_rfl) rfl rfl (st_lda row133 rfl hB.p4) rfl ?_
  refine QG2.b (bad:=[26,27,28,29,33,34,35,36,37,38,39,40]) hG (by kernel_rfl) rfl (st_mv rfl) rfl ?_
  refine QG2.b (bad:=[26,27,28,29,33,34,35,36,37,38,39,40]) hG (by kernel_rfl) rfl (st_bin rfl rfl (b_rm (n:=2) (by omega))) rfl ?_
  refine QG2.b (bad:=[26,27,28,29,33,34,35,36,37,38,39,40]) hG (by kernel_rfl) rfl (st_bin rfl rfl (b_add (m:=1) (r:=1 + i % 2) rfl (by omega))) rfl ?_
  refine QG2.b (bad:=[26,27,28,29,30,31,32,34,35,36,37,38,39,40]) hG (by kernel_rfl) rfl (st_mv rfl) rfl ?_
  refine QG2.b (bad:=[26,27,28,29,30,31,32,33,38]) hG (by kernel_rfl) rfl (st_mv rfl) rfl ?_
  refine QG2.b (bad:=[26,27,28,29,30,31,32,33,38]) hG (by kernel_rfl) rfl (st_nil rfl) rfl ?_
  refine QG2.b (bad:=[26,27,28,29,30,31,32,33,38]) hG (by kernel_rfl) rfl (st_fa rfl rfl) rfl ?_
  refine QG2.q (bad:=[26,27,28,29,30,31,32,33,38]) hG (by kernel_rfl) rfl rfl (st_ld one36 rfl hB.p1) rfl ?_
  refine QG2.b (bad:=[26,27,28,29,30,31,32,33,34,35,36,37]) hG (by kernel_rfl) rfl (st_mv rfl) rfl ?_
  refine QG2.b (bad:=[26,27,28,29,30,31,32,33]) hG (by kernel_rfl) rfl (st_ix sl36 rfl rfl (show i < nk by omega)) rfl ?_
  refine QG2.q (bad:=[26,27,28,29,30,31,32,33]) hG (by kernel_rfl) rfl rfl (st_ld one22 rfl hk1) rfl ?_
  refine QG2.c (T:=[]) (bad:=[]) hG (by kernel_rfl) rfl (.inl rfl) rfl (st_call rfl rfl) hc hM2 rfl ?_
  refine QG2.b (bad:=[]) hG (by kernel_rfl) rfl (st_as rfl) rfl (QG2.done (by kernel_rfl) rfl ?_)
  refine AWX.region (AOX.q hG rfl (st_mv rfl) rfl (AOX.q hG rfl (st_bin rfl rfl (b_add (n:=1) (r:=i + 1) rfl (by omega))) rfl (AOX.q hG rfl (st_as rfl) rfl (AOX.nil ?_))))
  exact bk_enc hG hA hK hx hQ n (i + 1) _ M2 q 0 (some 16) (by omega) (hM.tr hM2) (show 16 ≤ 16 by omega) (rd_own0 hq (by rw [u8s'_len]; exact (turnF_in hG hA.tab.tl hy.1 hk.1).1)) ⟨rfl,rfl,rfl,rfl,rfl,trivial⟩
theorem kw_neg1:kwrap .i64 (-1) = -1:=by decide
theorem b_dec {d:Option Ty} {M:Mem} {k:Nat} (hk:k ≤ 1000):abin noX d M .sub (.int .i64 k) (.int .i64 1) = some (.int .i64 ((k:Int) - 1),none):=by
 have:kwrap .i64 ((k:Int) - 1) = (k:Int) - 1:=by
  cases k with
  | zero => exact kw_neg1
  | succ k => exact kw64 (by omega) (by omega)
 simp [abin,bInt,bLit,eint,this]
theorem bk_dec (hG:GOK G) (hA:AriB M p nk kb klim ts T K) (hK:∀ j,j < nk → Is16 (K j)) {z:List Int}
  (hQ:∀ l2 M2 b2 o2 lim2,GrowL M M2 [] → LimP M2 b2 o2 16 lim2 → rd M2 b2 o2 16 = some (u8s' z) → subL 134 l2 (bkN b2 o2 p nk lim2 true (-1)) → Q (.exit 2) (mkSt 134 l2 M2)) :
  ∀ (n:Nat) (y:List Int) (l:List (Nat × V)) (M1:Mem) (b o:Nat) (lim:Option Nat),n ≤ nk - 2 → Is16 y → ariD G T K n y = z → GrowL M M1 [] → rd M1 b o 16 = some (u8s' y) → LimP M1 b o 16 lim → subL 134 l (bkN b o p nk lim true ((n:Int) - 1)) → LX G (cAt [1,1,1,1,1,1,1,1,1,1,1,0,1,0,0] bkC) (mkSt 134 l M1) Q
 | 0,y,l,M1,b,o,lim,_,_,hz,hM,hr,hlim,hl => by
  refine LX.step (AWX.ff _ hl ?_)
  refine AWX.seq (AWX.seq (AWX.region (AOX.q hG rfl (st_mv rfl) rfl (AOX.q hG rfl (st_bin rfl rfl (b_geqF (by omega))) rfl (AOX.nil ?_)))))
  have hz:y = z:=hz
  rw [← hz] at hQ
  exact AWX.cf rfl (AWX.exit (hQ _ _ _ _ _ hM hlim hr ⟨rfl,rfl,rfl,rfl,rfl,trivial⟩))
 | n + 1,y,l,M1,b,o,lim,hn,hy,hz,hM,hr,hlim,hl => by
  have hnk:=hA.nk
  have hB:=hA.grow hM
  have hk:=hK n (by omega)
  have hm:=mixF_in hG hy.1 hy.2
  rw [show ((n + 1:Nat):Int) - 1 = n by omega] at hl
  refine LX.step (AWX.ff _ hl ?_)
  refine AWX.seq (AWX.seq (AWX.region (AOX.q hG rfl (st_mv rfl) rfl (AOX.q hG rfl (st_bin rfl rfl (b_geqT (by omega))) rfl (AOX.nil ?_)))))
  refine AWX.ct rfl (AWX.skip ?_)
  refine AWX.seq (AWX.block (AWX.seq (AWX.region (AOX.q hG rfl (st_mv rfl) rfl (AOX.qc hG rfl (st_call rfl rfl) (mix_call hG hy.1 hy.2 hr hlim) rfl (AOX.q hG rfl (st_mv rfl) rfl (AOX.q hG rfl (st_ex rfl rfl) rfl (AOX.q hG rfl (st_ex rfl rfl) rfl (AOX.q hG rfl (st_as rfl) rfl (AOX.nil ?_))))))))))
  have hM2:GrowL M (M1 ++ [.own (u8s' (mixF G y)) 0]) []:=hM.tr (GrowL.one _ _ _)
  have h2:(M1 ++ [Blk.own (u8s' (mixF G y)) 0])[M1.length]? = some (.own (u8s' (mixF G y)) 0):=app_last
  generalize M1 ++ [Blk.own (u8s' (mixF G y)) 0] = M2 at hM2 h2
  generalize M1.length = q at h2
  have hB2:=hA.grow hM2
  have hlay:=is_lay (w:=2 - n % 2) hA.tab.tl hm
  have hrow:=rd_own0 h2 (n:=16) (by rw [u8s'_len,hm.1])
  refine AWX.draw ?_
  refine QG2.b (bad:=[118,119,120,121,123,124,125,126,127,128,129]) hG (by kernel_rfl) rfl (st_mv rfl) rfl ?_
  refine QG2.b (bad:=[118,119,120,121,123,124,125,126,127,128,129]) hG (by kernel_rfl) rfl (st_nil rfl) rfl ?_
  refine QG2.b (bad:=[118,119,120,121,123,124,125,126,127,128,129]) hG (by kernel_rfl) rfl (st_fa rfl rfl) rfl ?_
  refine QG2.q (bad:=[118,119,120,121,123,124,125,126,127,128,129]) hG (by kernel_rfl) rfl rfl (st_lda row133 rfl hB2.p4) rfl ?_
  refine QG2.b (bad:=[114,115,116,117,121,123,124,125,126,127,128,129]) hG (by kernel_rfl) rfl (st_mv rfl) rfl ?_
  refine QG2.b (bad:=[114,115,116,117,121,123,124,125,126,127,128,129]) hG (by kernel_rfl) rfl (st_bin rfl rfl (b_rm (n:=2) (by omega))) rfl ?_
  refine QG2.b (bad:=[114,115,116,117,121,123,124,125,126,127,128,129]) hG (by kernel_rfl) rfl (st_bin rfl rfl (b_sub (m:=2) (r:=2 - n % 2) (by omega) (by omega))) rfl ?_
  refine QG2.b (bad:=[114,115,116,117,118,119,120,123,124,125,126,127,128,129]) hG (by kernel_rfl) rfl (st_mv rfl) rfl ?_
  refine QG2.c (T:=[]) (bad:=[123,124,125,126,127,128,129]) hG (by kernel_rfl) rfl (.inl rfl) rfl (st_call rfl rfl) (lay_call hG hB2.tab (w:=2 - n % 2) (by omega) hm.1 hm.2 hrow (by omega)) (GrowL.two _ _ _ _ _) rfl ?_
  have hM3:GrowL M2 (M2 ++ [.own ts 0,.own (u8s' (layL (2 - n % 2) T (mixF G y))) 0]) []:=GrowL.two _ _ _ _ _
  have h3:(M2 ++ [Blk.own ts 0,.own (u8s' (layL (2 - n % 2) T (mixF G y))) 0])[M2.length + 1]? = some (.own (u8s' (layL (2 - n % 2) T (mixF G y))) 0):=two_last
  generalize M2 ++ [Blk.own ts 0,.own (u8s' (layL (2 - n % 2) T (mixF G y))) 0] = M3 at hM3 h3
  have hB3:=hA.grow (hM2.tr hM3)
  obtain ⟨c,lm,hk1,hk2⟩:=hB3.ky n (by omega)
  have hlp:p < M2.length:=by obtain ⟨k,hk,_⟩:=rd_row hB2.p1; exact lt_of hk
  have hlk:kb < M2.length:=by
   obtain ⟨_,_,h,_⟩:=hB2.ky n (by omega)
   obtain ⟨k,hk,_⟩:=rd_row h; exact lt_of hk
  have keep:∀ {q:Nat},q < M2.length → ∀ c ∈ [q],c ∉ ([]:List Nat) ∧ c < M2.length:=fun h c hc => by simp only [List.mem_singleton] at hc; subst hc; exact ⟨by simp,h⟩
  refine QG2.b (bad:=[114,115,116,117,118,119,120,121,122,127]) hG (by kernel_rfl) rfl (st_mv rfl) rfl ?_
  refine QG2.b (bad:=[114,115,116,117,118,119,120,121,122,127]) hG (by kernel_rfl) rfl (st_nil rfl) rfl ?_
  refine QG2.b (bad:=[114,115,116,117,118,119,120,121,122,127]) hG (by kernel_rfl) rfl (st_fa rfl rfl) rfl ?_
  refine QG2.k [p] (bad:=[114,115,116,117,118,119,120,121,122,127]) hG (by kernel_rfl) ⟨.inr (keep hlp),trivial⟩ rfl (st_ld one36 rfl (by rw [maskK_rd (by simp)]; exact hB3.p1)) rfl ?_
  refine QG2.b (bad:=[114,115,116,117,118,119,120,121,122,123,124,125,126]) hG (by kernel_rfl) rfl (st_mv rfl) rfl ?_
  refine QG2.b (bad:=[114,115,116,117,118,119,120,121,122]) hG (by kernel_rfl) rfl (st_ix sl36 rfl rfl (show n < nk by omega)) rfl ?_
  refine QG2.k [kb] (bad:=[114,115,116,117,118,119,120,121,122]) hG (by kernel_rfl) ⟨.inr (keep hlk),trivial⟩ rfl (st_ld one22 rfl (by rw [maskK_rd (by simp)]; exact hk1)) rfl ?_
  refine QG2.c (T:=[]) (bad:=[]) hG (by kernel_rfl) (by kernel_rfl) (.inl rfl) rfl (st_call rfl rfl) (xor_call hG hlay.1 hk.1 hlay.2 hk.2 (rd_own0 h3 (by rw [u8s'_len,hlay.1])) hk2 (by omega)) (GrowL.one _ _ _) rfl ?_
  refine QG2.b (bad:=[]) hG (by kernel_rfl) rfl (st_mv rfl) rfl ?_
  refine QG2.b (bad:=[132]) hG (by kernel_rfl) rfl (st_ex rfl rfl) rfl ?_
  refine QG2.b (bad:=[131,1]) hG (by kernel_rfl) rfl (st_ex rfl rfl) rfl ?_
  refine QG2.b (bad:=[132]) hG (by kernel_rfl) rfl (st_as rfl) rfl (QG2.done (by kernel_rfl) rfl ?_)
  refine AWX.region (AOX.q hG rfl (st_mv rfl) rfl (AOX.q hG rfl (st_bin rfl rfl (b_dec (by omega))) rfl (AOX.q hG rfl (st_as rfl) rfl (AOX.nil ?_))))
  have hx2:=is_xor hlay hk
  exact bk_dec hG hA hK hQ n _ _ _ _ 0 (some 16) (by omega) hx2 hz ((hM2.tr hM3).tr (GrowL.one _ _ _)) (rd_own0 app_last (by rw [u8s'_len,hx2.1])) (show 16 ≤ 16 by omega) ⟨rfl,rfl,rfl,rfl,rfl,trivial⟩
theorem AriA.is {M:Mem} (h:AriA M p nk ts T K):∀ j,j < nk → Is16 (K j):=h.kl
theorem bk_call_enc (hG:GOK G) (h:AriA M p nk ts T K) (hx:Is16 x) {o:Nat} (hr:rd M b o 16 = some (u8s' x)) (hlim:LimP M b o 16 lim) :
  ∃ (M2:Mem) (q:Nat),ACall Tryz.prog G 59 [.ptr p 0,.sl b o 16 lim,.bool false] M (.tup [.sl q 0 16 (some 16),.int .i64 0]) M2 ∧ GrowL M M2 [] ∧ M.length ≤ q ∧ M2[q]? = some (.own (u8s' (encA G T K nk x)) 0):=by
 obtain ⟨kb,klim,hA⟩:=h.b
 have hK:=h.is
 have hnk:=hA.nk
 suffices hh:AWX G (fnOf Tryz.f59).body (mkSt 134 (argL 0 [.ptr p 0,.sl b o 16 lim,.bool false]) M) (fun e s => ∃ (M2:Mem) (q:Nat),Fini 134 (fnOf Tryz.f59).results (.tup [.sl q 0 16 (some 16),.int .i64 0]) M2 e s ∧ GrowL M M2 [] ∧ M.length ≤ q ∧ M2[q]? = some (.own (u8s' (encA G T K nk x)) 0)) by
  obtain ⟨e,s,h1,M2,q,h2,h3⟩:=hh
  exact ⟨M2,q,acall_mk (n:=134) (fv:=fnOf Tryz.f59) rfl rfl (by simp) (by decide) ⟨e,s,h1,h2⟩,h3⟩
 refine AWX.seq (AWX.region (AOX.q hG rfl (st_as rfl) rfl (AOX.q hG rfl (st_as rfl) rfl (AOX.nil (AWX.scope (JX.step ?_))))))
 refine AWX.seq (AWX.seq (AWX.region (AOX.q hG rfl (st_mv rfl) rfl (AOX.q hG rfl (st_len sl22 rfl) rfl (AOX.q hG rfl (st_bin rfl rfl (b_neqF (by omega))) rfl (AOX.nil (AWX.cf rfl (AWX.skip ?_))))))))
 refine AWX.seq (AWX.region (AOX.q hG rfl (st_mv rfl) rfl (AOX.q hG rfl (st_nil rfl) rfl (AOX.q hG rfl (st_fa rfl rfl) rfl (AOX.q hG rfl (st_ld one36 rfl hA.p1) rfl (AOX.q hG rfl (st_len sl36 rfl) rfl (AOX.q hG rfl (st_bin rfl rfl (b_sub (n:=1) (r:=nk - 1) (by omega) (by omega))) rfl (AOX.q hG rfl (st_as rfl) rfl (AOX.nil ?_)))))))))
 refine AWX.seq (AWX.region (AOX.q hG rfl (st_as rfl) rfl (AOX.nil ?_)))
 refine AWX.seq (AWX.seq (AWX.region (AOX.q hG rfl (st_mv rfl) rfl (AOX.nil (AWX.cf rfl (AWX.skip ?_))))))
 refine AWX.seq (AWX.block (AWX.loop (bk_enc hG hA hK hx (fun l M1 b o lim hM hlim hr hl => ?_) (nk - 2) 0 _ M b o lim (by omega) (GrowL.refl _) hlim hr ⟨rfl,rfl,rfl,rfl,rfl,trivial⟩)))
 have hB:=hA.grow hM
 have hy:=ariE_is (K:=K) hG hA.tab.tl hx (nk - 2) fun j hj => hK j (by omega)
 have hk:=hK (nk - 2) (by omega)
 have hk':=hK (nk - 1) (by omega)
 obtain ⟨c,lm,hk1,hk2⟩:=hB.ky (nk - 2) (by omega)
 have hz:=is_xor hy hk
 refine AWX.seq (AWX.ff _ hl (AWX.region (AOX.q hG rfl (st_mv rfl) rfl (AOX.q hG rfl (st_mv rfl) rfl (AOX.q hG rfl (st_nil rfl) rfl (AOX.q hG rfl (st_fa rfl rfl) rfl (AOX.q hG rfl (st_ld one36 rfl hB.p1) rfl (AOX.q hG rfl (st_mv rfl) rfl
  (AOX.q hG rfl (st_ix sl36 rfl rfl (show nk - 2 < nk by omega)) rfl (AOX.q hG rfl (st_ld one22 rfl hk1) rfl (AOX.qc hG rfl (st_call rfl rfl) (xor_call hG hy.1 hk.1 hy.2 hk.2 hr hk2 (by omega)) rfl
  (AOX.q hG rfl (st_mv rfl) rfl (AOX.q hG rfl (st_ex rfl rfl) rfl (AOX.q hG rfl (st_ex rfl rfl) rfl (AOX.q hG rfl (st_as rfl) rfl (AOX.nil ?_))))))))))))))))
 have hM2:GrowL M (M1 ++ [.own (u8s' (xorL (ariE G T K (nk - 2) x) (K (nk - 2)))) 0]) []:=hM.tr (GrowL.one _ _ _)
 have h2:(M1 ++ [Blk.own (u8s' (xorL (ariE G T K (nk - 2) x) (K (nk - 2)))) 0])[M1.length]? = some (.own (u8s' (xorL (ariE G T K (nk - 2) x) (K (nk - 2)))) 0):=app_last
 generalize M1 ++ [Blk.own (u8s' (xorL (ariE G T K (nk - 2) x) (K (nk - 2)))) 0] = M2 at hM2 h2
 generalize M1.length = q at h2
 have hB2:=hA.grow hM2
 have hlay:=is_lay (w:=2) hA.tab.tl hz
 refine AWX.seq (AWX.draw ?_)
 refine QG2.b (bad:=[59,61,62,63,64,65,66,67]) hG (by kernel_rfl) rfl (st_mv rfl) rfl ?_
 refine QG2.b (bad:=[59,61,62,63,64,65,66,67]) hG (by kernel_rfl) rfl (st_nil rfl) rfl ?_
 refine QG2.b (bad:=[59,61,62,63,64,65,66,67]) hG (by kernel_rfl) rfl (st_fa rfl rfl) rfl ?_
 refine QG2.q (bad:=[59,61,62,63,64,65,66,67]) hG (by kernel_rfl) rfl rfl (st_lda row133 rfl hB2.p4) rfl ?_
 refine QG2.b (bad:=[55,56,57,58,61,62,63,64,65,66,67]) hG (by kernel_rfl) rfl (st_mv rfl) rfl ?_
 refine QG2.c (T:=[]) (bad:=[61,62,63,64,65,66,67]) hG (by kernel_rfl) rfl (.inl rfl) rfl (st_call rfl rfl) (lay_call hG hB2.tab (w:=2) (by omega) hz.1 hz.2 (rd_own0 h2 (by rw [u8s'_len,hz.1])) (by omega)) (GrowL.two _ _ _ _ _) rfl ?_
 have hM3:GrowL M2 (M2 ++ [.own ts 0,.own (u8s' (layL 2 T (xorL (ariE G T K (nk - 2) x) (K (nk - 2))))) 0]) []:=GrowL.two _ _ _ _ _
 have h3:(M2 ++ [Blk.own ts 0,.own (u8s' (layL 2 T (xorL (ariE G T K (nk - 2) x) (K (nk - 2))))) 0])[M2.length + 1]? = some (.own (u8s' (layL 2 T (xorL (ariE G T K (nk - 2) x) (K (nk - 2))))) 0):=two_last
 generalize M2 ++ [Blk.own ts 0,.own (u8s' (layL 2 T (xorL (ariE G T K (nk - 2) x) (K (nk - 2))))) 0] = M3 at hM3 h3
 have hB3:=hA.grow (hM2.tr hM3)
 obtain ⟨c',lm',hk1',hk2'⟩:=hB3.ky (nk - 1) (by omega)
 have hlp:p < M2.length:=by obtain ⟨k,hk,_⟩:=rd_row hB2.p1; exact lt_of hk
 have hlk:kb < M2.length:=by
  obtain ⟨_,_,h,_⟩:=hB2.ky (nk - 1) (by omega)
  obtain ⟨k,hk,_⟩:=rd_row h; exact lt_of hk
 have keep:∀ {q:Nat},q < M2.length → ∀ c ∈ [q],c ∉ ([]:List Nat) ∧ c < M2.length:=fun h c hc => by simp only [List.mem_singleton] at hc; subst hc; exact ⟨by simp,h⟩
 refine QG2.b (bad:=[55,56,57,58,59,60,65]) hG (by kernel_rfl) rfl (st_mv rfl) rfl ?_
 refine QG2.b (bad:=[55,56,57,58,59,60,65]) hG (by kernel_rfl) rfl (st_nil rfl) rfl ?_
 refine QG2.b (bad:=[55,56,57,58,59,60,65]) hG (by kernel_rfl) rfl (st_fa rfl rfl) rfl ?_
 refine QG2.k [p] (bad:=[55,56,57,58,59,60,65]) hG (by kernel_rfl) ⟨.inr (keep hlp),trivial⟩ rfl (st_ld one36 rfl (by rw [maskK_rd (by simp)]; exact hB3.p1)) rfl ?_
 refine QG2.b (bad:=[55,56,57,58,59,60,61,62,63,64]) hG (by kernel_rfl) rfl (st_mv rfl) rfl ?_
 refine QG2.b (bad:=[55,56,57,58,59,60]) hG (by kernel_rfl) rfl (st_ix sl36 rfl rfl (show nk - 1 < nk by omega)) rfl ?_
 refine QG2.k [kb] (bad:=[55,56,57,58,59,60]) hG (by kernel_rfl) ⟨.inr (keep hlk),trivial⟩ rfl (st_ld one22 rfl (by rw [maskK_rd (by simp)]; exact hk1')) rfl ?_
 refine QG2.c (T:=[]) (bad:=[]) hG (by kernel_rfl) (by kernel_rfl) (.inl rfl) rfl (st_call rfl rfl) (xor_call hG hlay.1 hk'.1 hlay.2 hk'.2 (rd_own0 h3 (by rw [u8s'_len,hlay.1])) hk2' (by omega)) (GrowL.one _ _ _) rfl ?_
 refine QG2.b (bad:=[]) hG (by kernel_rfl) rfl (st_mv rfl) rfl ?_
 refine QG2.b (bad:=[70]) hG (by kernel_rfl) rfl (st_ex rfl rfl) rfl ?_
 refine QG2.b (bad:=[69,1]) hG (by kernel_rfl) rfl (st_ex rfl rfl) rfl ?_
 refine QG2.b (bad:=[70]) hG (by kernel_rfl) rfl (st_as rfl) rfl (QG2.done (by kernel_rfl) rfl ?_)
 refine AWX.seq (AWX.seq (AWX.region (AOX.q hG rfl (st_mv rfl) rfl (AOX.q hG rfl (st_as rfl) rfl (AOX.q hG rfl (st_as rfl) rfl (AOX.nil (AWX.ret ?_)))))))
 exact ⟨_,M3.length,⟨.inr rfl,_,_,rfl,rfl,rfl⟩,(hM2.tr hM3).tr (GrowL.one _ _ _),Nat.le_trans hM2.le hM3.le,app_last⟩
theorem jx_to {c rest:Code} {l:Nat} {s:St} (h:findLabel c l = some rest) (hj:JX G c rest s Q):jx G c Q (.goto l) s:=by
 simp only [jx,h]; exact hj
theorem bk_call_dec (hG:GOK G) (h:AriA M p nk ts T K) (hx:Is16 x) {o:Nat} (hr:rd M b o 16 = some (u8s' x)) :
  ∃ (M2:Mem) (q o2:Nat) (lim2:Option Nat),ACall Tryz.prog G 59 [.ptr p 0,.sl b o 16 lim,.bool true] M (.tup [.sl q o2 16 lim2,.int .i64 0]) M2 ∧ GrowL M M2 [] ∧ LimP M2 q o2 16 lim2 ∧ rd M2 q o2 16 = some (u8s' (decA G T K nk x)):=by
 obtain ⟨kb,klim,hA⟩:=h.b
 have hK:=h.is
 have hnk:=hA.nk
 suffices hh:AWX G (fnOf Tryz.f59).body (mkSt 134 (argL 0 [.ptr p 0,.sl b o 16 lim,.bool true]) M) (fun e s => ∃ (M2:Mem) (q o2:Nat) (lim2:Option Nat),Fini 134 (fnOf Tryz.f59).results (.tup [.sl q o2 16 lim2,.int .i64 0]) M2 e s ∧ GrowL M M2 [] ∧ LimP M2 q o2 16 lim2 ∧ rd M2 q o2 16 = some (u8s' (decA G T K nk x))) by
  obtain ⟨e,s,h1,M2,q,o2,lim2,h2,h3⟩:=hh
  exact ⟨M2,q,o2,lim2,acall_mk (n:=134) (fv:=fnOf Tryz.f59) rfl rfl (by simp) (by decide) ⟨e,s,h1,h2⟩,h3⟩
 refine AWX.seq (AWX.region (AOX.q hG rfl (st_as rfl) rfl (AOX.q hG rfl (st_as rfl) rfl (AOX.nil (AWX.scope (JX.step ?_))))))
 refine AWX.seq (AWX.seq (AWX.region (AOX.q hG rfl (st_mv rfl) rfl (AOX.q hG rfl (st_len sl22 rfl) rfl (AOX.q hG rfl (st_bin rfl rfl (b_neqF (by omega))) rfl (AOX.nil (AWX.cf rfl (AWX.skip ?_))))))))
 refine AWX.seq (AWX.region (AOX.q hG rfl (st_mv rfl) rfl (AOX.q hG rfl (st_nil rfl) rfl (AOX.q hG rfl (st_fa rfl rfl) rfl (AOX.q hG rfl (st_ld one36 rfl hA.p1) rfl (AOX.q hG rfl (st_len sl36 rfl) rfl (AOX.q hG rfl (st_bin rfl rfl (b_sub (n:=1) (r:=nk - 1) (by omega) (by omega))) rfl (AOX.q hG rfl (st_as rfl) rfl (AOX.nil ?_)))))))))
 refine AWX.seq (AWX.region (AOX.q hG rfl (st_as rfl) rfl (AOX.nil ?_)))
 refine AWX.seq (AWX.seq (AWX.region (AOX.q hG rfl (st_mv rfl) rfl (AOX.nil (AWX.ct rfl (AWX.goto ?_))))))
 show jx G bkC _ (.goto 0) _
 refine jx_to (rest:=(findLabel bkC 0).getD .skip) rfl (JX.step (AWX.seq (AWX.skip ?_)))
 have hk:=hK (nk - 1) (by omega)
 have hk':=hK (nk - 2) (by omega)
 obtain ⟨c,lm,hk1,hk2⟩:=hA.ky (nk - 1) (by omega)
 have hz:=is_xor hx hk
 refine AWX.seq (AWX.region (AOX.q hG rfl (st_mv rfl) rfl (AOX.q hG rfl (st_mv rfl) rfl (AOX.q hG rfl (st_nil rfl) rfl (AOX.q hG rfl (st_fa rfl rfl) rfl (AOX.q hG rfl (st_ld one36 rfl hA.p1) rfl (AOX.q hG rfl (st_mv rfl) rfl
  (AOX.q hG rfl (st_ix sl36 rfl rfl (show nk - 1 < nk by omega)) rfl (AOX.q hG rfl (st_ld one22 rfl hk1) rfl (AOX.qc hG rfl (st_call rfl rfl) (xor_call hG hx.1 hk.1 hx.2 hk.2 hr hk2 (by omega)) rfl
  (AOX.q hG rfl (st_mv rfl) rfl (AOX.q hG rfl (st_ex rfl rfl) rfl (AOX.q hG rfl (st_ex rfl rfl) rfl (AOX.q hG rfl (st_as rfl) rfl (AOX.nil ?_)))))))))))))))
 have hM2:GrowL M (M ++ [.own (u8s' (xorL x (K (nk - 1)))) 0]) []:=GrowL.one _ _ _
 have h2:(M ++ [Blk.own (u8s' (xorL x (K (nk - 1)))) 0])[M.length]? = some (.own (u8s' (xorL x (K (nk - 1)))) 0):=app_last
 generalize M ++ [Blk.own (u8s' (xorL x (K (nk - 1)))) 0] = M2 at hM2 h2
 generalize M.length = q at h2
 have hB2:=hA.grow hM2
 have hlay:=is_lay (w:=1) hA.tab.tl hz
 refine AWX.seq (AWX.draw ?_)
 refine QG2.b (bad:=[89,91,92,93,94,95,96,97,98]) hG (by kernel_rfl) rfl (st_mv rfl) rfl ?_
 refine QG2.b (bad:=[89,91,92,93,94,95,96,97,98]) hG (by kernel_rfl) rfl (st_nil rfl) rfl ?_
 refine QG2.b (bad:=[89,91,92,93,94,95,96,97,98]) hG (by kernel_rfl) rfl (st_fa rfl rfl) rfl ?_
 refine QG2.q (bad:=[89,91,92,93,94,95,96,97,98]) hG (by kernel_rfl) rfl rfl (st_lda row133 rfl hB2.p4) rfl ?_
 refine QG2.b (bad:=[85,86,87,88,91,92,93,94,95,96,97,98]) hG (by kernel_rfl) rfl (st_mv rfl) rfl ?_
 refine QG2.c (T:=[]) (bad:=[91,92,93,94,95,96,97,98]) hG (by kernel_rfl) rfl (.inl rfl) rfl (st_call rfl rfl) (lay_call hG hB2.tab (w:=1) (by omega) hz.1 hz.2 (rd_own0 h2 (by rw [u8s'_len,hz.1])) (by omega)) (GrowL.two _ _ _ _ _) rfl ?_
 have hM3:GrowL M2 (M2 ++ [.own ts 0,.own (u8s' (layL 1 T (xorL x (K (nk - 1))))) 0]) []:=GrowL.two _ _ _ _ _
 have h3:(M2 ++ [Blk.own ts 0,.own (u8s' (layL 1 T (xorL x (K (nk - 1))))) 0])[M2.length + 1]? = some (.own (u8s' (layL 1 T (xorL x (K (nk - 1))))) 0):=two_last
 generalize M2 ++ [Blk.own ts 0,.own (u8s' (layL 1 T (xorL x (K (nk - 1))))) 0] = M3 at hM3 h3
 have hB3:=hA.grow (hM2.tr hM3)
 obtain ⟨c',lm',hk1',hk2'⟩:=hB3.ky (nk - 2) (by omega)
 have hlp:p < M2.length:=by obtain ⟨k,hk,_⟩:=rd_row hB2.p1; exact lt_of hk
 have hlk:kb < M2.length:=by
  obtain ⟨_,_,h,_⟩:=hB2.ky (nk - 1) (by omega)
  obtain ⟨k,hk,_⟩:=rd_row h; exact lt_of hk
 have keep:∀ {q:Nat},q < M2.length → ∀ c ∈ [q],c ∉ ([]:List Nat) ∧ c < M2.length:=fun h c hc => by simp only [List.mem_singleton] at hc; subst hc; exact ⟨by simp,h⟩
 refine QG2.b (bad:=[85,86,87,88,89,90,95,96]) hG (by kernel_rfl) rfl (st_mv rfl) rfl ?_
 refine QG2.b (bad:=[85,86,87,88,89,90,95,96]) hG (by kernel_rfl) rfl (st_nil rfl) rfl ?_
 refine QG2.b (bad:=[85,86,87,88,89,90,95,96]) hG (by kernel_rfl) rfl (st_fa rfl rfl) rfl ?_
 refine QG2.k [p] (bad:=[85,86,87,88,89,90,95,96]) hG (by kernel_rfl) ⟨.inr (keep hlp),trivial⟩ rfl (st_ld one36 rfl (by rw [maskK_rd (by simp)]; exact hB3.p1)) rfl ?_
 refine QG2.b (bad:=[85,86,87,88,89,90,91,92,93,94]) hG (by kernel_rfl) rfl (st_mv rfl) rfl ?_
 refine QG2.b (bad:=[85,86,87,88,89,90,91,92,93,94]) hG (by kernel_rfl) rfl (st_bin rfl rfl (b_sub (n:=1) (r:=nk - 2) (by omega) (by omega))) rfl ?_
 refine QG2.b (bad:=[85,86,87,88,89,90]) hG (by kernel_rfl) rfl (st_ix sl36 rfl rfl (show nk - 2 < nk by omega)) rfl ?_
 refine QG2.k [kb] (bad:=[85,86,87,88,89,90]) hG (by kernel_rfl) ⟨.inr (keep hlk),trivial⟩ rfl (st_ld one22 rfl (by rw [maskK_rd (by simp)]; exact hk1')) rfl ?_
 refine QG2.c (T:=[]) (bad:=[]) hG (by kernel_rfl) (by kernel_rfl) (.inl rfl) rfl (st_call rfl rfl) (xor_call hG hlay.1 hk'.1 hlay.2 hk'.2 (rd_own0 h3 (by rw [u8s'_len,hlay.1])) hk2' (by omega)) (GrowL.one _ _ _) rfl ?_
 refine QG2.b (bad:=[]) hG (by kernel_rfl) rfl (st_mv rfl) rfl ?_
 refine QG2.b (bad:=[101]) hG (by kernel_rfl) rfl (st_ex rfl rfl) rfl ?_
 refine QG2.b (bad:=[100,1]) hG (by kernel_rfl) rfl (st_ex rfl rfl) rfl ?_
 refine QG2.b (bad:=[101]) hG (by kernel_rfl) rfl (st_as rfl) rfl (QG2.done (by kernel_rfl) rfl ?_)
 have hM4:GrowL M (M3 ++ [.own (u8s' (xorL (layL 1 T (xorL x (K (nk - 1)))) (K (nk - 2)))) 0]) []:=(hM2.tr hM3).tr (GrowL.one _ _ _)
 have h4:(M3 ++ [Blk.own (u8s' (xorL (layL 1 T (xorL x (K (nk - 1)))) (K (nk - 2)))) 0])[M3.length]? = some (.own (u8s' (xorL (layL 1 T (xorL x (K (nk - 1)))) (K (nk - 2)))) 0):=app_last
 generalize M3 ++ [Blk.own (u8s' (xorL (layL 1 T (xorL x (K (nk - 1)))) (K (nk - 2)))) 0] = M4 at hM4 h4
 have hx2:=is_xor hlay hk'
 refine AWX.seq (AWX.seq (AWX.region (AOX.q hG rfl (st_mv rfl) rfl (AOX.q (v:=.int .i64 (((nk - 2:Nat):Int) - 1)) hG rfl (st_bin rfl rfl (by
  have:=b_sub (d:=tyF 3) (M:=M4) (m:=nk - 1) (n:=2) (r:=nk - 3) (by omega) (by omega)
  rw [show (((nk - 2:Nat):Int) - 1) = ((nk - 3:Nat):Int) by omega]
  exact this)) rfl (AOX.q hG rfl (st_as rfl) rfl (AOX.nil ?_))))))
 refine AWX.block (AWX.loop (bk_dec hG hA hK (z:=decA G T K nk x) (fun l M5 b5 o5 lim5 hM5 hlim5 hr5 hl => ?_) (nk - 2) _ _ M4 M3.length 0 (some 16) (by omega) hx2 rfl hM4 (rd_own0 h4 (by rw [u8s'_len,hx2.1])) (show 16 ≤ 16 by omega) ⟨rfl,rfl,rfl,rfl,rfl,trivial⟩))
 refine AWX.seq (AWX.ff _ hl (AWX.region (AOX.q hG rfl (st_mv rfl) rfl (AOX.q hG rfl (st_as rfl) rfl (AOX.q hG rfl (st_as rfl) rfl (AOX.nil (AWX.ret ?_)))))))
 exact ⟨_,_,_,_,⟨.inr rfl,_,_,rfl,rfl,rfl⟩,hM5,hlim5,hr5⟩
end
end
end
section
noncomputable section
def InvT (T:Nat → List Int):Prop:=∀ j,j < 4 → ∀ a,a < 256 → layAt.at1 (T j) (layAt.at1 (T ((j + 2) % 4)) a).toNat = (a:Int)
section
variable {G:GF} {T K:Nat → List Int} {x:List Int}
theorem lay_lay {w v:Nat} (hT:InvT T) (hw:(w = 1 ∧ v = 2) ∨ (w = 2 ∧ v = 1)) (hb:Bytes x):layL w T (layL v T x) = x:=by
 refine List.ext_getElem (by simp [layL]) fun i h1 h2 => ?_
 have hx:=hb _ (List.getElem_mem h2)
 simp only [layL,List.getElem_mapIdx,layAt]
 have ha:((x[i].toNat:Nat):Int) = x[i]:=by omega
 have:=hT ((i + 2 * (w - 1)) % 4) (by omega) x[i].toNat (by omega)
 have e:((i + 2 * (w - 1)) % 4 + 2) % 4 = (i + 2 * (v - 1)) % 4:=by
  rcases hw with ⟨rfl,rfl⟩ | ⟨rfl,rfl⟩ <;> omega
 rw [e,ha] at this
 exact this
theorem ari_back (hG:GOK G) (hT:InvT T) (hl:∀ j,j < 4 → (T j).length = 256 ∧ Bytes (T j)):∀ (n:Nat) {y:List Int},Is16 y → (∀ j,j < n → Is16 (K j)) → ariE G T K n (ariD G T K n y) = y
 | 0,_,_,_ => rfl
 | n + 1,y,hy,hK => by
  have hm:=mixF_in hG hy.1 hy.2
  have hlay:=is_lay (w:=2 - n % 2) hl hm
  have hk:=hK n (by omega)
  have hx:=is_xor hlay hk
  show turnF G (1 + n % 2) T (ariE G T K n (ariD G T K n _)) (K n) = y
  rw [ari_back hG hT hl n hx fun j hj => hK j (by omega)]
  unfold turnF
  rw [xorL_back (by rw [hlay.1,hk.1]) hlay.2,lay_lay hT (by omega) hm.2,mixF_back hG hy.1 hy.2]
theorem encA_decA (hG:GOK G) (hT:InvT T) (hl:∀ j,j < 4 → (T j).length = 256 ∧ Bytes (T j)) {nk:Nat} (hnk:13 ≤ nk) (hK:∀ j,j < nk → Is16 (K j)) (hx:Is16 x):encA G T K nk (decA G T K nk x) = x:=by
 have hk:=hK (nk - 1) (by omega)
 have hk':=hK (nk - 2) (by omega)
 have hz:=is_xor hx hk
 have hlay:=is_lay (w:=1) hl hz
 unfold encA decA
 rw [ari_back hG hT hl _ (is_xor hlay hk') fun j hj => hK j (by omega),xorL_back (by rw [hlay.1,hk'.1]) hlay.2,lay_lay hT (by omega) hz.2,xorL_back (by rw [hx.1,hk.1]) hx.2]
theorem encA_is (hl:∀ j,j < 4 → (T j).length = 256 ∧ Bytes (T j)) (hG:GOK G) {nk:Nat} (hnk:13 ≤ nk) (hK:∀ j,j < nk → Is16 (K j)) (hx:Is16 x):Is16 (encA G T K nk x) :=
 is_xor (is_lay hl (is_xor (ariE_is hG hl hx _ fun j hj => hK j (by omega)) (hK _ (by omega)))) (hK _ (by omega))
theorem decA_is (hl:∀ j,j < 4 → (T j).length = 256 ∧ Bytes (T j)) (hG:GOK G) {nk:Nat} (hnk:13 ≤ nk) (hK:∀ j,j < nk → Is16 (K j)) (hx:Is16 x):Is16 (decA G T K nk x) :=
 ariD_is hG hl _ (is_xor (is_lay hl (is_xor hx (hK _ (by omega)))) (hK _ (by omega))) fun j hj => hK j (by omega)
end
end
end
section
open Go.Proofs
noncomputable section
theorem u192:Tryz.prog.underlying 192 = some (.array 256 4):=by kernel_rfl
theorem u4:Tryz.prog.underlying 4 = some .bool:=by kernel_rfl
theorem p4:Tryz.prog.plainKey 4 = true:=by kernel_rfl
theorem c4:Tryz.prog.cellsOf 4 = 1:=by kernel_rfl
theorem i4:(Tryz.prog.info? 4).isSome = true:=by kernel_rfl
theorem eq_items (d:Nat) {xs:Array Value} {w:World}:∀ is:List Nat,(∀ i ∈ is,∃ b,xs[i]? = some (.bool b)) → (Op.eqItems (d + 1) 4 1 xs xs is).run Tryz.prog w = .ok true w
 | [],_ => rfl
 | i :: is,h => by
  obtain ⟨b,hb⟩:=h i (by simp)
  have hp:(part 4 xs (i * 1)).run Tryz.prog w = .ok (.bool b) w:=run_part_plain w p4 (by rw [Nat.mul_one]; exact hb)
  have he:(Op.equalIn (d + 1) 4 (.bool b) (.bool b)).run Tryz.prog w = .ok true w:=by simp [Op.equalIn,run_underlying u4]
  have ih:=eq_items d (xs:=xs) (w:=w) is fun j hj => h j (by simp [hj])
  simp only [Op.eqItems,Sem.run_bind,hp,he,Result.andThen_ok]
  simpa using ih
theorem eq_bools {us:List Value} (hl:us.length = 256) (hb:∀ u ∈ us,∃ b,u = .bool b) (w:World):(Op.equal 192 (.agg us.toArray) (.agg us.toArray)).run Tryz.prog w = .ok true w:=by
 obtain ⟨inf,hi⟩:=Option.isSome_iff_exists.1 i4
 unfold Op.equal
 rw [show Op.maxDepth = 9998 + 1 + 1 from rfl]
 generalize 9998 = n
 rw [run_equalIn_array w (n + 1) _ _ u192 hi,c4]
 refine eq_items n _ fun i hi => ?_
 have hi:i < us.length:=by rw [hl]; exact List.mem_range.1 hi
 obtain ⟨b,h⟩:=hb _ (List.getElem_mem hi)
 exact ⟨b,by simp [hi,h]⟩
section
variable {G:GF} {ops:Array Oper} {i d:Nat} {s:St} {x y:Operand} {r ty:TypeId} {pos:String} {af:Array Edge} {cs:List V}
theorem aopv_eq (ho:ops[i]? = some ⟨some d,.binOp .eql 192 x y r,ty,pos,af,none⟩) (hx:s.get x = some (.agg cs)) (hy:s.get y = some (.agg cs)) (hl:cs.length = 256) (hb:∀ v ∈ cs,∃ b,v = .bool b):AOpV Tryz.prog G ops i s (some d) (.bool true) s.M:=by
 intro prot W0 φ a w Q K hs hk
 unfold wpOp
 have hw:wants ops s ⟨some d,.binOp .eql 192 x y r,ty,pos,af,none⟩ = some true:=by simp [wants]
 simp only [ho,hs.wants hw,if_true]
 left
 unfold Oper.wp
 have h1:=hs.get x _ hx
 have h2:=hs.get y _ hy
 simp only [V.conc,Option.map_eq_some_iff] at h1 h2
 obtain ⟨us,hu,e1⟩:=h1
 obtain ⟨us',hu',e2⟩:=h2
 rw [hu] at hu'
 injection hu' with hu'; subst hu'
 have hul:us.length = 256:=by rw [concs_length hu,hl]
 have hub:∀ u ∈ us,∃ b,u = .bool b:=by
  intro u hm
  obtain ⟨j,hj⟩:=List.getElem?_of_mem hm
  have hjl:=(List.getElem?_eq_some_iff.1 hj).1
  have hv:cs[j]? = some (cs[j]'(by omega)):=List.getElem?_eq_getElem (by omega)
  obtain ⟨u',h3,h4⟩:=concs_get hu j _ hv
  rw [hj] at h3; injection h3 with h3; subst h3
  obtain ⟨b,hb'⟩:=hb _ (List.mem_of_getElem? hv)
  rw [hb'] at h4
  simp only [V.conc,Option.some.injEq] at h4
  exact ⟨b,h4.symm⟩
 have hg:∀ a b:Array Value,(eqGuard .eql 192 x y (.agg a) (.agg b)).run Tryz.prog w = .ok () w:=by
  intro a b
  simp [eqGuard]
 have hr:(execOp a.eval ⟨some d,.binOp .eql 192 x y r,ty,pos,af,none⟩).run Tryz.prog w = .ok (.value (.bool true)) w:=by
  simp [execOp,← e1,← e2,hg,binOp,eq_bools hul hub]
 rw [hr]
 exact hk φ _ _ (Pl.le_refl _) rfl hs.mr
end
end
end
section
open Go.Proofs
noncomputable section
def gmX (x:Nat):Nat:=Nat.land (bif Nat.ble 256 (2 * x) then Nat.xor (2 * x) 283 else 2 * x) 255
def gmN:Nat → Nat → Nat → Nat → Nat
 | 0,s,_,_ => s
 | n + 1,s,x,y => gmN n (bif Nat.beq (y % 2) 0 then s else Nat.xor s x) (gmX x) (y / 2)
def gm (a b:Nat):Nat:=gmN 8 0 a b
theorem bI_nat {a b:Nat} (ha:a ≤ 1000000) (hb:b ≤ 1000000):bI .and a b = ((a &&& b:Nat):Int) ∧ bI .xor a b = ((a ^^^ b:Nat):Int):=by
 obtain ⟨h1,_,h3⟩:=nat_bits .i64 a b (by simp only [kmax]; omega) (by simp only [kmax]; omega)
 simp [bI,aint,h1,h3]
theorem sI_shl {x:Nat} (hx:x ≤ 1000000):sI .shl (x:Int) = ((2 * x:Nat):Int):=by
 have:IntKind.i64.wrap ((x:Int) * 2) = ((2 * x:Nat):Int):=by
  rw [← kwrap_eq,kw64 (by omega) (by omega)]; omega
 simp [sI,ashift,IntKind.bits,this]
theorem gmX_lt (x:Nat):gmX x < 256:=by
 have:=Nat.and_lt_two_pow (bif Nat.ble 256 (2 * x) then Nat.xor (2 * x) 283 else 2 * x) (y:=255) (n:=8) (by decide)
 exact this
theorem fmX_nat {x:Nat} (hx:x < 256):fmX (x:Int) 283 = (gmX x:Int):=by
 unfold fmX gmX
 rw [sI_shl (by omega)]
 by_cases h:256 ≤ 2 * x
 ·have h1:Nat.ble 256 (2 * x) = true:=Nat.ble_eq_true_of_le h
  have h2:decide (((2 * x:Nat):Int) ≥ 256) = true:=by simp; omega
  rw [h1,h2]
  simp only [if_true,cond_true]
  rw [show (283:Int) = ((283:Nat):Int) from rfl,(bI_nat (by omega) (by omega)).2]
  have:2 * x ^^^ 283 < 2 ^ 10:=Nat.xor_lt_two_pow (by omega) (by omega)
  rw [show (255:Int) = ((255:Nat):Int) from rfl,(bI_nat (by omega) (by omega)).1]
  rfl
 ·have h1:Nat.ble 256 (2 * x) = false:=Bool.eq_false_iff.2 fun e => h (Nat.le_of_ble_eq_true e)
  have h2:decide (((2 * x:Nat):Int) ≥ 256) = false:=by simp; omega
  rw [h1,h2]
  simp only [Bool.false_eq_true,if_false,cond_false]
  rw [show (255:Int) = ((255:Nat):Int) from rfl,(bI_nat (by omega) (by omega)).1]
  rfl
theorem fmS_nat {s x y:Nat} (hs:s < 256) (hx:x < 256) (hy:y < 256):fmS (s:Int) (x:Int) (y:Int) = ((bif Nat.beq (y % 2) 0 then s else Nat.xor s x:Nat):Int):=by
 unfold fmS
 rw [show (1:Int) = ((1:Nat):Int) from rfl,(bI_nat (by omega) (by omega)).1,(bI_nat (by omega) (by omega)).2,Nat.and_one_is_mod]
 by_cases h:y % 2 = 0
 ·have h1:Nat.beq (y % 2) 0 = true:=by rw [h]; rfl
  rw [h1,h]; simp
 ·have h1:Nat.beq (y % 2) 0 = false:=Bool.eq_false_iff.2 fun e => h (Nat.eq_of_beq_eq_true e)
  have h2:y % 2 = 1:=by omega
  rw [h1,h2]
  simp only [cond_false]
  rfl
theorem gmN_zero:∀ n s x:Nat,gmN n s x 0 = s
 | 0,_,_ => rfl
 | n + 1,s,x => gmN_zero n s (gmX x)
theorem gmN_lt:∀ n s x y:Nat,s < 256 → x < 256 → gmN n s x y < 256
 | 0,_,_,_,hs,_ => hs
 | n + 1,s,x,y,hs,hx => by
  refine gmN_lt n _ _ _ ?_ (gmX_lt x)
  cases Nat.beq (y % 2) 0
  ·exact Nat.xor_lt_two_pow (n:=8) hs hx
  ·exact hs
theorem fmLoop_nat:∀ n s x y:Nat,s < 256 → x < 256 → y < 256 → fmLoop 283 n (s:Int) (x:Int) (y:Int) = (gmN n s x y:Int)
 | 0,s,_,_,hs,_,_ => kw8 (by omega) (by omega)
 | n + 1,s,x,y,hs,hx,hy => by
  rw [fmLoop]
  by_cases h:y = 0
  ·subst h
   rw [gmN_zero]
   exact kw8 (by omega) (by omega)
  ·have h0:¬ ((y:Int) = 0):=by omega
   rw [if_neg h0,fmS_nat hs hx hy,fmX_nat hx,sI_shr]
   have h1:(bif Nat.beq (y % 2) 0 then s else Nat.xor s x) < 256:=by
    cases Nat.beq (y % 2) 0
    ·exact Nat.xor_lt_two_pow (n:=8) hs hx
    ·exact hs
   exact fmLoop_nat n _ _ (y / 2) h1 (gmX_lt x) (by omega)
theorem gm_lt {a b:Nat} (ha:a < 256):gm a b < 256:=gmN_lt 8 0 a b (by omega) ha
theorem gm_call {G:GF} (hG:GOK G) {a b:Nat} (ha:a < 256) (hb:b < 256) (M:Mem):ACall Tryz.prog G 135 [.int .u8 a,.int .u8 b,.int .i64 283] M (.int .u8 (gm a b:Nat)) M:=by
 have:=fm_call hG (a:=a) (b:=b) (md:=283) (by omega) (by omega) M
 rw [kw64 (by omega) (by omega),kw64 (by omega) (by omega),show (0:Int) = ((0:Nat):Int) from rfl,fmLoop_nat 8 0 a b (by omega) ha hb] at this
 exact this
def powN:Nat → Nat → Nat → Nat → Nat
 | 0,o,_,_ => o
 | k + 1,o,a,n => bif Nat.beq n 0 then o else powN k (bif Nat.beq (n % 2) 0 then o else gm o a) (gm a a) (n / 2)
theorem powN_lt:∀ k o a n:Nat,o < 256 → a < 256 → powN k o a n < 256
 | 0,_,_,_,ho,_ => ho
 | k + 1,o,a,n,ho,ha => by
  rw [powN]
  cases Nat.beq n 0
  ·refine powN_lt k _ _ _ ?_ (gm_lt ha)
   cases Nat.beq (n % 2) 0
   ·exact gm_lt ho
   ·exact ho
  ·exact ho
section
variable {G:GF} {Q:AExit → St → Prop} {M:Mem}
def pwC:Code:=cAt [1,0] (fnOf Tryz.f142).body
def pwRest:Code:=(findLabel pwC 0).getD .skip
def pwN (a n o:Nat):List (Nat × V):=[(0,.int .u8 a),(1,.int .i64 n),(2,.int .i64 283),(7,.int .u8 o)]
theorem b_and1 {d:Option Ty} {M:Mem} {n:Nat} (hn:n ≤ 1000000):abin noX d M .and (.int .i64 n) (.int .i64 1) = some (.int .i64 ((n % 2:Nat):Int),none):=by
 rw [abin_and,show (1:Int) = ((1:Nat):Int) from rfl,(bI_nat hn (by omega)).1,Nat.and_one_is_mod]
theorem b_shr1 {d:Option Ty} {M:Mem} {n:Nat}:abin noX d M .shr (.int .i64 n) (.int .u64 1) = some (.int .i64 ((n / 2:Nat):Int),none):=by
 rw [abin_shr,sI_shr]; rfl
theorem pow_loop (hG:GOK G) {z:Nat} (hQ:∀ l2,subL 24 l2 [(6,.int .u8 z)] → Q .ret (mkSt 24 l2 M)):∀ (k o a n:Nat) (l:List (Nat × V)),n < 2 ^ k → n ≤ 1000 → o < 256 → a < 256 → powN k o a n = z → subL 24 l (pwN a n o) → AWX G (cAt [1] pwRest) (mkSt 24 l M) (jx G pwC Q)
 | 0,o,a,n,l,hn,hn2,ho,ha,hz,hl => by
  have:n = 0:=by simpa using hn
  subst this
  have hz:o = z:=hz
  subst hz
  refine AWX.ff _ hl ?_
  refine AWX.seq (AWX.seq (AWX.region (AOX.q hG rfl (st_mv rfl) rfl (AOX.q hG rfl (st_bin rfl rfl (b_leqT (by omega))) rfl (AOX.nil ?_)))))
  refine AWX.ct rfl (AWX.seq (AWX.region (AOX.q hG rfl (st_mv rfl) rfl (AOX.q hG rfl (st_as rfl) rfl (AOX.nil (AWX.ret ?_))))))
  exact hQ _ ⟨rfl,trivial⟩
 | k + 1,o,a,n,l,hn,hn2,ho,ha,hz,hl => by
  refine AWX.ff _ hl ?_
  by_cases h0:n = 0
  ·subst h0
   have hz:o = z:=hz
   subst hz
   refine AWX.seq (AWX.seq (AWX.region (AOX.q hG rfl (st_mv rfl) rfl (AOX.q hG rfl (st_bin rfl rfl (b_leqT (by omega))) rfl (AOX.nil ?_)))))
   refine AWX.ct rfl (AWX.seq (AWX.region (AOX.q hG rfl (st_mv rfl) rfl (AOX.q hG rfl (st_as rfl) rfl (AOX.nil (AWX.ret ?_))))))
   exact hQ _ ⟨rfl,trivial⟩
  have hb0:Nat.beq n 0 = false:=Bool.eq_false_iff.2 fun e => h0 (Nat.eq_of_beq_eq_true e)
  rw [powN,hb0,cond_false] at hz
  have hlt:n / 2 < 2 ^ k:=by rw [Nat.pow_succ] at hn; omega
  refine AWX.seq (AWX.seq (AWX.region (AOX.q hG rfl (st_mv rfl) rfl (AOX.q hG rfl (st_bin rfl rfl (b_leqF (by omega))) rfl (AOX.nil (AWX.cf rfl (AWX.skip ?_)))))))
  by_cases h1:n % 2 = 0
  ·have hb1:Nat.beq (n % 2) 0 = true:=by rw [h1]; rfl
   rw [hb1,cond_true] at hz
   refine AWX.seq (AWX.seq (AWX.region (AOX.q hG rfl (st_mv rfl) rfl (AOX.q hG rfl (st_bin rfl rfl (b_and1 (by omega))) rfl (AOX.q hG rfl (st_bin rfl rfl (b_gtrF (by omega))) rfl (AOX.nil (AWX.cf rfl (AWX.skip ?_))))))))
   refine AWX.seq (AWX.region (AOX.q hG rfl (st_mv rfl) rfl (AOX.q hG rfl (st_mv rfl) rfl (AOX.q hG rfl (st_mv rfl) rfl (AOX.qc hG rfl (st_call rfl rfl) (gm_call hG ha ha M) rfl (AOX.q hG rfl (st_mv rfl) rfl (AOX.q hG rfl (st_bin rfl rfl b_shr1) rfl (AOX.q hG rfl (st_as rfl) rfl (AOX.q hG rfl (st_as rfl) rfl (AOX.nil ?_))))))))))
   refine AWX.goto ?_
   show jx G pwC Q (.goto 0) _
   refine jx_to (rest:=pwRest) rfl (JX.step (AWX.seq (AWX.skip ?_)))
   exact pow_loop hG hQ k o (gm a a) (n / 2) _ hlt (by omega) ho (gm_lt ha) hz ⟨rfl,rfl,rfl,rfl,trivial⟩
  ·have hb1:Nat.beq (n % 2) 0 = false:=Bool.eq_false_iff.2 fun e => h1 (Nat.eq_of_beq_eq_true e)
   rw [hb1,cond_false] at hz
   refine AWX.seq (AWX.seq (AWX.region (AOX.q hG rfl (st_mv rfl) rfl (AOX.q hG rfl (st_bin rfl rfl (b_and1 (by omega))) rfl (AOX.q hG rfl (st_bin rfl rfl (b_gtrT (by omega))) rfl (AOX.nil ?_))))))
   refine AWX.ct rfl (AWX.region (AOX.q hG rfl (st_mv rfl) rfl (AOX.q hG rfl (st_mv rfl) rfl (AOX.q hG rfl (st_mv rfl) rfl (AOX.qc hG rfl (st_call rfl rfl) (gm_call hG ho ha M) rfl (AOX.q hG rfl (st_as rfl) rfl (AOX.nil ?_)))))))
   refine AWX.seq (AWX.region (AOX.q hG rfl (st_mv rfl) rfl (AOX.q hG rfl (st_mv rfl) rfl (AOX.q hG rfl (st_mv rfl) rfl (AOX.qc hG rfl (st_call rfl rfl) (gm_call hG ha ha M) rfl (AOX.q hG rfl (st_mv rfl) rfl (AOX.q hG rfl (st_bin rfl rfl b_shr1) rfl (AOX.q hG rfl (st_as rfl) rfl (AOX.q hG rfl (st_as rfl) rfl (AOX.nil ?_))))))))))
   refine AWX.goto ?_
   show jx G pwC Q (.goto 0) _
   refine jx_to (rest:=pwRest) rfl (JX.step (AWX.seq (AWX.skip ?_)))
   exact pow_loop hG hQ k (gm o a) (gm a a) (n / 2) _ hlt (by omega) (gm_lt ho) (gm_lt ha) hz ⟨rfl,rfl,rfl,rfl,trivial⟩
theorem pow_call (hG:GOK G) {a n:Nat} (ha:a < 256) (hn:n < 256) (M:Mem):ACall Tryz.prog G 142 [.int .u8 a,.int .i64 n,.int .i64 283] M (.int .u8 (powN 8 1 a n:Nat)) M:=by
 refine acall_mk (n:=24) (fv:=fnOf Tryz.f142) rfl rfl (by simp) (by decide) ?_
 refine AWX.seq (AWX.region (AOX.q hG rfl (st_as rfl) rfl (AOX.nil (AWX.scope (JX.step ?_)))))
 refine AWX.seq (AWX.region (AOX.q hG rfl (st_as rfl) rfl (AOX.nil ?_)))
 refine AWX.seq (AWX.label ?_)
 refine pow_loop hG (z:=powN 8 1 a n) (fun l hl => ?_) 8 1 a n _ hn (by omega) (by omega) ha rfl ⟨rfl,rfl,rfl,rfl,trivial⟩
 exact ⟨.inr rfl,l,[_],rfl,by simp only [subL] at hl; show (getL 24 l (.tmp 6)).bind _ = _; rw [hl.1]; rfl,rfl⟩
end
end
end
section
open Go.Proofs
noncomputable section
theorem lit_call {G:GF} (hG:GOK G) {f m:Nat} {args:List V} {v:V} (h:FN noX tyF fn noS m f args [] = some (v,[],[])) (ha:(Bd.mk [] []).subs args = some args) (hv:∀ base,rep [] [] base v = some v) (M:Mem):ACall Tryz.prog G f args M v M:=by
 have hc:=(run hG noX_ok noS_ok m _ _ _ _ _ _ h).1
 refine ⟨hc.1,fun prot W0 φ w us hM hus => ?_⟩
 have:=sumcall (B:=⟨[],[]⟩) (rows:=[]) (bl:=[]) (ns:=[]) (v:=v) (N:=[]) hc ha ⟨rfl,fun i cs0 p hi => by simp at hi⟩ (fun i j b hi => by simp at hi) hM hus rfl (rep_any v (hv _)) rfl
 rwa [List.append_nil] at this
def popc (x:Nat):Nat:=x % 2 + x / 2 % 2 + x / 4 % 2 + x / 8 % 2 + (x / 16 % 2 + x / 32 % 2 + x / 64 % 2 + x / 128 % 2)
def ocChk (x:Nat):Bool:=match FN noX tyF fn noS 4 150 [.int .u8 x] [] with
 | some (.int .i64 n,[],[]) => eqI n (popc x)
 | _ => false
theorem oc_ok:(List.range 256).all ocChk = true:=by kernel_rfl
theorem oc_call {G:GF} (hG:GOK G) {x:Nat} (hx:x < 256) (M:Mem):ACall Tryz.prog G 150 [.int .u8 x] M (.int .i64 (popc x:Nat)) M:=by
 have h:=List.all_eq_true.1 oc_ok x (List.mem_range.2 hx)
 unfold ocChk at h
 split at h
 ·rename_i n hn
  rw [(eqI_iff n (popc x)).1 h] at hn
  exact lit_call hG hn (by simp [Bd.subs,Bd.sub]) (fun base => by simp [rep]) M
 ·cases h
def affN (x:Nat):List Nat → Nat → Nat → Nat
 | [],_,c => c
 | r :: l,i,c => affN x l (i + 1) (bif Nat.beq (popc (Nat.land x r) % 2) 0 then c else Nat.xor c (2 ^ i))
section
variable {ρ:Operand → Option V} {M:Mem} {x y:Operand} {t:TypeId}
structure ArT1 (t:TypeId) (n:Nat):Prop where
 h:∃ d e de,tyF t = some d ∧ d.kind = .array n e ∧ tyF e = some de ∧ de.size = 1 ∧ de.kind.row = false
theorem ar157:ArT1 157 8:=⟨_,_,_,rfl,rfl,rfl,rfl,rfl⟩
theorem ar192:ArT1 192 256:=⟨_,_,_,rfl,rfl,rfl,rfl,rfl⟩
theorem ArT1.ar {n:Nat} (h:ArT1 t n):ArT t n:=by
 obtain ⟨d,e,de,h1,h2,h3,h4,_⟩:=h.h
 exact ⟨d,e,de,h1,h2,h3,h4⟩
theorem st_idx {k:IntKind} {i n:Nat} {cs:List V} {v:V} (ht:ArT1 t n) (hx:ρ x = some (.agg cs)) (hi:ρ y = some (.int k i)) (hlt:i < n) (hc:cs[i]? = some v):astep noX tyF ρ M (.index t x y) = some (.pure v):=by
 obtain ⟨d,e,de,h1,h2,h3,h4,h5⟩:=ht.h
 have:idx n (.int k (i:Int)) = some i:=by rw [idx_eq]; simp [hlt]
 simp only [astep,aIndex,h1,Option.bind_some,hx,hi,indexV,h2,h3,this,partV,h5,Bool.false_eq_true,if_false,h4,Nat.mul_one,hc,Option.map_some,rv]
theorem st_ixg {k:IntKind} {g o i n:Nat} (ht:ArT t n) (hx:ρ x = some (.gptr g o)) (hi:ρ y = some (.int k i)) (hlt:i < n):astep noX tyF ρ M (.indexAddr t x y) = some (.pure (.gptr g (o + i))):=by
 obtain ⟨d,e,de,h1,h2,h3,h4⟩:=ht.h
 have:idx n (.int k (i:Int)) = some i:=by rw [idx_eq]; simp [hlt]
 simp only [astep,aIndexA,h1,Option.bind_some,hx,hi,indexAddrV,h2,h3,this,h4,Nat.mul_one,Option.map_some]
theorem st_ldg {g o:Nat} {v:V} (ht:OneT t) (ha:ρ x = some (.gptr g o)) (hr:((lay g).bind fun cs => cs[o]?) = some v):astep noX tyF ρ M (.load t x) = some (.pure v):=by
 obtain ⟨d,h1,h2,_⟩:=ht.h
 cases hl:lay g with
 | none => rw [hl] at hr; cases hr
 | some cs =>
  rw [hl] at hr
  simp only [Option.bind_some] at hr
  simp only [astep,aLoad,h1,Option.bind_some,ha,loadV,hl,h2,Bool.false_eq_true,if_false,hr,Option.map_some,rv]
end
theorem ones_at (i:Nat) (hi:i < 8):((lay 1).bind fun cs => cs[0 + i]?) = some (.int .u8 ((2 ^ i:Nat):Int)):=by
 match i,hi with
 | 0,_ | 1,_ | 2,_ | 3,_ | 4,_ | 5,_ | 6,_ | 7,_ => rfl
theorem b_and8 {d:Option Ty} {M:Mem} {a b:Nat} (ha:a < 256) (hb:b < 256):abin noX d M .and (.int .u8 a) (.int .u8 b) = some (.int .u8 ((Nat.land a b:Nat):Int),none):=by
 have:=(nat_bits .u8 a b (by simp only [kmax]; omega) (by simp only [kmax]; omega)).1
 simp [abin,bInt,bLit,eint_eq,aint,this]
theorem b_xorn {d:Option Ty} {M:Mem} {a b:Nat} (ha:a < 256) (hb:b < 256):abin noX d M .xor (.int .u8 a) (.int .u8 b) = some (.int .u8 ((Nat.xor a b:Nat):Int),none):=by
 have:=(nat_bits .u8 a b (by simp only [kmax]; omega) (by simp only [kmax]; omega)).2.2
 simp [abin,bInt,bLit,eint_eq,aint,this]
def u8n (l:List Nat):List V:=l.map fun n:Nat => .int .u8 (n:Int)
section
variable {G:GF} {Q:AExit → St → Prop} {M:Mem}
def afLp:Code:=cAt [1,0,1,0,0] (fnOf Tryz.f141).body
def afC (x c i:Nat) (rows:List V):List (Nat × V):=[(0,.int .u8 x),(2,.int .u8 c),(9,.agg rows),(10,.int .i64 i)]
theorem af_loop (hG:GOK G) {x z:Nat} {rows:List Nat} (hx:x < 256) (hr:∀ r ∈ rows,r < 256) (hl8:rows.length = 8) (hQ:∀ l2,subL 27 l2 [(2,.int .u8 z)] → Q (.exit 0) (mkSt 27 l2 M)) :
  ∀ (n i c:Nat) (l:List (Nat × V)),i + n = 8 → c < 256 → affN x (rows.drop i) i c = z → subL 27 l (afC x c i (u8n rows)) → LX G afLp (mkSt 27 l M) Q
 | 0,i,c,l,hn,hc,hz,hl => by
  have:i = 8:=by omega
  subst this
  rw [List.drop_of_length_le (by omega)] at hz
  have hz:c = z:=hz
  subst hz
  refine LX.step (AWX.ff _ hl ?_)
  refine AWX.seq (AWX.region (AOX.q hG rfl (st_bin rfl rfl (b_lssF (by omega))) rfl (AOX.nil ?_)))
  exact AWX.seq (AWX.cf rfl (AWX.exit (hQ _ ⟨rfl,trivial⟩)))
 | n + 1,i,c,l,hn,hc,hz,hl => by
  have hil:i < rows.length:=by omega
  have hri:=hr _ (List.getElem_mem hil)
  rw [List.drop_eq_getElem_cons hil,affN] at hz
  have hget:(u8n rows)[i]? = some (.int .u8 (rows[i]:Nat)):=by simp [u8n,hil]
  generalize rows[i] = r at hz hri hget
  have hland:Nat.land x r < 256:=Nat.and_lt_two_pow x (n:=8) hri
  refine LX.step (AWX.ff _ hl ?_)
  refine AWX.seq (AWX.region (AOX.q hG rfl (st_bin rfl rfl (b_lssT (by omega))) rfl (AOX.nil ?_)))
  refine AWX.seq (AWX.ct rfl (AWX.skip ?_))
  refine AWX.seq (AWX.block (AWX.seq (AWX.region (AOX.q hG rfl (st_mv rfl) rfl (AOX.q hG rfl (st_idx ar157 rfl rfl (show i < 8 by omega) hget) rfl (AOX.q hG rfl (st_as rfl) rfl (AOX.q hG rfl (st_as rfl) rfl (AOX.nil ?_))))))))
  refine AWX.seq (AWX.region (AOX.q hG rfl (st_mv rfl) rfl (AOX.q hG rfl (st_mv rfl) rfl (AOX.q hG rfl (st_bin rfl rfl (b_and8 hx hri)) rfl (AOX.qc hG rfl (st_call rfl rfl) (oc_call hG hland M) rfl (AOX.q hG rfl (st_bin rfl rfl (b_rm (n:=2) (by omega))) rfl ?_))))))
  by_cases h0:popc (Nat.land x r) % 2 = 0
  ·have hb:Nat.beq (popc (Nat.land x r) % 2) 0 = true:=by rw [h0]; rfl
   rw [hb,cond_true] at hz
   refine AOX.q hG rfl (st_bin rfl rfl (b_gtrF (by omega))) rfl (AOX.nil (AWX.cf rfl (AWX.skip ?_)))
   refine AWX.region (AOX.q hG rfl (st_bin rfl rfl (b_add (n:=1) (r:=i + 1) rfl (by omega))) rfl (AOX.q hG rfl (st_mv rfl) rfl (AOX.nil ?_)))
   exact af_loop hG hx hr hl8 hQ n (i + 1) c _ (by omega) hc hz ⟨rfl,rfl,rfl,rfl,trivial⟩
  ·have hb:Nat.beq (popc (Nat.land x r) % 2) 0 = false:=Bool.eq_false_iff.2 fun e => h0 (Nat.eq_of_beq_eq_true e)
   rw [hb,cond_false] at hz
   have h2:2 ^ i < 256:=by
    have:2 ^ i ≤ 2 ^ 7:=Nat.pow_le_pow_right (by decide) (by omega)
    omega
   refine AOX.q hG rfl (st_bin rfl rfl (b_gtrT (by omega))) rfl (AOX.nil (AWX.ct rfl ?_))
   refine AWX.region (AOX.q hG rfl (st_mv rfl) rfl (AOX.q hG rfl (st_mv rfl) rfl (AOX.q hG rfl (st_ixg ar157.ar rfl rfl (show i < 8 by omega)) rfl (AOX.q hG rfl (st_ldg one5 rfl (ones_at i (by omega))) rfl (AOX.q hG rfl (st_bin rfl rfl (b_xorn hc h2)) rfl (AOX.q hG rfl (st_as rfl) rfl (AOX.nil ?_)))))))
   refine AWX.region (AOX.q hG rfl (st_bin rfl rfl (b_add (n:=1) (r:=i + 1) rfl (by omega))) rfl (AOX.q hG rfl (st_mv rfl) rfl (AOX.nil ?_)))
   exact af_loop hG hx hr hl8 hQ n (i + 1) _ _ (by omega) (Nat.xor_lt_two_pow (n:=8) hc h2) hz ⟨rfl,rfl,rfl,rfl,trivial⟩
theorem row157:∃ d,tyF 157 = some d ∧ d.kind.row = true ∧ d.size = 8:=⟨_,rfl,rfl,rfl⟩
theorem aff_call (hG:GOK G) {x c:Nat} {rows:List Nat} (hx:x < 256) (hc:c < 256) (hr:∀ r ∈ rows,r < 256) (hl8:rows.length = 8):ACall Tryz.prog G 141 [.int .u8 x,.agg (u8n rows),.int .u8 c] M (.int .u8 (affN x rows 0 c:Nat)) (M ++ [.own (u8n rows) 0]):=by
 refine acall_mk (n:=27) (fv:=fnOf Tryz.f141) rfl rfl (by simp) (by decide) ?_
 refine AWX.seq (AWX.region (AOX.qv hG rfl (st_box (v:=.agg (u8n rows)) rfl) rfl (AOX.q hG rfl (st_as rfl) rfl (AOX.nil ?_))))
 refine AWX.seq (AWX.seq (AWX.region (AOX.q hG rfl (st_lda row157 rfl (rd_own0 app_last (by simp [cellsOf,u8n,hl8]))) rfl (AOX.q hG rfl (st_mv rfl) rfl (AOX.nil ?_)))))
 refine AWX.block (AWX.loop (af_loop hG (z:=affN x rows 0 c) hx hr hl8 (fun l hl => ?_) 8 0 c _ rfl hc rfl ⟨rfl,rfl,rfl,rfl,trivial⟩))
 refine AWX.seq (AWX.ff _ hl (AWX.region (AOX.q hG rfl (st_mv rfl) rfl (AOX.q hG rfl (st_as rfl) rfl (AOX.nil (AWX.fin rfl rfl))))))
end
end
end
section
open Go.Proofs
noncomputable section
section
variable {ρ:Operand → Option V} {M M':Mem} {x a:Operand} {t:TypeId}
theorem st_not {b:Bool} (hx:ρ x = some (.bool b)):astep noX tyF ρ M (.unOp .not t x) = some (.pure (.bool !b)):=by
 simp only [astep,aUn,hx,Option.bind_some,unV,Option.map_some,rv]
theorem st_al {cs:List V} (h:(tyF t).map Ty.zero = some cs):astep noX tyF ρ M (.alloc t) = some (.val (.ptr M.length 0) (M ++ [.own cs 0])):=by
 simp only [Option.map_eq_some_iff] at h
 obtain ⟨d,h1,rfl⟩:=h
 simp only [astep,aAlloc,h1,Option.map_some]
theorem st_sta {n b o:Nat} {cs:List V} (ht:∃ d,tyF t = some d ∧ d.kind.row = true ∧ d.size = n) (ha:ρ a = some (.ptr b o)) (hx:ρ x = some (.agg cs)) (hl:cs.length = n) (hw:wr M b o cs = some M'):astep noX tyF ρ M (.store t a x) = some (.skip M'):=by
 obtain ⟨d,h1,_,rfl⟩:=ht
 simp only [astep,aStore,h1,Option.bind_some,ha,hx,cellsOf,hl,if_true,hw,Option.map_some]
end
theorem wr_whole {M:Mem} {b:Nat} {cs ds:List V} {g:Nat} (h:M[b]? = some (.own cs g)) (hl:ds.length = cs.length) (h1:ds.all V.one = true):wr M b 0 ds = some (M.set b (.own ds g)):=by
 simp only [wr,h,Nat.zero_add]
 rw [if_pos ⟨by omega,h1⟩]
 simp [hl]
theorem cv_b {d:Nat} (hd:d < 256) {M:Mem}:convV noX tyF 3 5 M (.int .i64 d) = some (.int .u8 d,none):=by
 show some (V.int .u8 (kwrap .u8 d),none) = _
 rw [kw8 (by omega) (by omega)]
theorem row192:∃ d,tyF 192 = some d ∧ d.kind.row = true ∧ d.size = 256:=⟨_,rfl,rfl,rfl⟩
def tabN (e c:Nat) (rows:List Nat):List Int:=(List.range 256).map fun x => (affN (powN 8 1 x e) rows 0 c:Int)
section
variable {G:GF} {Q:AExit → St → Prop} {M:Mem}
def mkLp:Code:=cAt [1,1,0,1,0,0] (fnOf Tryz.f122).body
def mkC (p q e c k:Nat):List (Nat × V):=[(0,.int .i64 e),(1,.int .i64 283),(3,.int .u8 c),(6,.ptr p 0),(9,.sl q 0 256 (some 256)),(13,.int .i64 (256:Nat)),(14,.int .i64 k)]
structure MkT (M M1:Mem) (p q:Nat) (rows:List Nat) (out:List Int):Prop where
 gr:GrowL M M1 []
 hp:M1[p]? = some (.own (u8n rows) 0)
 hq:M1[q]? = some (.own (u8s' out) 0)
 ql:M.length ≤ q
 ne:p ≠ q
theorem tabN_len (e c:Nat) (rows:List Nat):(tabN e c rows).length = 256:=by simp [tabN]
theorem mk_loop (hG:GOK G) {p q e c:Nat} {rows:List Nat} (he:e < 256) (hc:c < 256) (hr:∀ r ∈ rows,r < 256) (hl8:rows.length = 8) (hQ:∀ l2 M2,MkT M M2 p q rows (tabN e c rows) → subL 30 l2 (mkC p q e c 256) → Q (.exit 0) (mkSt 30 l2 M2)) :
  ∀ (n k:Nat) (l:List (Nat × V)) (M1:Mem),k + n = 256 → MkT M M1 p q rows (fillL (tabN e c rows) k) → subL 30 l (mkC p q e c k) → LX G mkLp (mkSt 30 l M1) Q
 | 0,k,l,M1,hk,h,hl => by
  have:k = 256:=by omega
  subst this
  have hz:fillL (tabN e c rows) 256 = tabN e c rows:=by
   have:=fillL_all (tabN e c rows)
   rwa [tabN_len] at this
  rw [hz] at h
  refine LX.step (AWX.ff _ hl ?_)
  refine AWX.seq (AWX.region (AOX.q hG rfl (st_bin rfl rfl (b_lssF (by omega))) rfl (AOX.nil ?_)))
  exact AWX.seq (AWX.cf rfl (AWX.exit (hQ _ _ h ⟨rfl,rfl,rfl,rfl,rfl,rfl,rfl,trivial⟩)))
 | n + 1,k,l,M1,hk,h,hl => by
  have hk2:k < 256:=by omega
  have hplt:=lt_of h.hp
  have hpow:=powN_lt 8 1 k e (by omega) hk2
  have htl:=tabN_len e c rows
  have htv:(tabN e c rows)[k]'(by omega) = (affN (powN 8 1 k e) rows 0 c:Int):=by simp [tabN]
  refine LX.step (AWX.ff _ hl ?_)
  refine AWX.seq (AWX.region (AOX.q hG rfl (st_bin rfl rfl (b_lssT (by omega))) rfl (AOX.nil ?_)))
  refine AWX.seq (AWX.ct rfl (AWX.skip ?_))
  refine AWX.seq (AWX.block (AWX.seq (AWX.region (AOX.q hG rfl (st_mv rfl) rfl (AOX.q hG rfl (st_as rfl) rfl (AOX.nil (AWX.draw ?_)))))))
  refine QG2.b (bad:=[18,19,20,21,22,23,24,25,26]) hG (by kernel_rfl) rfl (st_mv rfl) rfl ?_
  refine QG2.b (bad:=[17,19,20,21,22,23,24,25,26]) hG (by kernel_rfl) rfl (st_mv rfl) rfl ?_
  refine QG2.b (bad:=[17,18,21,22,24,25]) hG (by kernel_rfl) rfl (st_mv rfl) rfl ?_
  refine QG2.b (bad:=[17,18,21,22,24,25]) hG (by kernel_rfl) rfl (st_cv rfl (cv_b hk2)) rfl ?_
  refine QG2.b (bad:=[17,18,19,20,22,24,25]) hG (by kernel_rfl) rfl (st_mv rfl) rfl ?_
  refine QG2.b (bad:=[17,18,19,20,21,24,25]) hG (by kernel_rfl) rfl (st_mv rfl) rfl ?_
  refine QG2.c (T:=[]) (bad:=[17,18,24,25]) hG (by kernel_rfl) rfl (.inl rfl) rfl (st_call rfl rfl) (pow_call hG hk2 he M1) (GrowL.refl _) rfl ?_
  refine QG2.k [p] (bad:=[17,18,19,20,21,22,23,25]) hG (by kernel_rfl) ⟨.inr (fun b hb => by simp only [List.mem_singleton] at hb; subst hb; exact ⟨by simp,hplt⟩),trivial⟩ rfl (st_lda (n:=8) row157 rfl (by rw [maskK_rd (by simp)]; exact rd_own0 h.hp (by simp [u8n,hl8]))) rfl ?_
  refine QG2.b (bad:=[17,18,19,20,21,22,23,24]) hG (by kernel_rfl) rfl (st_mv rfl) rfl ?_
  refine QG2.c (T:=[]) (bad:=[17,18]) hG (by kernel_rfl) (by kernel_rfl) (.inl rfl) rfl (st_call rfl rfl) (aff_call hG hpow hc hr hl8) (GrowL.one _ _ _) rfl ?_
  have hM2:GrowL M1 (M1 ++ [.own (u8n rows) 0]) []:=GrowL.one _ _ _
  have hp2:=hM2.g0 h.hp
  have hq2:=hM2.g0 h.hq
  generalize M1 ++ [Blk.own (u8n rows) 0] = M2 at hM2 hp2 hq2
  refine QG2.b (bad:=[]) hG (by kernel_rfl) rfl (st_ix sl22 rfl rfl (show k < 256 by omega)) rfl ?_
  have hw:wr M2 q (0 + k) [.int .u8 (affN (powN 8 1 k e) rows 0 c:Nat)] = some (M2.set q (.own (u8s' (fillL (tabN e c rows) (k + 1))) 0)):=by
   rw [Nat.zero_add,wr_own hq2 (by rw [u8s'_len,fillL_len (by omega)]; omega) rfl,u8s'_set,← htv,fillL_set (by omega)]
  refine QG2.st (T:=[q]) hG (bad:=[]) (by kernel_rfl) (by kernel_rfl) (.inr (all_lt (by kernel_rfl))) rfl (st_st one5 rfl rfl rfl hw) (GrowL.wr hw) (QG2.done (by kernel_rfl) rfl ?_)
  refine AWX.region (AOX.q hG rfl (st_bin rfl rfl (b_add (n:=1) (r:=k + 1) rfl (by omega))) rfl (AOX.q hG rfl (st_mv rfl) rfl (AOX.nil ?_)))
  exact mk_loop hG he hc hr hl8 hQ n (k + 1) _ _ (by omega) ⟨(h.gr.tr hM2).st h.ql hq2 (by simp),by rw [set_ne (Ne.symm h.ne)]; exact hp2,set_get hq2,h.ql,h.ne⟩ ⟨rfl,rfl,rfl,rfl,rfl,rfl,rfl,trivial⟩
theorem make_call (hG:GOK G) {e c:Nat} {rows:List Nat} (he:e < 256) (hc:c < 256) (hr:∀ r ∈ rows,r < 256) (hl8:rows.length = 8):∃ M2,ACall Tryz.prog G 122 [.int .i64 e,.int .i64 283,.agg (u8n rows),.int .u8 c] M (.sl (M.length + 1) 0 256 (some 256)) M2 ∧ GrowL M M2 [] ∧ M2[M.length + 1]? = some (.own (u8s' (tabN e c rows)) 0):=by
 suffices h:AWX G (fnOf Tryz.f122).body (mkSt 30 (argL 0 [.int .i64 e,.int .i64 283,.agg (u8n rows),.int .u8 c]) M) (fun ex s => ∃ M2,Fini 30 (fnOf Tryz.f122).results (.sl (M.length + 1) 0 256 (some 256)) M2 ex s ∧ GrowL M M2 [] ∧ M2[M.length + 1]? = some (.own (u8s' (tabN e c rows)) 0)) by
  obtain ⟨ex,s,h1,M2,h2,h3⟩:=h
  exact ⟨M2,acall_mk (n:=30) (fv:=fnOf Tryz.f122) rfl rfl (by simp) (by decide) ⟨ex,s,h1,h2⟩,h3⟩
 have hz:u8s' (fillL (tabN e c rows) 0) = List.replicate 256 (V.int .u8 0):=by rw [fillL_zero,tabN_len,u8s',List.map_replicate]
 refine AWX.seq (AWX.region (AOX.qv hG rfl (st_box (v:=.agg (u8n rows)) rfl) rfl (AOX.q hG rfl (st_as rfl) rfl (AOX.nil ?_))))
 refine AWX.seq (AWX.region (AOX.qv hG rfl (st_mk (l:=256) (c:=256) el22 (by omega) rfl rfl (by omega) (by omega)) rfl (AOX.q hG rfl (st_as rfl) rfl (AOX.nil ?_))))
 have hl1:(M ++ [Blk.own (cellsOf (.agg (u8n rows))) 0]).length = M.length + 1:=by simp
 rw [hl1]
 refine AWX.seq (AWX.seq (AWX.region (AOX.q hG rfl (st_mv rfl) rfl (AOX.q hG rfl (st_len sl22 rfl) rfl (AOX.q hG rfl (st_mv rfl) rfl (AOX.nil ?_))))))
 refine AWX.block (AWX.loop (mk_loop (M:=M) hG he hc hr hl8 (fun l M2 h hl => ?_) 256 0 _ _ rfl ⟨(GrowL.one _ _ _).tr (GrowL.one _ _ _),(GrowL.one _ _ _).g0 app_last,by rw [hz,← hl1]; exact app_last,by omega,by omega⟩ ⟨rfl,rfl,rfl,rfl,rfl,rfl,rfl,trivial⟩))
 refine AWX.seq (AWX.ff _ hl (AWX.region (AOX.q hG rfl (st_mv rfl) rfl (AOX.q hG rfl (st_as rfl) rfl (AOX.nil (AWX.ret ?_))))))
 exact ⟨M2,⟨.inr rfl,_,_,rfl,rfl,rfl⟩,h.gr,h.hq⟩
end
end
end
section
open Go.Proofs
noncomputable section
section
variable {n:Nat} {l:List (Nat × V)} {M M':Mem} {v:V} {G:GF}
def FiniC (n:Nat) (rs:List ResultVar) (v:V) (M':Mem):AExit → St → Prop:=fun x s => (x = .normal ∨ x = .ret) ∧ ∃ l vs,s = mkSt n l M' ∧ resS tyF (mkSt n l M') rs = some vs ∧ retV vs = v
theorem acall_mkc {f:Nat} {fv:FnV} {args:List V} (hf:fn f = some fv) (hn:fv.ntmps = n) (ha:args.length ≤ n) (hb:n ≤ 320) (h:AWX G fv.body (mkSt n (argL 0 args) M) (FiniC n fv.results v M')):ACall Tryz.prog G f args M v M':=by
 refine acall_awx hf (AWX.mono (AWX.to (n:=n) (M:=M) (l:=argL 0 args) ?_ rfl rfl ?_ h) ?_)
 ·simp only [start,List.length_append,List.length_map,List.length_replicate,hn]; omega
 ·refine argL_has fun j v hj => ?_
  have hlt:=(List.getElem?_eq_some_iff.1 hj).1
  simp only [St.get,start,Nat.zero_add]
  rw [List.getElem?_append_left (by simpa using hlt),List.getElem?_map,hj]; rfl
 ·rintro x s ⟨hx,l,vs,rfl,h1,h2⟩
  exact ⟨hx,rfl,by rw [mk_len]; exact hb,rfl,vs,h1,h2⟩
theorem cell_row {t u m b o:Nat} {cs:List V} (ht:∃ d,tyF u = some d ∧ d.kind.row = true ∧ d.size = m) (hg:getL n l (.tmp t) = some (.ptr b o)) (hr:rd M b o m = some cs):resS tyF (mkSt n l M) [.cell t u] = some [.agg cs]:=by
 obtain ⟨d,h1,h2,rfl⟩:=ht
 have:(mkSt n l M).get (.tmp t) = some (.ptr b o):=by rw [mk_get]; exact hg
 simp only [resS,this,Option.bind_some,h1,resCell,h2,if_true]
 show ((rd M b o d.size).map V.agg).bind _ = _
 rw [hr]; rfl
variable {ops:Array Oper} {i d id:Nat} {s0:St} {lo:Lo} {Q:AExit → St → Prop} {x y:Operand} {r ty:TypeId} {pos:String} {af:Array Edge} {bad:List Nat} {cs:List V}
theorem QG2.eq (hb:badT ops (msOf ops) i = bad) (ho:ops[i]? = some ⟨some d,.binOp .eql 192 x y r,ty,pos,af,none⟩) (hx:getD bad n l x = some (.agg cs)) (hy:getD bad n l y = some (.agg cs)) (hl:cs.length = 256) (hbo:∀ v ∈ cs,∃ b,v = .bool b) (hd:Nat.blt d n = true) (h:QG2 G ops id s0 (i + 1) (mkSt n ((d,.bool true) :: l) M) lo Q):QG2 G ops id s0 i (mkSt n l M) lo Q:=by
 intro hq
 refine h ?_
 rw [← mk_put (v:=.bool true) (M':=M) hd]
 refine hq.step ho (kM:=deads M) (R:=deads M) (T:=[]) (by simp [deads,mkSt]) (fun _ _ hk => .inl (deads_dead hk)) ?_ (GrowL.refl _) (.inl rfl) (.inr ⟨rfl,rfl,rfl⟩) (fun _ h => h) (.inr ⟨rfl,rfl⟩)
 exact aopv_eq (s:=seen ops (msOf ops) i (mkSt n l M) (deads M)) ho (by rw [seen_getD hb]; exact hx) (by rw [seen_getD hb]; exact hy) hl hbo
end
def seenP (t:List Int) (k:Nat):List V:=(t.take k).foldl (fun s a => s.set a.toNat (.bool true)) (List.replicate 256 (.bool false))
theorem seenP_len (t:List Int) (k:Nat):(seenP t k).length = 256:=by
 unfold seenP
 have:∀ (l:List Int) (s:List V),(l.foldl (fun s a => s.set a.toNat (.bool true)) s).length = s.length:=by
  intro l
  induction l with
  | nil => intro s; rfl
  | cons a l ih => intro s; rw [List.foldl_cons,ih]; simp
 rw [this,List.length_replicate]
theorem seenP_succ {t:List Int} {k:Nat} (h:k < t.length):seenP t (k + 1) = (seenP t k).set (t[k]).toNat (.bool true):=by
 unfold seenP
 rw [List.take_succ_eq_append_getElem h,List.foldl_append]; rfl
def wantP (k:Nat):List V:=List.replicate k (.bool true) ++ List.replicate (256 - k) (.bool false)
theorem wantP_succ {k:Nat} (h:k < 256):(wantP k).set k (.bool true) = wantP (k + 1):=by
 unfold wantP
 rw [List.set_append_right _ _ (by simp),List.length_replicate,Nat.sub_self,show 256 - k = (256 - (k + 1)) + 1 by omega,List.replicate_succ,List.set_cons_zero,List.replicate_succ',List.append_assoc]
 rfl
theorem wantP_len {k:Nat} (h:k ≤ 256):(wantP k).length = 256:=by simp [wantP]; omega
theorem z192:(tyF 192).map Ty.zero = some (List.replicate 256 (.bool false)):=by kernel_rfl
def backP (t:List Int):Nat → List Int
 | 0 => List.replicate 256 0
 | k + 1 => (backP t k).set (at0' t k).toNat k
where at0' (l:List Int) (i:Nat):Int:=(l[i]?).getD 0
theorem backP_len (t:List Int):∀ k,(backP t k).length = 256
 | 0 => by rw [backP,List.length_replicate]
 | k + 1 => by rw [backP,List.length_set,backP_len t k]
section
variable {G:GF} {Q:AExit → St → Prop} {M:Mem} {t:List Int} {b o:Nat} {lim:Option Nat}
def snLp:Code:=cAt [1,0,1,0,0] (fnOf Tryz.f151).body
def snC (q b o:Nat) (lim:Option Nat) (k:Nat):List (Nat × V):=[(2,.ptr q 0),(5,.sl b o 256 lim),(6,.int .i64 (256:Nat)),(7,.int .i64 k)]
theorem sn_loop (hG:GOK G) {q:Nat} (ht:t.length = 256) (hb:Bytes t) (hr:rd M b o 256 = some (u8s' t)) (hq:M.length ≤ q) (hQ:∀ l2 M2,GrowL M M2 [] → M2[q]? = some (.own (seenP t 256) 0) → subL 15 l2 (snC q b o lim 256) → Q (.exit 0) (mkSt 15 l2 M2)) :
  ∀ (n k:Nat) (l:List (Nat × V)) (M1:Mem),k + n = 256 → GrowL M M1 [] → M1[q]? = some (.own (seenP t k) 0) → subL 15 l (snC q b o lim k) → LX G snLp (mkSt 15 l M1) Q
 | 0,k,l,M1,hk,hM,hs,hl => by
  have:k = 256:=by omega
  subst this
  refine LX.step (AWX.ff _ hl ?_)
  refine AWX.seq (AWX.region (AOX.q hG rfl (st_bin rfl rfl (b_lssF (by omega))) rfl (AOX.nil ?_)))
  exact AWX.seq (AWX.cf rfl (AWX.exit (hQ _ _ hM hs ⟨rfl,rfl,rfl,rfl,trivial⟩)))
 | n + 1,k,l,M1,hk,hM,hs,hl => by
  have hkt:k < t.length:=by omega
  have hx:=hb _ (List.getElem_mem hkt)
  have hcell:((t[k].toNat:Nat):Int) = t[k]:=by omega
  refine LX.step (AWX.ff _ hl ?_)
  refine AWX.seq (AWX.region (AOX.q hG rfl (st_bin rfl rfl (b_lssT (by omega))) rfl (AOX.nil ?_)))
  refine AWX.seq (AWX.ct rfl (AWX.skip ?_))
  refine AWX.seq (AWX.block (AWX.seq (AWX.region (AOX.q hG rfl (st_ix sl22 rfl rfl (show k < 256 by omega)) rfl (AOX.q (v:=.int .u8 (t[k].toNat:Nat)) hG rfl (st_ld one5 rfl (rd_one (rd_grow hM hr (by simp)) (by simp [u8s',hkt,hcell]))) rfl (AOX.q hG rfl (st_as rfl) rfl (AOX.nil ?_)))))))
  have hw:wr M1 q (0 + t[k].toNat) [.bool true] = some (M1.set q (.own (seenP t (k + 1)) 0)):=by
   rw [Nat.zero_add,wr_own hs (by rw [seenP_len]; omega) rfl,seenP_succ hkt]
  refine AWX.region (AOX.q hG rfl (st_mv rfl) rfl (AOX.q hG rfl (st_ixa ar192.ar rfl rfl (show t[k].toNat < 256 by omega)) rfl (AOX.qs hG rfl (st_st one4 rfl rfl rfl hw) (AOX.nil ?_))))
  refine AWX.region (AOX.q hG rfl (st_bin rfl rfl (b_add (n:=1) (r:=k + 1) rfl (by omega))) rfl (AOX.q hG rfl (st_mv rfl) rfl (AOX.nil ?_)))
  exact sn_loop hG ht hb hr hq hQ n (k + 1) _ _ (by omega) (hM.st hq hs (by simp)) (set_get hs) ⟨rfl,rfl,rfl,rfl,trivial⟩
theorem seen_call (hG:GOK G) (ht:t.length = 256) (hb:Bytes t) (hr:rd M b o 256 = some (u8s' t)):∃ M2,ACall Tryz.prog G 151 [.sl b o 256 lim] M (.agg (seenP t 256)) M2 ∧ GrowL M M2 []:=by
 suffices h:AWX G (fnOf Tryz.f151).body (mkSt 15 (argL 0 [.sl b o 256 lim]) M) (fun ex s => ∃ M2,FiniC 15 (fnOf Tryz.f151).results (.agg (seenP t 256)) M2 ex s ∧ GrowL M M2 []) by
  obtain ⟨ex,s,h1,M2,h2,h3⟩:=h
  exact ⟨M2,acall_mkc (n:=15) (fv:=fnOf Tryz.f151) rfl rfl (by simp) (by decide) ⟨ex,s,h1,h2⟩,h3⟩
 refine AWX.seq (AWX.region (AOX.qv hG rfl (st_al z192) rfl (AOX.nil ?_)))
 refine AWX.seq (AWX.seq (AWX.region (AOX.q hG rfl (st_mv rfl) rfl (AOX.q hG rfl (st_len sl22 rfl) rfl (AOX.q hG rfl (st_mv rfl) rfl (AOX.nil ?_))))))
 refine AWX.block (AWX.loop (sn_loop hG (M:=M) (q:=M.length) ht hb hr (Nat.le_refl _) (fun l M2 hM hs hl => ?_) 256 0 _ _ rfl (GrowL.one _ _ _) app_last ⟨rfl,rfl,rfl,rfl,trivial⟩))
 have hs':=rd_own0 hs (seenP_len t 256)
 have hone:(seenP t 256).all V.one = true:=by
  have:∀ (l:List Int) (s:List V),s.all V.one = true → (l.foldl (fun s a => s.set a.toNat (.bool true)) s).all V.one = true:=by
   intro l
   induction l with
   | nil => intro s h; exact h
   | cons a l ih =>
    intro s h
    rw [List.foldl_cons]
    refine ih _ (List.all_eq_true.2 fun v hv => ?_)
    rcases List.mem_or_eq_of_mem_set hv with h1 | rfl
    ·exact List.all_eq_true.1 h v h1
    ·rfl
  exact this _ _ (List.all_eq_true.2 fun v hv => by rw [(List.mem_replicate.1 hv).2]; rfl)
 refine AWX.seq (AWX.ff _ hl (AWX.region (AOX.q hG rfl (st_lda row192 rfl hs') rfl (AOX.qs hG rfl (st_sta row192 rfl rfl (seenP_len t 256) (wr_whole hs rfl hone)) (AOX.nil (AWX.ret ?_))))))
 exact ⟨_,⟨.inr rfl,_,_,rfl,cell_row row192 rfl (rd_own0 (set_get hs) (seenP_len t 256)),rfl⟩,hM.st (Nat.le_refl _) hs (by simp)⟩
def isLp:Code:=cAt [1,1,1,0,1,0,0] (fnOf Tryz.f143).body
def isC (p b o:Nat) (lim:Option Nat) (k:Nat):List (Nat × V):=[(0,.sl b o 256 lim),(3,.ptr p 0),(9,.int .i64 (256:Nat)),(10,.int .i64 k)]
theorem is_loop (hG:GOK G) {p:Nat} (hp:M.length ≤ p) (hQ:∀ l2 M2,GrowL M M2 [] → M2[p]? = some (.own (wantP 256) 0) → subL 20 l2 (isC p b o lim 256) → Q (.exit 0) (mkSt 20 l2 M2)) :
  ∀ (n k:Nat) (l:List (Nat × V)) (M1:Mem),k + n = 256 → GrowL M M1 [] → M1[p]? = some (.own (wantP k) 0) → subL 20 l (isC p b o lim k) → LX G isLp (mkSt 20 l M1) Q
 | 0,k,l,M1,hk,hM,hs,hl => by
  have:k = 256:=by omega
  subst this
  refine LX.step (AWX.ff _ hl ?_)
  refine AWX.seq (AWX.region (AOX.q hG rfl (st_bin rfl rfl (b_lssF (by omega))) rfl (AOX.nil ?_)))
  exact AWX.seq (AWX.cf rfl (AWX.exit (hQ _ _ hM hs ⟨rfl,rfl,rfl,rfl,trivial⟩)))
 | n + 1,k,l,M1,hk,hM,hs,hl => by
  refine LX.step (AWX.ff _ hl ?_)
  refine AWX.seq (AWX.region (AOX.q hG rfl (st_bin rfl rfl (b_lssT (by omega))) rfl (AOX.nil ?_)))
  refine AWX.seq (AWX.ct rfl (AWX.skip ?_))
  have hw:wr M1 p (0 + k) [.bool true] = some (M1.set p (.own (wantP (k + 1)) 0)):=by
   rw [Nat.zero_add,wr_own hs (by rw [wantP_len (by omega)]; omega) rfl,wantP_succ (by omega)]
  refine AWX.seq (AWX.block (AWX.seq (AWX.region (AOX.q hG rfl (st_mv rfl) rfl (AOX.q hG rfl (st_as rfl) rfl (AOX.nil ?_))))))
  refine AWX.region (AOX.q hG rfl (st_mv rfl) rfl (AOX.q hG rfl (st_ixa ar192.ar rfl rfl (show k < 256 by omega)) rfl (AOX.qs hG rfl (st_st one4 rfl rfl rfl hw) (AOX.nil ?_))))
  refine AWX.region (AOX.q hG rfl (st_bin rfl rfl (b_add (n:=1) (r:=k + 1) rfl (by omega))) rfl (AOX.q hG rfl (st_mv rfl) rfl (AOX.nil ?_)))
  exact is_loop hG hp hQ n (k + 1) _ _ (by omega) (hM.st hp hs (by simp)) (set_get hs) ⟨rfl,rfl,rfl,rfl,trivial⟩
theorem is_call (hG:GOK G) (ht:t.length = 256) (hb:Bytes t) (hs:seenP t 256 = wantP 256) (hr:rd M b o 256 = some (u8s' t)):∃ M2,ACall Tryz.prog G 143 [.sl b o 256 lim] M (.bool true) M2 ∧ GrowL M M2 []:=by
 suffices h:AWX G (fnOf Tryz.f143).body (mkSt 20 (argL 0 [.sl b o 256 lim]) M) (fun ex s => ∃ M2,Fini 20 (fnOf Tryz.f143).results (.bool true) M2 ex s ∧ GrowL M M2 []) by
  obtain ⟨ex,s,h1,M2,h2,h3⟩:=h
  exact ⟨M2,acall_mk (n:=20) (fv:=fnOf Tryz.f143) rfl rfl (by simp) (by decide) ⟨ex,s,h1,h2⟩,h3⟩
 refine AWX.seq (AWX.region (AOX.q hG rfl (st_as rfl) rfl (AOX.nil ?_)))
 refine AWX.seq (AWX.seq (AWX.region (AOX.q hG rfl (st_mv rfl) rfl (AOX.q hG rfl (st_len sl22 rfl) rfl (AOX.q hG rfl (st_bin rfl rfl (b_gtrF (by omega))) rfl (AOX.nil (AWX.cf rfl (AWX.skip ?_))))))))
 refine AWX.seq (AWX.region (AOX.qv hG rfl (st_al z192) rfl (AOX.nil ?_)))
 refine AWX.seq (AWX.seq (AWX.region (AOX.q hG rfl (st_mv rfl) rfl (AOX.q hG rfl (st_len sl22 rfl) rfl (AOX.q hG rfl (st_mv rfl) rfl (AOX.nil ?_))))))
 refine AWX.block (AWX.loop (is_loop hG (M:=M) (p:=M.length) (Nat.le_refl _) (fun l M2 hM hw hl => ?_) 256 0 _ _ rfl (GrowL.one _ _ _) app_last ⟨rfl,rfl,rfl,rfl,trivial⟩))
 obtain ⟨M3,hc,hM3⟩:=seen_call (lim:=lim) hG ht hb (rd_grow hM hr (by simp))
 rw [hs] at hc
 have hwl:=lt_of hw
 have hbo:∀ v ∈ wantP 256,∃ b,v = .bool b:=fun v hv => by
  rcases List.mem_append.1 hv with h | h
  ·exact ⟨_,(List.mem_replicate.1 h).2⟩
  ·exact ⟨_,(List.mem_replicate.1 h).2⟩
 refine AWX.seq (AWX.ff _ hl (AWX.draw ?_))
 refine QG2.b (bad:=[18]) hG (by kernel_rfl) rfl (st_mv rfl) rfl ?_
 refine QG2.c (T:=[]) (bad:=[18]) hG (by kernel_rfl) rfl (.inl rfl) rfl (st_call rfl rfl) hc hM3 rfl ?_
 refine QG2.k [M.length] (bad:=[16,17]) hG (by kernel_rfl) ⟨.inr (fun b hb => by simp only [List.mem_singleton] at hb; subst hb; exact ⟨by simp,hwl⟩),trivial⟩ rfl (st_lda row192 rfl (by rw [maskK_rd (by simp)]; exact rd_own0 (hM3.g0 hw) (wantP_len (Nat.le_refl _)))) rfl ?_
 refine QG2.eq (bad:=[]) (by kernel_rfl) rfl rfl rfl (wantP_len (Nat.le_refl _)) hbo rfl ?_
 refine QG2.b (bad:=[]) hG (by kernel_rfl) rfl (st_as rfl) rfl (QG2.done (by kernel_rfl) rfl (AWX.ret ?_))
 exact ⟨M3,⟨.inr rfl,_,_,rfl,rfl,rfl⟩,hM.tr hM3⟩
def baLp:Code:=cAt [1,1,1,0,1,0,0] (fnOf Tryz.f123).body
def baC (q b o:Nat) (lim:Option Nat) (k:Nat):List (Nat × V):=[(4,.sl q 0 256 (some 256)),(13,.sl b o 256 lim),(14,.int .i64 (256:Nat)),(15,.int .i64 k)]
theorem ba_loop (hG:GOK G) {q:Nat} (ht:t.length = 256) (hb:Bytes t) (hr:rd M b o 256 = some (u8s' t)) (hq:M.length ≤ q) (hQ:∀ l2 M2,GrowL M M2 [] → M2[q]? = some (.own (u8s' (backP t 256)) 0) → subL 27 l2 (baC q b o lim 256) → Q (.exit 0) (mkSt 27 l2 M2)) :
  ∀ (n k:Nat) (l:List (Nat × V)) (M1:Mem),k + n = 256 → GrowL M M1 [] → M1[q]? = some (.own (u8s' (backP t k)) 0) → subL 27 l (baC q b o lim k) → LX G baLp (mkSt 27 l M1) Q
 | 0,k,l,M1,hk,hM,hs,hl => by
  have:k = 256:=by omega
  subst this
  refine LX.step (AWX.ff _ hl ?_)
  refine AWX.seq (AWX.region (AOX.q hG rfl (st_bin rfl rfl (b_lssF (by omega))) rfl (AOX.nil ?_)))
  exact AWX.seq (AWX.cf rfl (AWX.exit (hQ _ _ hM hs ⟨rfl,rfl,rfl,rfl,trivial⟩)))
 | n + 1,k,l,M1,hk,hM,hs,hl => by
  have hkt:k < t.length:=by omega
  have hx:=hb _ (List.getElem_mem hkt)
  have hcell:((t[k].toNat:Nat):Int) = t[k]:=by omega
  refine LX.step (AWX.ff _ hl ?_)
  refine AWX.seq (AWX.region (AOX.q hG rfl (st_bin rfl rfl (b_lssT (by omega))) rfl (AOX.nil ?_)))
  refine AWX.seq (AWX.ct rfl (AWX.skip ?_))
  refine AWX.seq (AWX.block (AWX.seq (AWX.region (AOX.q hG rfl (st_mv rfl) rfl (AOX.q hG rfl (st_ix sl22 rfl rfl (show k < 256 by omega)) rfl (AOX.q (v:=.int .u8 (t[k].toNat:Nat)) hG rfl (st_ld one5 rfl (rd_one (rd_grow hM hr (by simp)) (by simp [u8s',hkt,hcell]))) rfl (AOX.q hG rfl (st_as rfl) rfl (AOX.q hG rfl (st_as rfl) rfl (AOX.nil ?_)))))))))
  have hw:wr M1 q (0 + t[k].toNat) [.int .u8 k] = some (M1.set q (.own (u8s' (backP t (k + 1))) 0)):=by
   rw [Nat.zero_add,wr_own hs (by rw [u8s'_len,backP_len]; omega) rfl,u8s'_set,backP,backP.at0',List.getElem?_eq_getElem hkt]; rfl
  refine AWX.region (AOX.q hG rfl (st_mv rfl) rfl (AOX.q hG rfl (st_mv rfl) rfl (AOX.q hG rfl (st_mv rfl) rfl (AOX.q hG rfl (st_cv rfl (cv_b (by omega))) rfl (AOX.q hG rfl (st_ix sl22 rfl rfl (show t[k].toNat < 256 by omega)) rfl (AOX.qs hG rfl (st_st one5 rfl rfl rfl hw) (AOX.nil ?_)))))))
  refine AWX.region (AOX.q hG rfl (st_bin rfl rfl (b_add (n:=1) (r:=k + 1) rfl (by omega))) rfl (AOX.q hG rfl (st_mv rfl) rfl (AOX.nil ?_)))
  exact ba_loop hG ht hb hr hq hQ n (k + 1) _ _ (by omega) (hM.st hq hs (by simp)) (set_get hs) ⟨rfl,rfl,rfl,rfl,trivial⟩
theorem back_call (hG:GOK G) (ht:t.length = 256) (hb:Bytes t) (hs:seenP t 256 = wantP 256) (hr:rd M b o 256 = some (u8s' t)):∃ (M2:Mem) (q:Nat),ACall Tryz.prog G 123 [.sl b o 256 lim] M (.tup [.sl q 0 256 (some 256),.bool true]) M2 ∧ GrowL M M2 [] ∧ M.length ≤ q ∧ M2[q]? = some (.own (u8s' (backP t 256)) 0):=by
 suffices h:AWX G (fnOf Tryz.f123).body (mkSt 27 (argL 0 [.sl b o 256 lim]) M) (fun ex s => ∃ (M2:Mem) (q:Nat),Fini 27 (fnOf Tryz.f123).results (.tup [.sl q 0 256 (some 256),.bool true]) M2 ex s ∧ GrowL M M2 [] ∧ M.length ≤ q ∧ M2[q]? = some (.own (u8s' (backP t 256)) 0)) by
  obtain ⟨ex,s,h1,M2,q,h2,h3⟩:=h
  exact ⟨M2,q,acall_mk (n:=27) (fv:=fnOf Tryz.f123) rfl rfl (by simp) (by decide) ⟨ex,s,h1,h2⟩,h3⟩
 obtain ⟨M1,hc,hM1⟩:=is_call (lim:=lim) hG ht hb hs hr
 have hz:List.replicate 256 (V.int .u8 0) = u8s' (backP t 0):=by rw [backP,u8s',List.map_replicate]
 refine AWX.seq (AWX.region (AOX.q hG rfl (st_as rfl) rfl (AOX.q hG rfl (st_as rfl) rfl (AOX.nil ?_))))
 refine AWX.seq (AWX.seq (AWX.region (AOX.q hG rfl (st_mv rfl) rfl (AOX.qc hG rfl (st_call rfl rfl) hc rfl (AOX.q hG rfl (st_not rfl) rfl (AOX.nil (AWX.cf rfl (AWX.skip ?_))))))))
 refine AWX.seq (AWX.region (AOX.q hG rfl (st_mv rfl) rfl (AOX.q hG rfl (st_len sl22 rfl) rfl (AOX.qv hG rfl (st_mk (l:=256) (c:=256) el22 (by omega) rfl rfl (by omega) (by omega)) rfl (AOX.q hG rfl (st_as rfl) rfl (AOX.nil ?_))))))
 rw [hz]
 refine AWX.seq (AWX.seq (AWX.region (AOX.q hG rfl (st_mv rfl) rfl (AOX.q hG rfl (st_len sl22 rfl) rfl (AOX.q hG rfl (st_mv rfl) rfl (AOX.nil ?_))))))
 refine AWX.block (AWX.loop (ba_loop hG (M:=M) (q:=M1.length) ht hb hr hM1.le (fun l M2 hM hs hl => ?_) 256 0 _ _ rfl (hM1.tr (GrowL.one _ _ _)) app_last ⟨rfl,rfl,rfl,rfl,trivial⟩))
 refine AWX.seq (AWX.ff _ hl (AWX.region (AOX.q hG rfl (st_mv rfl) rfl (AOX.q hG rfl (st_as rfl) rfl (AOX.q hG rfl (st_as rfl) rfl (AOX.nil (AWX.ret ?_)))))))
 exact ⟨M2,M1.length,⟨.inr rfl,_,_,rfl,rfl,rfl⟩,hM,hM1.le,hs⟩
end
end
end
end Go.Proofs.YthajgdmcjfmjoaaGreatDoor.Rel
