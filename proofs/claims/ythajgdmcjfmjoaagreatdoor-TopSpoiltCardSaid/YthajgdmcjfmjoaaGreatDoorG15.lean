/- TopSpoilt, part 15 of 38 of its proof: a relative machine (values, memory, an evaluator, all sound against the model), and by it the walks. Conditions: none. -/
import Derived.Test.YthajgdmcjfmjoaaGreatDoorG11
import Derived.Test.YthajgdmcjfmjoaaGreatDoorG14
set_option linter.all false
namespace Go.Proofs.YthajgdmcjfmjoaaGreatDoor.Rel
section
open Go.Proofs
noncomputable section
def thr (j:Nat):List Int:=bif Nat.beq j 0 then [81,124,193,183,39,34,10,148,254,19,171,232,250,154,110,224] else bif Nat.beq j 1 then [109,177,74,204,158,33,200,32,255,40,177,213,239,93,226,176] else [219,146,55,29,33,38,233,112,3,36,151,117,4,232,201,14]
theorem thr_is:∀ j,Is16 (thr j):=by
 intro j
 unfold thr
 cases Nat.beq j 0 <;> cases Nat.beq j 1 <;> exact ⟨rfl,by unfold Bytes; decide⟩
def threeChk:Bool:=match FN noX tyF fn noS 8 124 [] [] with
 | some p => match p.1 with
  | .agg [.sl b1 0 16 none,.sl b2 0 16 none,.sl b3 0 16 none] => (!Nat.beq b1 b2 && (!Nat.beq b1 b3 && !Nat.beq b2 b3)) && match nth p.2.1 b1,nth p.2.1 b2,nth p.2.1 b3 with
   | some (.own c1 1),some (.own c2 1),some (.own c3 1) => eqVs c1 (u8s' (thr 0)) && (eqVs c2 (u8s' (thr 1)) && eqVs c3 (u8s' (thr 2)))
   | _,_,_ => false
  | _ => false
 | none => false
theorem three_ok:threeChk = true:=by kernel_rfl
theorem three_call {G:GF} (hG:GOK G) (M:Mem):ACall Tryz.prog G 124 [] M (.agg [.sl M.length 0 16 none,.sl (M.length + 1) 0 16 none,.sl (M.length + 2) 0 16 none]) (M ++ [.own (u8s' (thr 0)) 1,.own (u8s' (thr 1)) 1,.own (u8s' (thr 2)) 1]):=by
 have h:=three_ok
 unfold threeChk at h
 split at h
 ·rename_i p hp
  obtain ⟨v0,M0',ch0⟩:=p
  simp only at h
  split at h
  ·rename_i b1 b2 b3
   simp only [Bool.and_eq_true,nth_eq] at h
   obtain ⟨⟨h12,h13,h23⟩,h⟩:=h
   have n12:b1 ≠ b2:=fun e => by subst e; simp at h12
   have n13:b1 ≠ b3:=fun e => by subst e; simp at h13
   have n23:b2 ≠ b3:=fun e => by subst e; simp at h23
   split at h
   ·rename_i c1 c2 c3 g1 g2 g3
    simp only [Bool.and_eq_true] at h
    have e1:=eqVs_iff h.1
    have e2:=eqVs_iff h.2.1
    have e3:=eqVs_iff h.2.2
    subst e1 e2 e3
    have hnd:[b1,b2,b3].Nodup:=by simp [n12,n13,n23]
    have hk:=conS_ok (run hG noX_ok noS_ok 8 _ _ _ _ _ _ hp).1 (bl:=[b1,b2,b3]) (fun i j b' hi hj => by
     have h1:=idx_nodup hnd i b' hi
     rw [idx_nodup hnd j b' hj] at h1
     exact (Option.some.inj h1).symm)
    refine (hk 124 [] M _ _ [] ?_).1
    have i1:=idx_nodup hnd 0 b1 rfl
    have i2:=idx_nodup hnd 1 b2 rfl
    have i3:=idx_nodup hnd 2 b3 rfl
    unfold conS
    have hr:rep [] [b1,b2,b3] M.length (.agg [.sl b1 0 16 none,.sl b2 0 16 none,.sl b3 0 16 none]) = some (.agg [.sl M.length 0 16 none,.sl (M.length + 1) 0 16 none,.sl (M.length + 2) 0 16 none]):=by simp [rep,reps,i1,i2,i3]
    have hn:news [] [b1,b2,b3] M.length M0' [b1,b2,b3] = some [.own (u8s' (thr 0)) 1,.own (u8s' (thr 1)) 1,.own (u8s' (thr 2)) 1]:=by
     simp only [news,g1,g2,g3,u8s',reps_ints,Option.map_some]
    simp only [hr,hn]
   ·cases h
  ·cases h
 ·cases h
def ariW (G:GF) (sz:Nat) (x:List Int):Nat → List Int
 | 0 => x.take 16
 | 1 => xorL (turnF G 1 ariT (x.take 16) (thr (sz % 3))) (x.drop 16 ++ List.replicate (32 - x.length) 0)
 | i + 2 => xorL (turnF G (1 + (i + 1) % 2) ariT (ariW G sz x (i + 1)) (thr ((i + 1 + sz) % 3))) (ariW G sz x i)
def ariN (j:Nat):Int:=(ariTurns[j]?).getD 0
def ariK (G:GF) (sz:Nat) (x:List Int) (i:Nat):List Int:=xorL (ariW G sz x (i % 4)) (rotF G (ariN (i / 4)) (ariW G sz x ((i + 1) % 4)))
theorem ariN_in {j:Nat} (h:j < 5):ariN j ∈ ariTurns:=by
 match j,h with
 | 0,_ | 1,_ | 2,_ | 3,_ | 4,_ => decide
section
variable {G:GF} {x:List Int} {sz:Nat}
theorem ariW_is (hG:GOK G) (hx:16 ≤ x.length) (hx2:x.length ≤ 32) (hb:Bytes x):∀ i,Is16 (ariW G sz x i)
 | 0 => ⟨by simp [ariW]; omega,fun n hn => hb n (List.mem_of_mem_take hn)⟩
 | 1 => by
  have h0:=ariW_is hG hx hx2 hb 0
  refine is_xor (turnF_in hG ariT_len h0.1 (thr_is _).1) ⟨by simp; omega,fun n hn => ?_⟩
  rcases List.mem_append.1 hn with h | h
  ·exact hb n (List.mem_of_mem_drop h)
  ·rw [(List.mem_replicate.1 h).2]; decide
 | i + 2 => is_xor (turnF_in hG ariT_len (ariW_is hG hx hx2 hb (i + 1)).1 (thr_is _).1) (ariW_is hG hx hx2 hb i)
theorem ariK_is (hG:GOK G) (hx:16 ≤ x.length) (hx2:x.length ≤ 32) (hb:Bytes x) {i:Nat} (hi:i < 20):Is16 (ariK G sz x i):=by
 have h1:=ariW_is (sz:=sz) hG hx hx2 hb (i % 4)
 have h2:=ariW_is (sz:=sz) hG hx hx2 hb ((i + 1) % 4)
 exact is_xor h1 (rotF_in hG (ariN_in (by omega)) h2.1 h2.2)
end
section
variable {ρ:Operand → Option V} {M M':Mem} {x y:Operand} {t:TypeId}
theorem sl_dropS {c o len i cp:Nat} {cs:List V} (hi:i ≤ len) (hl:len ≤ cp) (hr:rd M c o len = some cs):∃ o',rd M c o' (len - i) = some (cs.drop i) ∧ ∀ {ρ:Operand → Option V} {t:TypeId} {x y:Operand},SlT t → ρ x = some (.sl c o len (some cp)) → ρ y = some (.int .i64 i) → astep noX tyF ρ M (.slice t x (some y) none none) = some (.pure (.sl c o' (len - i) (some (cp - i)))):=by
 have hcl:=rd_len hr
 unfold rd at hr
 cases hk:(M[c]?).bind Blk.cells with
 | none => rw [hk] at hr; cases hr
 | some cells =>
  rw [hk] at hr
  simp only at hr
  split at hr
  ·rename_i hle
   injection hr with hr
   by_cases hc:cp = i
   ·refine ⟨o,?_,fun ht hx hy => ?_⟩
    ·unfold rd
     rw [hk]
     simp only
     rw [if_pos (by omega),show len - i = 0 by omega,← hr]
     simp; omega
    ·obtain ⟨d,e,de,h1,h2,h3,h4⟩:=ht.h
     simp only [astep,aSlice,h1,Option.bind_some,hx,oo,hy,Option.map_some,sliceV,h2,h3,h4,mB,uB,idxLe_n hi,ne_eq,not_true_eq_false,if_false,if_pos hc]
   ·refine ⟨o + i,?_,fun ht hx hy => ?_⟩
    ·unfold rd
     rw [hk]
     simp only
     rw [if_pos (by omega),← hr,List.drop_take,List.drop_drop]
    ·obtain ⟨d,e,de,h1,h2,h3,h4⟩:=ht.h
     simp only [astep,aSlice,h1,Option.bind_some,hx,oo,hy,Option.map_some,sliceV,h2,h3,h4,mB,uB,idxLe_n hi,ne_eq,not_true_eq_false,if_false,if_neg hc]
  ·cases hr
theorem st_copy {z:V} {q c o len c2 o2 len2:Nat} {lim lim2:Option Nat} {l:List V} (ht:ElT t z q) (hx:ρ x = some (.sl c o len lim)) (hy:ρ y = some (.sl c2 o2 len2 lim2)) (hn:rd M c2 o2 len2 = some l) (hw:wr M c o (l.take (min l.length len)) = some M'):astep noX tyF ρ M (.call ⟨.builtin .copy,#[x,y],#[t,t]⟩) = some (.val (.int .i64 (min l.length len:Nat)) M'):=by
 obtain ⟨d,e,e1,e2,e3⟩:=ht.h
 simp only [astep,aCall,aCopy,e1,Option.bind_some,e3,hx,hy,e2,newsV,hn,copyV,hw,Option.map_some]
end
theorem wr_front {M:Mem} {b:Nat} {cs l:List V} {g:Nat} (h:M[b]? = some (.own cs g)) (hl:l.length ≤ cs.length) (h1:l.all V.one = true):wr M b 0 l = some (M.set b (.own (l ++ cs.drop l.length) g)):=by
 simp only [wr,h,Nat.zero_add]
 rw [if_pos ⟨hl,h1⟩]
 simp
theorem b_quo {d:Option Ty} {M:Mem} {a n:Nat} (hn:0 < n) (h1:a ≤ 1000000):abin noX d M .quo (.int .i64 a) (.int .i64 n) = some (.int .i64 ((a / n:Nat):Int),none):=by
 have e:(a:Int).tdiv n = ((a / n:Nat):Int):=rfl
 have h0:a / n ≤ a:=Nat.div_le_self _ _
 have h:¬ ((n:Int) = 0):=by omega
 have hk:kwrap .i64 ((a / n:Nat):Int) = ((a / n:Nat):Int):=by
  generalize a / n = r at h0
  exact kw64 (by omega) (by omega)
 simp only [abin,bInt,bLit,if_true,eint_eq,aint,if_neg h,e,Option.map_some,← kwrap_eq]
 rw [hk]
theorem ar132:ArT 132 4:=⟨_,_,_,rfl,rfl,rfl,rfl⟩
theorem ar158:ArT 158 3:=⟨_,_,_,rfl,rfl,rfl,rfl⟩
theorem ar160:ArT 160 5:=⟨_,_,_,rfl,rfl,rfl,rfl⟩
theorem row158:∃ d,tyF 158 = some d ∧ d.kind.row = true ∧ d.size = 3:=⟨_,rfl,rfl,rfl⟩
theorem row132:∃ d,tyF 132 = some d ∧ d.kind.row = true ∧ d.size = 4:=⟨_,rfl,rfl,rfl⟩
theorem row160:∃ d,tyF 160 = some d ∧ d.kind.row = true ∧ d.size = 5:=⟨_,rfl,rfl,rfl⟩
theorem z158:(tyF 158).map Ty.zero = some [.nilsl,.nilsl,.nilsl]:=by kernel_rfl
theorem z132:(tyF 132).map Ty.zero = some [.nilsl,.nilsl,.nilsl,.nilsl]:=by kernel_rfl
theorem z160:(tyF 160).map Ty.zero = some (List.replicate 5 (.int .i64 0)):=by kernel_rfl
end
end
section
open Go.Proofs
noncomputable section
def bfF (G:GF) (sz:Nat) (x:List Int):Nat → List Int
 | 0 => x.drop 16 ++ List.replicate (32 - x.length) 0
 | i + 1 => ariW G sz x i
theorem ariW_succ (G:GF) (sz:Nat) (x:List Int) (i:Nat):ariW G sz x (i + 1) = xorL (turnF G (1 + i % 2) ariT (ariW G sz x i) (thr ((i + sz) % 3))) (bfF G sz x i):=by
 cases i with
 | zero =>
  have h:(0 + sz) % 3 = sz % 3:=by rw [Nat.zero_add]
  show ariW G sz x 1 = xorL (turnF G 1 ariT (x.take 16) (thr ((0 + sz) % 3))) (bfF G sz x 0)
  rw [h,ariW,bfF]
 | succ i => rfl
theorem bfF_is {G:GF} {x:List Int} {sz:Nat} (hG:GOK G) (hx:16 ≤ x.length) (hx2:x.length ≤ 32) (hb:Bytes x) (i:Nat):Is16 (bfF G sz x i):=by
 cases i with
 | zero =>
  refine ⟨by simp [bfF]; omega,fun n hn => ?_⟩
  rcases List.mem_append.1 hn with h | h
  ·exact hb n (List.mem_of_mem_drop h)
  ·rw [(List.mem_replicate.1 h).2]; decide
 | succ i => exact ariW_is hG hx hx2 hb i
theorem row_ne {M:Mem} {c p g:Nat} {r ws:List V} (hr:rd M c 0 16 = some r) (hp:M[p]? = some (.own ws g)) (hw:ws.length < 16):p ≠ c:=by
 intro e
 subst e
 unfold rd at hr
 rw [hp] at hr
 simp only [Option.bind_some,Blk.cells] at hr
 rw [if_neg (by omega)] at hr
 cases hr
theorem rd_ne {M:Mem} {c p o n:Nat} {k:Blk} (h:p ≠ c):rd (M.set p k) c o n = rd M c o n:=by
 unfold rd; rw [set_ne h]
theorem LimP.set {M:Mem} {c p o n:Nat} {lim:Option Nat} {k:Blk} (hl:LimP M c o n lim) (h:p ≠ c):LimP (M.set p k) c o n lim:=by
 cases lim with
 | some _ => exact hl
 | none => show _ ≤ known _ _; unfold known; rw [set_ne h]; exact hl
structure AkM (G:GF) (M M1:Mem) (p2 p6 q p7 c8:Nat) (lim8:Option Nat) (ts ws:List V) (sz:Nat) (x:List Int) (i:Nat):Prop where
 gr:GrowL M M1 []
 h2:M1[p2]? = some (.own ts 0)
 h6:M1[p6]? = some (.own [.sl q 0 16 none,.sl (q + 1) 0 16 none,.sl (q + 2) 0 16 none] 0)
 h3:∀ j,j < 3 → rd M1 (q + j) 0 16 = some (u8s' (thr j))
 h7:M1[p7]? = some (.own ws 0)
 wl:ws.length = 4
 pl:M.length ≤ p7
 ne2:p7 ≠ p2
 ne6:p7 ≠ p6
 tab:TabA M ts ariT
 w:∀ j,j ≤ i → ∃ c lim,ws[j]? = some (.sl c 0 16 lim) ∧ rd M1 c 0 16 = some (u8s' (ariW G sz x j)) ∧ LimP M1 c 0 16 lim
 bf:rd M1 c8 0 16 = some (u8s' (bfF G sz x i))
section
variable {G:GF} {Q:AExit → St → Prop} {M M1 M2:Mem} {p2 p6 q p7 c8 sz i:Nat} {lim8:Option Nat} {ts ws:List V} {x:List Int}
theorem AkM.grow (h:AkM G M M1 p2 p6 q p7 c8 lim8 ts ws sz x i) (hM:GrowL M1 M2 []):AkM G M M2 p2 p6 q p7 c8 lim8 ts ws sz x i:=by
 refine ⟨h.gr.tr hM,hM.g0 h.h2,hM.g0 h.h6,fun j hj => rd_grow hM (h.h3 j hj) (by simp),hM.g0 h.h7,h.wl,h.pl,h.ne2,h.ne6,h.tab,fun j hj => ?_,rd_grow hM h.bf (by simp)⟩
 obtain ⟨c,lim,h1,h2,h3⟩:=h.w j hj
 refine ⟨c,lim,h1,rd_grow hM h2 (by simp),h3.grow hM ?_ (by simp)⟩
 obtain ⟨k,hk,_⟩:=rd_row h2
 exact lt_of hk
theorem AkM.put (h:AkM G M M1 p2 p6 q p7 c8 lim8 ts ws sz x i) {v:V}:AkM G M (M1.set p7 (.own (ws.set (i + 1) v) 0)) p2 p6 q p7 c8 lim8 ts (ws.set (i + 1) v) sz x i:=by
 have ne:∀ {c:Nat} {r:List V},rd M1 c 0 16 = some r → p7 ≠ c:=fun hr => row_ne hr h.h7 (by rw [h.wl]; omega)
 refine ⟨h.gr.st h.pl h.h7 (by simp),by rw [set_ne h.ne2]; exact h.h2,by rw [set_ne h.ne6]; exact h.h6,fun j hj => by rw [rd_ne (ne (h.h3 j hj))]; exact h.h3 j hj,set_get h.h7,by simp [h.wl],h.pl,h.ne2,h.ne6,h.tab,fun j hj => ?_,by rw [rd_ne (ne h.bf)]; exact h.bf⟩
 obtain ⟨c,lim,h1,h2,h3⟩:=h.w j hj
 exact ⟨c,lim,by rw [List.getElem?_set_ne (by omega)]; exact h1,by rw [rd_ne (ne h2)]; exact h2,h3.set (ne h2)⟩
def akC:Code:=cAt [1,0] (fnOf Tryz.f90).body
def akLp:Code:=cAt [1,1,1,1,1,1,0,1,0,0] akC
def akN (p2 p6 p7 c8:Nat) (lim8:Option Nat) (sz i:Nat):List (Nat × V):=[(2,.ptr p2 0),(5,.int .i64 sz),(6,.ptr p6 0),(7,.ptr p7 0),(8,.sl c8 0 16 lim8),(33,.int .i64 i)]
theorem ak_one (hG:GOK G) (hx:16 ≤ x.length) (hx2:x.length ≤ 32) (hb:Bytes x) (hsz:sz ≤ 2) (hi:i < 3) (h:AkM G M M1 p2 p6 q p7 c8 lim8 ts ws sz x i) {l:List (Nat × V)} (hl:subL 102 l (akN p2 p6 p7 c8 lim8 sz i))
  (hQ:∀ l2 M2 c2 lim2 ws2,AkM G M M2 p2 p6 q p7 c2 lim2 ts ws2 sz x (i + 1) → subL 102 l2 (akN p2 p6 p7 c2 lim2 sz (i + 1)) → LX G akLp (mkSt 102 l2 M2) Q):LX G akLp (mkSt 102 l M1) Q:=by
 obtain ⟨c,lim,hw1,hw2,hw3⟩:=h.w i (Nat.le_refl _)
 have hwi:=ariW_is (sz:=sz) hG hx hx2 hb i
 have hbi:=bfF_is (sz:=sz) hG hx hx2 hb i
 have hth:=thr_is ((i + sz) % 3)
 have hti:=turnF_in (w:=1 + i % 2) hG ariT_len hwi.1 hth.1
 obtain ⟨M2,qn,hc,hM2,_,hq⟩:=turn_call (lim:=lim) (lim2:=none) (w:=1 + i % 2) hG (h.tab.grow h.gr) (by omega) hwi.1 hth.1 hwi.2 hth.2 hw2 (h.h3 ((i + sz) % 3) (by omega))
 refine LX.step (AWX.ff _ hl ?_)
 refine AWX.seq (AWX.region (AOX.q hG rfl (st_bin rfl rfl (b_lssT (by omega))) rfl (AOX.nil ?_)))
 refine AWX.seq (AWX.ct rfl (AWX.skip ?_))
 refine AWX.seq (AWX.block (AWX.seq (AWX.region (AOX.q hG rfl (st_mv rfl) rfl (AOX.q hG rfl (st_as rfl) rfl (AOX.nil ?_))))))
 refine AWX.seq (AWX.draw ?_)
 refine QG2.b (bad:=[38,39,40,41,42,43,44,45,46,47,48,49,50,51]) hG (by kernel_rfl) rfl (st_mv rfl) rfl ?_
 refine QG2.b (bad:=[38,39,40,41,42,43,44,45,46,47,48,49,50,51]) hG (by kernel_rfl) rfl (st_bin rfl rfl (b_add (n:=1) (r:=i + 1) rfl (by omega))) rfl ?_
 refine QG2.q (bad:=[36,37,39,40,41,42,43,44,45,46,47,48,49,50]) hG (by kernel_rfl) rfl rfl (st_lda row133 rfl (rd_own0 h.h2 h.tab.len)) rfl ?_
 refine QG2.b (bad:=[36,37,38,42,43,44,45,46,47,48,49,50]) hG (by kernel_rfl) rfl (st_mv rfl) rfl ?_
 refine QG2.b (bad:=[36,37,38,42,43,44,45,46,47,48,49,50]) hG (by kernel_rfl) rfl (st_bin rfl rfl (b_rm (n:=2) (by omega))) rfl ?_
 refine QG2.b (bad:=[36,37,38,42,43,44,45,46,47,48,49,50]) hG (by kernel_rfl) rfl (st_bin rfl rfl (b_add (m:=1) (r:=1 + i % 2) rfl (by omega))) rfl ?_
 refine QG2.b (bad:=[36,37,38,39,40,41,45,46,47,48,49,50]) hG (by kernel_rfl) rfl (st_mv rfl) rfl ?_
 refine QG2.b (bad:=[36,37,38,39,40,41,45,46,47,48,49,50]) hG (by kernel_rfl) rfl (st_ixa ar132 rfl rfl (show i < 4 by omega)) rfl ?_
 refine QG2.q (bad:=[36,37,38,39,40,41,45,46,47,48,49,50]) hG (by kernel_rfl) rfl rfl (st_ld one22 rfl (rd_one (rd_own0 h.h7 h.wl) hw1)) rfl ?_
 refine QG2.b (bad:=[36,37,38,39,40,41,42,43,44,46]) hG (by kernel_rfl) rfl (st_mv rfl) rfl ?_
 refine QG2.b (bad:=[36,37,38,39,40,41,42,43,44,45]) hG (by kernel_rfl) rfl (st_mv rfl) rfl ?_
 refine QG2.b (bad:=[36,37,38,39,40,41,42,43,44]) hG (by kernel_rfl) rfl (st_bin rfl rfl (b_add (r:=i + sz) rfl (by omega))) rfl ?_
 refine QG2.b (bad:=[36,37,38,39,40,41,42,43,44]) hG (by kernel_rfl) rfl (st_bin rfl rfl (b_rm (n:=3) (by omega))) rfl ?_
 refine QG2.b (bad:=[36,37,38,39,40,41,42,43,44]) hG (by kernel_rfl) rfl (st_ixa ar158 rfl rfl (show (i + sz) % 3 < 3 by omega)) rfl ?_
 refine QG2.q (v:=.sl (q + (i + sz) % 3) 0 16 none) (bad:=[36,37,38,39,40,41,42,43,44]) hG (by kernel_rfl) rfl rfl (st_ld one22 rfl (rd_one (n:=3) (rd_own0 h.h6 rfl) (by
  have hlt:(i + sz) % 3 < 3:=by omega
  generalize (i + sz) % 3 = j at hlt
  match j,hlt with
  | 0,_ | 1,_ | 2,_ => rfl))) rfl ?_
 refine QG2.c (T:=[]) (bad:=[36,37]) hG (by kernel_rfl) rfl (.inl rfl) rfl (st_call rfl rfl) hc hM2 rfl ?_
 have h2:=h.grow hM2
 refine QG2.b (bad:=[]) hG (by kernel_rfl) rfl (st_ixa ar132 rfl rfl (show i + 1 < 4 by omega)) rfl ?_
 have hwr:wr M2 p7 (0 + (i + 1)) [.sl qn 0 16 (some 16)] = some (M2.set p7 (.own (ws.set (i + 1) (.sl qn 0 16 (some 16))) 0)):=by
  rw [Nat.zero_add,wr_own h2.h7 (by rw [h.wl]; omega) rfl]
 refine QG2.st (T:=[p7]) hG (bad:=[]) (by kernel_rfl) (by kernel_rfl) (.inr (all_lt (by kernel_rfl))) rfl (st_st one22 rfl rfl rfl hwr) (GrowL.wr hwr) (QG2.done (by kernel_rfl) rfl ?_)
 have hqr:=rd_own0 hq (n:=16) (by rw [u8s'_len,hti.1])
 have h3:=h2.put (v:=.sl qn 0 16 (some 16))
 have hq3:rd (M2.set p7 (.own (ws.set (i + 1) (.sl qn 0 16 (some 16))) 0)) qn 0 16 = some (u8s' (turnF G (1 + i % 2) ariT (ariW G sz x i) (thr ((i + sz) % 3)))):=by
  rw [rd_ne (row_ne hqr h2.h7 (by rw [h.wl]; omega))]; exact hqr
 have hws:(ws.set (i + 1) (V.sl qn 0 16 (some 16)))[i + 1]? = some (.sl qn 0 16 (some 16)):=List.getElem?_set_self (by rw [h.wl]; omega)
 have hws0:(ws.set (i + 1) (V.sl qn 0 16 (some 16)))[i]? = some (.sl c 0 16 lim):=by rw [List.getElem?_set_ne (by omega)]; exact hw1
 generalize ws.set (i + 1) (V.sl qn 0 16 (some 16)) = ws3 at *
 generalize M2.set p7 (.own ws3 0) = M3 at *
 refine AWX.seq (AWX.region (AOX.q hG rfl (st_mv rfl) rfl (AOX.q hG rfl (st_bin rfl rfl (b_add (n:=1) (r:=i + 1) rfl (by omega))) rfl (AOX.q hG rfl (st_mv rfl) rfl (AOX.q hG rfl (st_bin rfl rfl (b_add (n:=1) (r:=i + 1) rfl (by omega))) rfl
  (AOX.q hG rfl (st_ixa ar132 rfl rfl (show i + 1 < 4 by omega)) rfl (AOX.q hG rfl (st_ld one22 rfl (rd_one (rd_own0 h3.h7 h3.wl) hws)) rfl (AOX.q hG rfl (st_mv rfl) rfl
  (AOX.qc hG rfl (st_call rfl rfl) (xor_call hG hti.1 hbi.1 hti.2 hbi.2 hq3 h3.bf (by omega)) rfl (AOX.q hG rfl (st_mv rfl) rfl (AOX.q hG rfl (st_ex rfl rfl) rfl (AOX.q hG rfl (st_ex rfl rfl) rfl
  (AOX.q hG rfl (st_ixa ar132 rfl rfl (show i + 1 < 4 by omega)) rfl ?_)))))))))))))
 rw [← ariW_succ]
 have hwn:=ariW_is (sz:=sz) hG hx hx2 hb (i + 1)
 have h4:=h3.grow (GrowL.one M3 (u8s' (ariW G sz x (i + 1))) 0)
 have hrow:=rd_own0 (app_last (M:=M3) (k:=.own (u8s' (ariW G sz x (i + 1))) 0)) (n:=16) (by rw [u8s'_len,hwn.1])
 generalize M3 ++ [Blk.own (u8s' (ariW G sz x (i + 1))) 0] = M4 at *
 generalize M3.length = qm at *
 have hwr4:wr M4 p7 (0 + (i + 1)) [.sl qm 0 16 (some 16)] = some (M4.set p7 (.own (ws3.set (i + 1) (.sl qm 0 16 (some 16))) 0)):=by
  rw [Nat.zero_add,wr_own h4.h7 (by rw [h4.wl]; omega) rfl]
 refine AOX.qs hG rfl (st_st one22 rfl rfl rfl hwr4) (AOX.nil ?_)
 have h5:=h4.put (v:=.sl qm 0 16 (some 16))
 have hne:=row_ne hrow h4.h7 (by rw [h4.wl]; omega)
 have hrow5:rd (M4.set p7 (.own (ws3.set (i + 1) (.sl qm 0 16 (some 16))) 0)) qm 0 16 = some (u8s' (ariW G sz x (i + 1))):=by rw [rd_ne hne]; exact hrow
 have hws5:(ws3.set (i + 1) (V.sl qm 0 16 (some 16)))[i + 1]? = some (.sl qm 0 16 (some 16)):=List.getElem?_set_self (by rw [h4.wl]; omega)
 have hws50:(ws3.set (i + 1) (V.sl qm 0 16 (some 16)))[i]? = some (.sl c 0 16 lim):=by rw [List.getElem?_set_ne (by omega)]; exact hws0
 generalize ws3.set (i + 1) (V.sl qm 0 16 (some 16)) = ws5 at *
 generalize M4.set p7 (.own ws5 0) = M5 at *
 refine AWX.region (AOX.q hG rfl (st_mv rfl) rfl (AOX.q hG rfl (st_ixa ar132 rfl rfl (show i < 4 by omega)) rfl (AOX.q hG rfl (st_ld one22 rfl (rd_one (rd_own0 h5.h7 h5.wl) hws50)) rfl (AOX.q hG rfl (st_as rfl) rfl (AOX.nil ?_)))))
 refine AWX.region (AOX.q hG rfl (st_bin rfl rfl (b_add (n:=1) (r:=i + 1) rfl (by omega))) rfl (AOX.q hG rfl (st_mv rfl) rfl (AOX.nil ?_)))
 obtain ⟨c',lim',hc1,hc2,_⟩:=h5.w i (Nat.le_refl _)
 rw [hws50] at hc1
 injection hc1 with hc1
 injection hc1 with e1 _ _ e2
 subst e1 e2
 refine hQ _ M5 c lim ws5 ⟨h5.gr,h5.h2,h5.h6,h5.h3,h5.h7,h5.wl,h5.pl,h5.ne2,h5.ne6,h5.tab,fun j hj => ?_,hc2⟩ ⟨rfl,rfl,rfl,rfl,rfl,rfl,trivial⟩
 by_cases hji:j = i + 1
 ·subst hji
  exact ⟨qm,_,hws5,hrow5,show 16 ≤ 16 by omega⟩
 ·exact h5.w j (by omega)
end
end
end
section
open Go.Proofs
noncomputable section
def IsS (M:Mem) (v:V) (xs:List Int):Prop:=(v = .nilsl ∧ xs = []) ∨ ∃ b o lim,v = .sl b o xs.length lim ∧ rd M b o xs.length = some (u8s' xs) ∧ LimP M b o xs.length lim
theorem IsS.grow {M M':Mem} {v:V} {xs:List Int} (h:IsS M v xs) (hM:GrowL M M' []):IsS M' v xs:=by
 rcases h with h | ⟨b,o,lim,rfl,h2,h3⟩
 ·exact .inl h
 ·obtain ⟨k,hk,_⟩:=rd_row h2
  exact .inr ⟨b,o,lim,rfl,rd_grow hM h2 (by simp),h3.grow hM (lt_of hk) (by simp)⟩
theorem IsS.sl {M:Mem} {v:V} {xs:List Int} (h:IsS M v xs) (h0:xs ≠ []):∃ b o lim,v = .sl b o xs.length lim ∧ rd M b o xs.length = some (u8s' xs) ∧ LimP M b o xs.length lim:=h.resolve_left fun e => h0 e.2
theorem IsS.own {M:Mem} {b g:Nat} {xs:List Int} {c:Nat} (h:M[b]? = some (.own (u8s' xs) g)) (hc:xs.length ≤ c):IsS M (.sl b 0 xs.length (some c)) xs:=.inr ⟨b,0,some c,rfl,rd_own0 h (by rw [u8s'_len]),hc⟩
theorem IsS.news {M:Mem} {v:V} {xs:List Int} (h:IsS M v xs):newsV M v = some (u8s' xs):=by
 rcases h with ⟨rfl,rfl⟩ | ⟨b,o,lim,rfl,h2,_⟩
 ·rfl
 ·exact h2
section
variable {ρ:Operand → Option V} {M M' M1:Mem} {x y:Operand} {t:TypeId} {v:V} {xs:List Int}
theorem st_lenS (ht:SlT t) (h:IsS M1 v xs) (hx:ρ x = some v):astep noX tyF ρ M (.call ⟨.builtin .len,#[x],#[t]⟩) = some (.pure (.int .i64 xs.length)):=by
 rcases h with ⟨rfl,rfl⟩ | ⟨b,o,lim,rfl,_,_⟩
 ·obtain ⟨d,e,de,h1,h2,_,_⟩:=ht.h
  simp only [astep,aCall,aLen,h1,Option.bind_some,hx,lenV,h2,Option.map_some]; rfl
 ·exact st_len ht hx
theorem st_copyS {z:V} {q c o len:Nat} {lim:Option Nat} (ht:ElT t z q) (h:IsS M v xs) (hx:ρ x = some (.sl c o len lim)) (hy:ρ y = some v) (hw:wr M c o ((u8s' xs).take (min (u8s' xs).length len)) = some M'):astep noX tyF ρ M (.call ⟨.builtin .copy,#[x,y],#[t,t]⟩) = some (.val (.int .i64 (min (u8s' xs).length len:Nat)) M'):=by
 obtain ⟨d,e,e1,e2,e3⟩:=ht.h
 simp only [astep,aCall,aCopy,e1,Option.bind_some,e3,hx,hy,e2,h.news,copyV,hw,Option.map_some]
end
def wiI (a:Int) (n:Nat):Int:=if a.tmod n < 0 then a.tmod n + n else a.tmod n
theorem tmod_in (a:Int) {n:Nat} (hn:0 < n):-(n:Int) < a.tmod n ∧ a.tmod n < n:=by
 cases a with
 | ofNat m =>
  have e:(Int.ofNat m).tmod (n:Int) = ((m % n:Nat):Int):=rfl
  have:=Nat.mod_lt m hn
  rw [e]; omega
 | negSucc m =>
  have e:(Int.negSucc m).tmod (n:Int) = -(((m + 1) % n:Nat):Int):=rfl
  have:=Nat.mod_lt (m + 1) hn
  rw [e]; omega
theorem wiI_in (a:Int) {n:Nat} (hn:0 < n):0 ≤ wiI a n ∧ wiI a n < n:=by
 have:=tmod_in a hn
 unfold wiI
 split <;> omega
theorem b_remI {d:Option Ty} {M:Mem} {a:Int} {n:Nat} (hn:0 < n):abin noX d M .rem (.int .i64 a) (.int .i64 n) = some (.int .i64 (a.tmod n),none):=by
 have h:¬ ((n:Int) = 0):=by omega
 simp only [abin,bInt,bLit,if_true,eint_eq,aint,if_neg h,Option.map_some]
section
variable {G:GF} {M:Mem} {a:Int} {n:Nat}
theorem within6 (hG:GOK G) (hn:0 < n) (hn2:n ≤ 1000000):ACall Tryz.prog G 6 [.int .i64 a,.int .i64 n] M (.int .i64 (wiI a n)) M:=by
 have hin:=tmod_in a hn
 refine acall_mk (n:=15) (fv:=fnOf Tryz.f6) rfl rfl (by simp) (by decide) ?_
 refine AWX.seq (AWX.region (AOX.q hG rfl (st_as rfl) rfl (AOX.nil ?_)))
 refine AWX.seq (AWX.region (AOX.q hG rfl (st_mv rfl) rfl (AOX.q hG rfl (st_mv rfl) rfl (AOX.q hG rfl (st_bin rfl rfl (b_remI hn)) rfl (AOX.q hG rfl (st_as rfl) rfl (AOX.nil ?_))))))
 by_cases h:a.tmod n < 0
 ·have e:wiI a n = a.tmod n + n:=by unfold wiI; rw [if_pos h]
  rw [e]
  refine AWX.seq (AWX.seq (AWX.region (AOX.q hG rfl (st_mv rfl) rfl (AOX.q hG rfl (st_bin rfl rfl (b_lssT h)) rfl (AOX.nil (AWX.ct rfl (AWX.region (AOX.q hG rfl (st_mv rfl) rfl (AOX.q hG rfl (st_mv rfl) rfl (AOX.q hG rfl (st_bin rfl rfl (abin_add (by omega) (by omega))) rfl (AOX.q hG rfl (st_as rfl) rfl (AOX.nil ?_))))))))))))
  exact AWX.seq (AWX.region (AOX.q hG rfl (st_mv rfl) rfl (AOX.q hG rfl (st_as rfl) rfl (AOX.nil (AWX.fin rfl rfl)))))
 ·have e:wiI a n = a.tmod n:=by unfold wiI; rw [if_neg h]
  rw [e]
  refine AWX.seq (AWX.seq (AWX.region (AOX.q hG rfl (st_mv rfl) rfl (AOX.q hG rfl (st_bin rfl rfl (b_lssF h)) rfl (AOX.nil (AWX.cf rfl (AWX.skip ?_)))))))
  exact AWX.seq (AWX.region (AOX.q hG rfl (st_mv rfl) rfl (AOX.q hG rfl (st_as rfl) rfl (AOX.nil (AWX.fin rfl rfl)))))
theorem within13 (hG:GOK G) (hn:0 < n) (hn2:n ≤ 1000000):ACall Tryz.prog G 13 [.int .i64 a,.int .i64 n] M (.int .i64 (wiI a n)) M:=by
 have hin:=tmod_in a hn
 refine acall_mk (n:=15) (fv:=fnOf Tryz.f13) rfl rfl (by simp) (by decide) ?_
 refine AWX.seq (AWX.region (AOX.q hG rfl (st_as rfl) rfl (AOX.nil ?_)))
 refine AWX.seq (AWX.region (AOX.q hG rfl (st_mv rfl) rfl (AOX.q hG rfl (st_mv rfl) rfl (AOX.q hG rfl (st_bin rfl rfl (b_remI hn)) rfl (AOX.q hG rfl (st_as rfl) rfl (AOX.nil ?_))))))
 by_cases h:a.tmod n < 0
 ·have e:wiI a n = a.tmod n + n:=by unfold wiI; rw [if_pos h]
  rw [e]
  refine AWX.seq (AWX.seq (AWX.region (AOX.q hG rfl (st_mv rfl) rfl (AOX.q hG rfl (st_bin rfl rfl (b_lssT h)) rfl (AOX.nil (AWX.ct rfl (AWX.region (AOX.q hG rfl (st_mv rfl) rfl (AOX.q hG rfl (st_mv rfl) rfl (AOX.q hG rfl (st_bin rfl rfl (abin_add (by omega) (by omega))) rfl (AOX.q hG rfl (st_as rfl) rfl (AOX.nil ?_))))))))))))
  exact AWX.seq (AWX.region (AOX.q hG rfl (st_mv rfl) rfl (AOX.q hG rfl (st_as rfl) rfl (AOX.nil (AWX.fin rfl rfl)))))
 ·have e:wiI a n = a.tmod n:=by unfold wiI; rw [if_neg h]
  rw [e]
  refine AWX.seq (AWX.seq (AWX.region (AOX.q hG rfl (st_mv rfl) rfl (AOX.q hG rfl (st_bin rfl rfl (b_lssF h)) rfl (AOX.nil (AWX.cf rfl (AWX.skip ?_)))))))
  exact AWX.seq (AWX.region (AOX.q hG rfl (st_mv rfl) rfl (AOX.q hG rfl (st_as rfl) rfl (AOX.nil (AWX.fin rfl rfl)))))
theorem within29 (hG:GOK G) (hn:0 < n) (hn2:n ≤ 1000000):ACall Tryz.prog G 29 [.int .i64 a,.int .i64 n] M (.int .i64 (wiI a n)) M:=by
 have hin:=tmod_in a hn
 refine acall_mk (n:=15) (fv:=fnOf Tryz.f29) rfl rfl (by simp) (by decide) ?_
 refine AWX.seq (AWX.region (AOX.q hG rfl (st_as rfl) rfl (AOX.nil ?_)))
 refine AWX.seq (AWX.region (AOX.q hG rfl (st_mv rfl) rfl (AOX.q hG rfl (st_mv rfl) rfl (AOX.q hG rfl (st_bin rfl rfl (b_remI hn)) rfl (AOX.q hG rfl (st_as rfl) rfl (AOX.nil ?_))))))
 by_cases h:a.tmod n < 0
 ·have e:wiI a n = a.tmod n + n:=by unfold wiI; rw [if_pos h]
  rw [e]
  refine AWX.seq (AWX.seq (AWX.region (AOX.q hG rfl (st_mv rfl) rfl (AOX.q hG rfl (st_bin rfl rfl (b_lssT h)) rfl (AOX.nil (AWX.ct rfl (AWX.region (AOX.q hG rfl (st_mv rfl) rfl (AOX.q hG rfl (st_mv rfl) rfl (AOX.q hG rfl (st_bin rfl rfl (abin_add (by omega) (by omega))) rfl (AOX.q hG rfl (st_as rfl) rfl (AOX.nil ?_))))))))))))
  exact AWX.seq (AWX.region (AOX.q hG rfl (st_mv rfl) rfl (AOX.q hG rfl (st_as rfl) rfl (AOX.nil (AWX.fin rfl rfl)))))
 ·have e:wiI a n = a.tmod n:=by unfold wiI; rw [if_neg h]
  rw [e]
  refine AWX.seq (AWX.seq (AWX.region (AOX.q hG rfl (st_mv rfl) rfl (AOX.q hG rfl (st_bin rfl rfl (b_lssF h)) rfl (AOX.nil (AWX.cf rfl (AWX.skip ?_)))))))
  exact AWX.seq (AWX.region (AOX.q hG rfl (st_mv rfl) rfl (AOX.q hG rfl (st_as rfl) rfl (AOX.nil (AWX.fin rfl rfl)))))
end
def byL (n:Nat) (xs:List Int):List Int:=xs.take n ++ (List.range (n - xs.length)).map fun j => kwrap .u8 (((xs.length + j) * 37:Nat):Int)
theorem byL_len (n:Nat) (xs:List Int):(byL n xs).length = n:=by simp [byL]; omega
theorem w8_in (n:Int):0 ≤ kwrap .u8 n ∧ kwrap .u8 n ≤ 255:=by rw [kwrap_eq]; exact wrap_in .u8 n
theorem byL_in {n:Nat} {xs:List Int} (hb:Bytes xs):Bytes (byL n xs):=by
 intro m hm
 rcases List.mem_append.1 hm with h | h
 ·exact hb m (List.mem_of_mem_take h)
 ·obtain ⟨j,_,rfl⟩:=List.mem_map.1 h
  exact w8_in _
theorem cv_w8 {M:Mem} {n:Int}:convV noX tyF 3 5 M (.int .i64 n) = some (.int .u8 (kwrap .u8 n),none):=rfl
section
variable {G:GF} {Q:AExit → St → Prop} {M:Mem} {n:Nat} {xs:List Int} {v:V}
def byLp:Code:=cAt [1,1,1,0,1,0,0] (fnOf Tryz.f31).body
def byC (M:Mem) (n i:Nat):List (Nat × V):=[(0,.int .i64 n),(5,.sl M.length 0 n (some n)),(6,.int .i64 i)]
theorem by_loop (hG:GOK G) (hn:n ≤ 1000) (hx:xs.length ≤ 1000) (hQ:∀ l2 i,subL 26 l2 (byC M n i) → Q (.exit 0) (mkSt 26 l2 (M ++ [.own (u8s' (byL n xs)) 0]))):∀ (j i:Nat) (l:List (Nat × V)),xs.length ≤ i → (n ≤ i ∨ i + j = n) → i ≤ 1000 → subL 26 l (byC M n i) → LX G byLp (mkSt 26 l (M ++ [.own (u8s' (fillL (byL n xs) i)) 0])) Q
 | j,i,l,h0,hi,h1000,hl => by
  by_cases hge:n ≤ i
  ·have e:fillL (byL n xs) i = byL n xs:=by
    unfold fillL
    rw [byL_len,show n - i = 0 by omega,List.take_of_length_le (by rw [byL_len]; omega)]; simp
   rw [e]
   refine LX.step (AWX.ff _ hl ?_)
   refine AWX.seq (AWX.seq (AWX.region (AOX.q hG rfl (st_mv rfl) rfl (AOX.q hG rfl (st_mv rfl) rfl (AOX.q hG rfl (st_bin rfl rfl (b_lssF (by omega))) rfl (AOX.nil (AWX.cf rfl (AWX.exit ?_))))))))
   exact hQ _ i ⟨rfl,rfl,rfl,trivial⟩
  ·have hij:i + j = n:=hi.resolve_left hge
   match j,hij with
   | 0,hij => omega
   | j + 1,hij =>
    have hz:=byL_len n xs
    have hzi:(byL n xs)[i]'(by omega) = kwrap .u8 ((i * 37:Nat):Int):=by
     have ht:(xs.take n).length = xs.length:=by simp; omega
     simp only [byL]
     rw [List.getElem_append_right (by omega)]
     simp only [List.getElem_map,List.getElem_range,ht]
     rw [show xs.length + (i - xs.length) = i by omega]
    refine LX.step (AWX.ff _ hl ?_)
    refine AWX.seq (AWX.seq (AWX.region (AOX.q hG rfl (st_mv rfl) rfl (AOX.q hG rfl (st_mv rfl) rfl (AOX.q hG rfl (st_bin rfl rfl (b_lssT (by omega))) rfl (AOX.nil (AWX.ct rfl (AWX.skip ?_))))))))
    have hw:wr (M ++ [.own (u8s' (fillL (byL n xs) i)) 0]) M.length (0 + i) [.int .u8 (kwrap .u8 ((i * 37:Nat):Int))] = some (M ++ [.own (u8s' (fillL (byL n xs) (i + 1))) 0]):=by
     rw [Nat.zero_add,wr_last (by rw [u8s'_len,fillL_len (by omega)]; omega) rfl,u8s'_set,← hzi,fillL_set (by omega)]
    refine AWX.seq (AWX.block (AWX.region (AOX.q hG rfl (st_mv rfl) rfl (AOX.q hG rfl (st_mv rfl) rfl (AOX.q hG rfl (st_mv rfl) rfl (AOX.q hG rfl (st_bin rfl rfl (b_mul (n:=37) (r:=i * 37) rfl (by omega))) rfl (AOX.q hG rfl (st_cv rfl cv_w8) rfl (AOX.q hG rfl (st_ix sl22 rfl rfl (show i < n by omega)) rfl (AOX.qs hG rfl (st_st one5 rfl rfl rfl hw) (AOX.nil ?_))))))))))
    refine AWX.region (AOX.q hG rfl (st_mv rfl) rfl (AOX.q hG rfl (st_bin rfl rfl (b_add (n:=1) (r:=i + 1) rfl (by omega))) rfl (AOX.q hG rfl (st_as rfl) rfl (AOX.nil ?_))))
    exact by_loop hG hn hx hQ j (i + 1) _ (by omega) (.inr (by omega)) (by omega) ⟨rfl,rfl,rfl,trivial⟩
theorem bytes_call (hG:GOK G) (hn:n ≤ 1000) (hx:xs.length ≤ 1000) (h:IsS M v xs):ACall Tryz.prog G 31 [.int .i64 n,v] M (.sl M.length 0 n (some n)) (M ++ [.own (u8s' (byL n xs)) 0]):=by
 refine acall_mk (n:=26) (fv:=fnOf Tryz.f31) rfl rfl (by simp) (by decide) ?_
 refine AWX.seq (AWX.region (AOX.q hG rfl (st_as rfl) rfl (AOX.nil ?_)))
 refine AWX.seq (AWX.region (AOX.q hG rfl (st_mv rfl) rfl (AOX.qv hG rfl (st_mk el22 (by omega) rfl rfl (Nat.le_refl n) (by omega)) rfl (AOX.q hG rfl (st_as rfl) rfl (AOX.nil ?_)))))
 have h1:=h.grow (GrowL.one M (List.replicate n (.int .u8 0)) 0)
 have hz:=byL_len n xs
 have hone:∀ l:List V,(∀ v ∈ l,v.one = true) → l.all V.one = true:=fun l h => List.all_eq_true.2 h
 have hcell:∀ (k:Nat),(((u8s' xs).take k).all V.one) = true:=fun k => hone _ fun v hv => by
  obtain ⟨m,_,rfl⟩:=List.mem_map.1 (List.mem_of_mem_take hv); rfl
 have htk:(u8s' xs).take (min (u8s' xs).length n) = u8s' (xs.take n):=by
  rw [u8s'_len]
  by_cases hle:xs.length ≤ n
  ·rw [Nat.min_eq_left hle,List.take_of_length_le (by rw [u8s'_len]; omega),List.take_of_length_le hle]
  ·rw [Nat.min_eq_right (by omega)]; simp [u8s',List.map_take]
 have hw:wr (M ++ [.own (List.replicate n (.int .u8 0)) 0]) M.length 0 ((u8s' xs).take (min (u8s' xs).length n)) = some (M ++ [.own (u8s' (fillL (byL n xs) xs.length)) 0]):=by
  rw [wr_front app_last (by rw [htk,u8s'_len]; simp; omega) (hcell _),htk,List.set_append_right _ _ (Nat.le_refl _),Nat.sub_self,List.set_cons_zero,u8s'_len]
  congr 4
  rw [List.drop_replicate]
  unfold fillL
  rw [hz]
  have e1:(byL n xs).take xs.length = xs.take n:=by
   unfold byL
   by_cases hle:xs.length ≤ n
   ·rw [List.take_of_length_le hle,List.take_left' rfl]
   ·rw [show n - xs.length = 0 by omega]
    simp only [List.range_zero,List.map_nil,List.append_nil]
    exact List.take_of_length_le (by simp; omega)
  rw [e1,show n - (xs.take n).length = n - xs.length by simp; omega]
  simp [u8s']
 refine AWX.seq (AWX.region (AOX.q hG rfl (st_mv rfl) rfl (AOX.q hG rfl (st_mv rfl) rfl (AOX.qv hG rfl (st_copyS el22 h1 rfl rfl hw) rfl (AOX.nil ?_)))))
 refine AWX.seq (AWX.seq (AWX.region (AOX.q hG rfl (st_mv rfl) rfl (AOX.q hG rfl (st_lenS sl22 h rfl) rfl (AOX.q hG rfl (st_as rfl) rfl (AOX.nil ?_))))))
 refine AWX.block (AWX.loop (by_loop (M:=M) (n:=n) hG hn hx (fun l i hl => ?_) (n - xs.length) xs.length _ (Nat.le_refl _) (by omega) hx ⟨rfl,rfl,rfl,trivial⟩))
 refine AWX.seq (AWX.ff _ hl (AWX.region (AOX.q hG rfl (st_mv rfl) rfl (AOX.q hG rfl (st_as rfl) rfl (AOX.nil (AWX.fin rfl rfl))))))
def IsR (M:Mem) (v:V) (xs:List Int):Prop:=(v = .nilsl ∧ xs = []) ∨ ∃ b o lim,v = .sl b o xs.length lim ∧ rd M b o xs.length = some (u8s' xs)
theorem IsS.r (h:IsS M v xs):IsR M v xs:=h.imp id fun ⟨b,o,lim,h1,h2,_⟩ => ⟨b,o,lim,h1,h2⟩
theorem clone_call (hG:GOK G) (hx:xs.length ≤ 1000000) (h:IsR M v xs):∃ (M2:Mem) (v2:V),ACall Tryz.prog G 34 [v] M v2 M2 ∧ GrowL M M2 [] ∧ IsS M2 v2 xs ∧ ∀ b o n lim,v2 = .sl b o n lim → M.length ≤ b:=by
 rcases h with ⟨rfl,rfl⟩ | ⟨b,o,lim,rfl,hr⟩
 ·refine ⟨M,.nilsl,?_,GrowL.refl _,.inl ⟨rfl,rfl⟩,fun b o n lim e => by cases e⟩
  refine acall_mk (n:=8) (fv:=fnOf Tryz.f34) rfl rfl (by simp) (by decide) ?_
  refine AWX.seq (AWX.region (AOX.q hG rfl (st_as rfl) rfl (AOX.nil ?_)))
  refine AWX.seq (AWX.seq (AWX.region (AOX.q hG rfl (st_mv rfl) rfl (AOX.q hG rfl (st_bin rfl rfl (b_nilnil sl22)) rfl (AOX.nil ?_)))))
  exact AWX.ct rfl (AWX.seq (AWX.region (AOX.q hG rfl (st_as rfl) rfl (AOX.nil (AWX.ret ⟨.inr rfl,_,_,rfl,rfl,rfl⟩)))))
 ·by_cases h0:xs = []
  ·subst h0
   refine ⟨M ++ [.own [] 0],.sl M.length 0 0 (some 0),?_,GrowL.one _ _ _,.inr ⟨_,_,_,rfl,rd_own0 app_last rfl,Nat.le_refl 0⟩,fun b o n lim e => by injection e with e; omega⟩
   refine acall_mk (n:=8) (fv:=fnOf Tryz.f34) rfl rfl (by simp) (by decide) ?_
   refine AWX.seq (AWX.region (AOX.q hG rfl (st_as rfl) rfl (AOX.nil ?_)))
   refine AWX.seq (AWX.seq (AWX.region (AOX.q hG rfl (st_mv rfl) rfl (AOX.q hG rfl (st_bin rfl rfl (b_slnil sl22)) rfl (AOX.nil ?_)))))
   refine AWX.cf rfl (AWX.skip ?_)
   refine AWX.seq (AWX.region (AOX.qv hG rfl (st_bs0 el22) rfl (AOX.q hG rfl (st_mv rfl) rfl (AOX.qv hG rfl (st_ap el22 rfl rfl (rd_grow (GrowL.one _ _ _) hr (by simp)) ap_zero) rfl (AOX.q hG rfl (st_as rfl) rfl (AOX.nil (AWX.fin rfl rfl)))))))
  ·have hlen:0 < xs.length:=by
    cases xs with
    | nil => exact absurd rfl h0
    | cons a l => simp
   refine ⟨M ++ [.own [] 0,.own (u8s' xs) 1],.sl (M.length + 1) 0 xs.length none,?_,GrowL.two _ _ _ _ _,.inr ⟨_,_,_,rfl,rd_own0 two_last (by rw [u8s'_len]),?_⟩,fun b o n lim e => by injection e with e; omega⟩
   ·refine acall_mk (n:=8) (fv:=fnOf Tryz.f34) rfl rfl (by simp) (by decide) ?_
    refine AWX.seq (AWX.region (AOX.q hG rfl (st_as rfl) rfl (AOX.nil ?_)))
    refine AWX.seq (AWX.seq (AWX.region (AOX.q hG rfl (st_mv rfl) rfl (AOX.q hG rfl (st_bin rfl rfl (b_slnil sl22)) rfl (AOX.nil ?_)))))
    refine AWX.cf rfl (AWX.skip ?_)
    refine AWX.seq (AWX.region (AOX.qv hG rfl (st_bs0 el22) rfl (AOX.q hG rfl (st_mv rfl) rfl (AOX.qv hG rfl (st_ap el22 rfl rfl (rd_grow (GrowL.one _ _ _) hr (by simp)) (ap_out (olds:=[]) (by rw [u8s'_len]; omega) (rd_own0 app_last rfl) (by intro e; have:=congrArg List.length e; rw [u8s'_len] at this; simp at this; exact h0 this) (by rw [u8s'_len]; omega) (by decide))) rfl (AOX.q hG rfl (st_as rfl) rfl (AOX.nil ?_))))))
    have e:(M ++ [Blk.own [] 0]) ++ [Blk.own ([] ++ u8s' xs) 1] = M ++ [.own [] 0,.own (u8s' xs) 1]:=by simp
    rw [e]
    exact AWX.fin rfl (by simp [retV,u8s'_len])
   ·show 0 + xs.length ≤ known _ _
    rw [known_own two_last,u8s'_len]; omega
end
end
end
section
open Go.Proofs
noncomputable section
theorem GS.app2 {M0 M:Mem} {v:V} {cs l:List V} {z:V} {q:Nat} (hM:GrowL M0 M []) (h:GS M0.length M v cs) (h0:l ≠ []) (h1:l.all V.one = true) (hn:cs.length + l.length ≤ 1000000) (hq:1 ≤ q ∧ q ≤ 24) :
  ∃ v' M',appendV M (z,q) v l = some (.val v' M') ∧ GS M0.length M' v' (cs ++ l) ∧ GrowL M0 M' [] ∧ ∀ (c:Nat) (k:Blk),M[c]? = some k → k ≠ .own cs 1 → M'[c]? = some k:=by
 rcases h with ⟨rfl,rfl⟩ | ⟨b,hb,rfl,hk⟩
 ·exact ⟨_,_,ap_nil h0 (by simpa using hn) hq,.inr ⟨M.length,hM.le,rfl,app_last⟩,hM.tr (GrowL.one _ _ _),fun c k hc _ => (GrowL.one _ _ _).g0 hc⟩
 ·refine ⟨_,_,ap_go hk h0 h1 hn hq (by simp),.inr ⟨M.length,hM.le,by simp,by simp⟩,(hM.st hb hk (by simp)).tr (GrowL.one _ _ _),fun c k hc hne => ?_⟩
  have hbc:b ≠ c:=fun e => by subst e; rw [hk] at hc; injection hc with hc; exact hne hc.symm
  exact (GrowL.one _ _ _).g0 (by rw [set_ne hbc]; exact hc)
def akRest:Code:=(findLabel akC 0).getD .skip
def akT (sz:Nat) (p7 p11 i:Nat) (out:V):List (Nat × V):=[(5,.int .i64 sz),(7,.ptr p7 0),(10,out),(11,.ptr p11 0),(12,.int .i64 i)]
structure AkW (G:GF) (M:Mem) (p7 p11:Nat) (ws:List V) (sz:Nat) (x:List Int):Prop where
 h7:M[p7]? = some (.own ws 0)
 wl:ws.length = 4
 w:∀ j,j ≤ 3 → ∃ c lim,ws[j]? = some (.sl c 0 16 lim) ∧ rd M c 0 16 = some (u8s' (ariW G sz x j)) ∧ LimP M c 0 16 lim
 h11:M[p11]? = some (.own (ariTurns.map (.int .i64)) 0)
theorem AkW.grow {G:GF} {M M':Mem} {p7 p11 sz:Nat} {ws:List V} {x:List Int} (h:AkW G M p7 p11 ws sz x) (hM:GrowL M M' []):AkW G M' p7 p11 ws sz x:=by
 refine ⟨hM.g0 h.h7,h.wl,fun j hj => ?_,hM.g0 h.h11⟩
 obtain ⟨c,lim,h1,h2,h3⟩:=h.w j hj
 refine ⟨c,lim,h1,rd_grow hM h2 (by simp),h3.grow hM ?_ (by simp)⟩
 obtain ⟨k,hk,_⟩:=rd_row h2
 exact lt_of hk
def AkR (G:GF) (sz:Nat) (x:List Int) (M:Mem) (cs:List V):Prop:=∀ j,j < cs.length → ∃ c,cs[j]? = some (.sl c 0 16 (some 16)) ∧ M[c]? = some (.own (u8s' (ariK G sz x j)) 0)
section
variable {G:GF} {Q:AExit → St → Prop} {M0 M1:Mem} {p7 p11 sz i:Nat} {ws:List V} {x:List Int}
theorem ak_key (hG:GOK G) (hx:16 ≤ x.length) (hx2:x.length ≤ 32) (hb:Bytes x) (hsz:sz ≤ 2) (hi:i < 17) (hW:AkW G M0 p7 p11 ws sz x) (hM:GrowL M0 M1 []) {out:V} {cs:List V} (hS:GS M0.length M1 out cs) (hcl:cs.length = i) (hR:AkR G sz x M1 cs) {l:List (Nat × V)} (hl:subL 102 l (akT sz p7 p11 i out))
  (hQ:∀ l2 M2 out2 cs2,GrowL M0 M2 [] → GS M0.length M2 out2 cs2 → cs2.length = i + 1 → AkR G sz x M2 cs2 → subL 102 l2 (akT sz p7 p11 (i + 1) out2) → AWX G (if i + 1 < 13 + 2 * sz then cAt [1] akRest else cAt [1,1,1,1,1] akRest) (mkSt 102 l2 M2) (jx G akC Q)) :
  AWX G (cAt [1] akRest) (mkSt 102 l M1) (jx G akC Q):=by
 have hW1:=hW.grow hM
 obtain ⟨c1,lim1,ha1,ha2,ha3⟩:=hW1.w (i % 4) (by omega)
 obtain ⟨c2,lim2,hb1,hb2,hb3⟩:=hW1.w ((i + 1) % 4) (by omega)
 have hwa:=ariW_is (sz:=sz) hG hx hx2 hb (i % 4)
 have hwb:=ariW_is (sz:=sz) hG hx hx2 hb ((i + 1) % 4)
 have hn:=ariN_in (j:=i / 4) (by omega)
 have hr:=rotF_in hG hn hwb.1 hwb.2
 refine AWX.ff _ hl ?_
 refine AWX.seq (AWX.region (AOX.q hG rfl (st_mv rfl) rfl (AOX.q hG rfl (st_bin rfl rfl (b_rm (n:=4) (by omega))) rfl (AOX.q hG rfl (st_mv rfl) rfl (AOX.q hG rfl (st_bin rfl rfl (b_add (n:=1) (r:=i + 1) rfl (by omega))) rfl (AOX.q hG rfl (st_bin rfl rfl (b_rm (n:=4) (by omega))) rfl (AOX.q hG rfl (st_as rfl) rfl (AOX.q hG rfl (st_as rfl) rfl (AOX.nil ?_)))))))))
 refine AWX.seq (AWX.draw ?_)
 refine QG2.b (bad:=[79,80,81,82,83,84,85,86]) hG (by kernel_rfl) rfl (st_mv rfl) rfl ?_
 refine QG2.b (bad:=[79,80,81,82,83,84,85,86]) hG (by kernel_rfl) rfl (st_ixa ar132 rfl rfl (show i % 4 < 4 by omega)) rfl ?_
 refine QG2.q (bad:=[79,80,81,82,83,84,85,86]) hG (by kernel_rfl) rfl rfl (st_ld one22 rfl (rd_one (rd_own0 hW1.h7 hW1.wl) ha1)) rfl ?_
 refine QG2.b (bad:=[76,77,78,82,83,84,85]) hG (by kernel_rfl) rfl (st_mv rfl) rfl ?_
 refine QG2.b (bad:=[76,77,78,82,83,84,85]) hG (by kernel_rfl) rfl (st_ixa ar132 rfl rfl (show (i + 1) % 4 < 4 by omega)) rfl ?_
 refine QG2.q (bad:=[76,77,78,82,83,84,85]) hG (by kernel_rfl) rfl rfl (st_ld one22 rfl (rd_one (rd_own0 hW1.h7 hW1.wl) hb1)) rfl ?_
 refine QG2.b (bad:=[76,77,78,79,80,81]) hG (by kernel_rfl) rfl (st_mv rfl) rfl ?_
 refine QG2.b (bad:=[76,77,78,79,80,81]) hG (by kernel_rfl) rfl (st_bin rfl rfl (b_quo (n:=4) (by omega) (by omega))) rfl ?_
 refine QG2.b (bad:=[76,77,78,79,80,81]) hG (by kernel_rfl) rfl (st_ixa ar160 rfl rfl (show i / 4 < 5 by omega)) rfl ?_
 refine QG2.q (v:=.int .i64 (ariN (i / 4))) (bad:=[76,77,78,79,80,81]) hG (by kernel_rfl) rfl rfl (st_ld one3 rfl (rd_one (n:=5) (rd_own0 hW1.h11 rfl) (by
  have hlt:i / 4 < 5:=by omega
  generalize i / 4 = j at hlt
  match j,hlt with
  | 0,_ | 1,_ | 2,_ | 3,_ | 4,_ => rfl))) rfl ?_
 refine QG2.c (T:=[]) (bad:=[76,77,78]) hG (by kernel_rfl) rfl (.inl rfl) rfl (st_call rfl rfl) (rot_call hG hn hwb.1 hwb.2 hb2 hb3) (GrowL.one _ _ _) rfl ?_
 have hM2:GrowL M1 (M1 ++ [.own (u8s' (rotF G (ariN (i / 4)) (ariW G sz x ((i + 1) % 4)))) 0]) []:=GrowL.one _ _ _
 have h2:(M1 ++ [Blk.own (u8s' (rotF G (ariN (i / 4)) (ariW G sz x ((i + 1) % 4)))) 0])[M1.length]? = some (.own (u8s' (rotF G (ariN (i / 4)) (ariW G sz x ((i + 1) % 4)))) 0):=app_last
 generalize M1 ++ [Blk.own (u8s' (rotF G (ariN (i / 4)) (ariW G sz x ((i + 1) % 4)))) 0] = M2 at hM2 h2
 refine QG2.c (T:=[]) (bad:=[]) hG (by kernel_rfl) (by kernel_rfl) (.inl rfl) rfl (st_call rfl rfl) (xor_call hG hwa.1 hr.1 hwa.2 hr.2 (rd_grow hM2 ha2 (by simp)) (rd_own0 h2 (by rw [u8s'_len,hr.1])) (by omega)) (GrowL.one _ _ _) rfl ?_
 refine QG2.b (bad:=[]) hG (by kernel_rfl) rfl (st_mv rfl) rfl ?_
 refine QG2.b (bad:=[89]) hG (by kernel_rfl) rfl (st_ex rfl rfl) rfl ?_
 refine QG2.b (bad:=[88,15]) hG (by kernel_rfl) rfl (st_ex rfl rfl) rfl ?_
 refine QG2.b (bad:=[89]) hG (by kernel_rfl) rfl (st_as rfl) rfl ?_
 refine QG2.b (bad:=[]) hG (by kernel_rfl) rfl (st_as rfl) rfl (QG2.done (by kernel_rfl) rfl ?_)
 have hM3:GrowL M1 (M2 ++ [.own (u8s' (ariK G sz x i)) 0]) []:=hM2.tr (GrowL.one _ _ _)
 have h3:(M2 ++ [Blk.own (u8s' (ariK G sz x i)) 0])[M2.length]? = some (.own (u8s' (ariK G sz x i)) 0):=app_last
 have he:M2 ++ [Blk.own (u8s' (xorL (ariW G sz x (i % 4)) (rotF G (ariN (i / 4)) (ariW G sz x ((i + 1) % 4))))) 0] = M2 ++ [.own (u8s' (ariK G sz x i)) 0]:=rfl
 rw [he]
 generalize M2 ++ [Blk.own (u8s' (ariK G sz x i)) 0] = M3 at hM3 h3
 generalize M2.length = kq at h3
 refine AWX.seq (AWX.region (AOX.q hG rfl (st_mv rfl) rfl (AOX.q hG rfl (st_mv rfl) rfl (AOX.qv hG rfl (st_bs1 el36 rfl rfl) rfl ?_))))
 have hM4:GrowL M1 (M3 ++ [.own [.sl kq 0 16 (some 16)] 0]) []:=hM3.tr (GrowL.one _ _ _)
 have h4:(M3 ++ [Blk.own [.sl kq 0 16 (some 16)] 0])[kq]? = some (.own (u8s' (ariK G sz x i)) 0):=(GrowL.one _ _ _).g0 h3
 have h4':=app_last (M:=M3) (k:=Blk.own [.sl kq 0 16 (some 16)] 0)
 generalize M3 ++ [Blk.own [.sl kq 0 16 (some 16)] 0] = M4 at hM4 h4 h4'
 have hS4:GS M0.length M4 out cs:=by
  rcases hS with h | ⟨c,e1,e2,e3⟩
  ·exact .inl h
  ·exact .inr ⟨c,e1,e2,hM4.g0 e3⟩
 obtain ⟨out',M5,hap,hS5,hM5,hkeep⟩:=GS.app2 (z:=.nilsl) (q:=24) (l:=[.sl kq 0 16 (some 16)]) (hM.tr hM4) hS4 (by simp) rfl (by simp [hcl]; omega) (by decide)
 refine AOX.qv hG rfl (st_ap el36 rfl rfl (rd_own0 h4' rfl) hap) rfl (AOX.q hG rfl (st_as rfl) rfl (AOX.nil ?_))
 refine AWX.seq (AWX.seq (AWX.region (AOX.q hG rfl (st_mv rfl) rfl (AOX.q hG rfl (st_bin rfl rfl (b_add (n:=1) (r:=i + 1) rfl (by omega))) rfl (AOX.q hG rfl (st_as rfl) rfl (AOX.nil ?_))))))
 have hR5:AkR G sz x M5 (cs ++ [.sl kq 0 16 (some 16)]):=by
  intro j hj
  simp only [List.length_append,List.length_singleton] at hj
  by_cases hji:j < cs.length
  ·obtain ⟨c,e1,e2⟩:=hR j hji
   exact ⟨c,by rw [List.getElem?_append_left hji]; exact e1,hkeep c _ (hM4.g0 e2) (by simp)⟩
  ·have hj2:j = i:=by omega
   subst hj2
   refine ⟨kq,?_,hkeep kq _ h4 (by simp)⟩
   rw [List.getElem?_append_right (by omega),hcl,Nat.sub_self]; rfl
 have hlen:(cs ++ [V.sl kq 0 16 (some 16)]).length = i + 1:=by simp [hcl]
 by_cases hlt:i + 1 < 13 + 2 * sz
 ·refine AWX.seq (AWX.region (AOX.q hG rfl (st_mv rfl) rfl (AOX.q hG rfl (st_mv rfl) rfl (AOX.q hG rfl (st_bin rfl rfl (b_mul (m:=2) (r:=2 * sz) rfl (by omega))) rfl (AOX.q hG rfl (st_bin rfl rfl (b_add (m:=13) (r:=13 + 2 * sz) rfl (by omega))) rfl (AOX.q hG rfl (st_bin rfl rfl (b_lssT (by omega))) rfl (AOX.nil (AWX.ct rfl (AWX.goto ?_)))))))))
  show jx G akC Q (.goto 0) _
  refine jx_to (rest:=akRest) rfl (JX.step (AWX.seq (AWX.skip ?_)))
  have:=fun l2 hl2 => hQ l2 M5 out' _ hM5 hS5 hlen hR5 hl2
  simp only [if_pos hlt] at this
  exact this _ ⟨rfl,rfl,rfl,rfl,rfl,trivial⟩
 ·refine AWX.seq (AWX.region (AOX.q hG rfl (st_mv rfl) rfl (AOX.q hG rfl (st_mv rfl) rfl (AOX.q hG rfl (st_bin rfl rfl (b_mul (m:=2) (r:=2 * sz) rfl (by omega))) rfl (AOX.q hG rfl (st_bin rfl rfl (b_add (m:=13) (r:=13 + 2 * sz) rfl (by omega))) rfl (AOX.q hG rfl (st_bin rfl rfl (b_lssF (by omega))) rfl (AOX.nil (AWX.cf rfl (AWX.skip ?_)))))))))
  have:=hQ (akT sz p7 p11 (i + 1) out') M5 out' _ hM5 hS5 hlen hR5 ⟨rfl,rfl,rfl,rfl,rfl,trivial⟩
  rw [if_neg hlt] at this
  exact AWX.ff (akT sz p7 p11 (i + 1) out') ⟨rfl,rfl,rfl,rfl,rfl,trivial⟩ this
end
end
end
section
open Go.Proofs
noncomputable section
section
variable {G:GF} {Q:AExit → St → Prop} {M0:Mem} {p7 p11 sz:Nat} {ws:List V} {x:List Int}
theorem ak_all (hG:GOK G) (hx:16 ≤ x.length) (hx2:x.length ≤ 32) (hb:Bytes x) (hsz:sz ≤ 2) (hW:AkW G M0 p7 p11 ws sz x)
  (hQ:∀ l2 M2 out2 cs2,GrowL M0 M2 [] → GS M0.length M2 out2 cs2 → cs2.length = 13 + 2 * sz → AkR G sz x M2 cs2 → subL 102 l2 (akT sz p7 p11 (13 + 2 * sz) out2) → AWX G (cAt [1,1,1,1,1] akRest) (mkSt 102 l2 M2) (jx G akC Q)) :
  ∀ (n i:Nat) (l:List (Nat × V)) (M1:Mem) (out:V) (cs:List V),i + (n + 1) = 13 + 2 * sz → GrowL M0 M1 [] → GS M0.length M1 out cs → cs.length = i → AkR G sz x M1 cs → subL 102 l (akT sz p7 p11 i out) → AWX G (cAt [1] akRest) (mkSt 102 l M1) (jx G akC Q)
 | 0,i,l,M1,out,cs,hn,hM,hS,hcl,hR,hl => by
  refine ak_key hG hx hx2 hb hsz (by omega) hW hM hS hcl hR hl fun l2 M2 out2 cs2 a1 a2 a3 a4 a5 => ?_
  rw [if_neg (by omega)]
  rw [show i + 1 = 13 + 2 * sz by omega] at a3 a5
  exact hQ l2 M2 out2 cs2 a1 a2 a3 a4 a5
 | n + 1,i,l,M1,out,cs,hn,hM,hS,hcl,hR,hl => by
  refine ak_key hG hx hx2 hb hsz (by omega) hW hM hS hcl hR hl fun l2 M2 out2 cs2 a1 a2 a3 a4 a5 => ?_
  rw [if_pos (by omega)]
  exact ak_all hG hx hx2 hb hsz hW hQ n (i + 1) l2 M2 out2 cs2 (by omega) a1 a2 a3 a4 a5
end
section
variable {G:GF} {M:Mem} {sz b o cp:Nat} {ts:List V} {x:List Int}
theorem akeys_call (hG:GOK G) (hsz:sz ≤ 2) (hx:x.length = 16 + 8 * sz) (hb:Bytes x) (hr:rd M b o (16 + 8 * sz) = some (u8s' x)) (hcp:16 + 8 * sz ≤ cp) (hT:TabA M ts ariT) :
  ∃ (M2:Mem) (kb:Nat) (cs:List V),ACall Tryz.prog G 90 [.agg ts,.sl b o (16 + 8 * sz) (some cp)] M (.sl kb 0 (13 + 2 * sz) none) M2 ∧ GrowL M M2 [] ∧ M2[kb]? = some (.own cs 1) ∧ cs.length = 13 + 2 * sz ∧ AkR G sz x M2 cs:=by
 suffices h:AWX G (fnOf Tryz.f90).body (mkSt 102 (argL 0 [.agg ts,.sl b o (16 + 8 * sz) (some cp)]) M) (fun ex s => ∃ (M2:Mem) (kb:Nat) (cs:List V),Fini 102 (fnOf Tryz.f90).results (.sl kb 0 (13 + 2 * sz) none) M2 ex s ∧ GrowL M M2 [] ∧ M2[kb]? = some (.own cs 1) ∧ cs.length = 13 + 2 * sz ∧ AkR G sz x M2 cs) by
  obtain ⟨ex,s,h1,M2,kb,cs,h2,h3⟩:=h
  exact ⟨M2,kb,cs,acall_mk (n:=102) (fv:=fnOf Tryz.f90) rfl rfl (by simp) (by decide) ⟨ex,s,h1,h2⟩,h3⟩
 have h16:(x.take 16).length = 16:=by simp; omega
 have hxl:(u8s' x).length = 16 + 8 * sz:=by rw [u8s'_len,hx]
 refine AWX.seq (AWX.region (AOX.qv hG rfl (st_box (v:=.agg ts) rfl) rfl (AOX.q hG rfl (st_as rfl) rfl (AOX.nil (AWX.scope (JX.step ?_))))))
 have gM1:GrowL M (M ++ [.own ts 0]) []:=GrowL.one _ _ _
 have hp2:(M ++ [Blk.own ts 0])[M.length]? = some (.own ts 0):=app_last
 show AWX G _ (mkSt 102 _ (M ++ [.own ts 0])) _
 generalize M ++ [Blk.own ts 0] = M1 at gM1 hp2
 refine AWX.seq (AWX.region (AOX.q hG rfl (st_mv rfl) rfl (AOX.q hG rfl (st_len sl22 rfl) rfl (AOX.q hG rfl (st_bin rfl rfl (b_sub (n:=16) (r:=8 * sz) (by omega) (by omega))) rfl (AOX.q (v:=.int .i64 sz) hG rfl (st_bin rfl rfl (by
  have:=b_quo (d:=tyF 3) (M:=M1) (a:=8 * sz) (n:=8) (by omega) (by omega)
  rw [show 8 * sz / 8 = sz by omega] at this
  exact this)) rfl (AOX.q hG rfl (st_as rfl) rfl (AOX.nil ?_)))))))
 refine AWX.seq (AWX.region (AOX.qc hG rfl (st_call rfl rfl) (three_call hG M1) rfl ?_))
 have gM2:GrowL M1 (M1 ++ [.own (u8s' (thr 0)) 1,.own (u8s' (thr 1)) 1,.own (u8s' (thr 2)) 1]) []:=GrowL.app _ _ (by simp)
 have h3:∀ j,j < 3 → (M1 ++ [Blk.own (u8s' (thr 0)) 1,.own (u8s' (thr 1)) 1,.own (u8s' (thr 2)) 1])[M1.length + j]? = some (.own (u8s' (thr j)) 1):=by
  intro j hj
  rw [List.getElem?_append_right (by omega),Nat.add_sub_cancel_left]
  match j,hj with
  | 0,_ | 1,_ | 2,_ => rfl
 have hq1:M.length + 1 ≤ M1.length:=by have:=lt_of hp2; omega
 generalize M1 ++ [Blk.own (u8s' (thr 0)) 1,.own (u8s' (thr 1)) 1,.own (u8s' (thr 2)) 1] = M2 at gM2 h3
 have g2:=gM1.tr gM2
 have hp22:=gM2.g0 hp2
 generalize M1.length = q at h3 hq1
 clear gM1 gM2 hp2
 refine AOX.qv hG rfl (st_al z158) rfl ?_
 have g3:=g2.tr (GrowL.one M2 [.nilsl,.nilsl,.nilsl] 0)
 have hp6:(M2 ++ [Blk.own [.nilsl,.nilsl,.nilsl] 0])[M2.length]? = some (.own [.nilsl,.nilsl,.nilsl] 0):=app_last
 have hp23:=(GrowL.one M2 [.nilsl,.nilsl,.nilsl] 0).g0 hp22
 have h33:∀ j,j < 3 → (M2 ++ [Blk.own [.nilsl,.nilsl,.nilsl] 0])[q + j]? = some (.own (u8s' (thr j)) 1):=fun j hj => (GrowL.one _ _ _).g0 (h3 j hj)
 have hl2:q + 3 ≤ M2.length:=by have:=lt_of (h3 2 (by omega)); omega
 have hpl2:=lt_of hp22
 generalize M2 ++ [Blk.own [.nilsl,.nilsl,.nilsl] 0] = M3 at g3 hp6 hp23 h33
 generalize M2.length = p6 at hp6 hl2 hpl2
 refine AOX.qs hG rfl (st_sta (n:=3) row158 rfl rfl rfl (wr_whole hp6 rfl rfl)) (AOX.nil ?_)
 have g4:=g3.st (b:=p6) (by omega) hp6 (k:=.own [.sl q 0 16 none,.sl (q + 1) 0 16 none,.sl (q + 2) 0 16 none] 0) (by simp)
 have hp64:=set_get (k:=Blk.own [.sl q 0 16 none,.sl (q + 1) 0 16 none,.sl (q + 2) 0 16 none] 0) hp6
 have hp24:(M3.set p6 (Blk.own [.sl q 0 16 none,.sl (q + 1) 0 16 none,.sl (q + 2) 0 16 none] 0))[M.length]? = some (.own ts 0):=by rw [set_ne (by omega)]; exact hp23
 have h34:∀ j,j < 3 → (M3.set p6 (Blk.own [.sl q 0 16 none,.sl (q + 1) 0 16 none,.sl (q + 2) 0 16 none] 0))[q + j]? = some (.own (u8s' (thr j)) 1):=fun j hj => by rw [set_ne (by omega)]; exact h33 j hj
 generalize M3.set p6 (Blk.own [.sl q 0 16 none,.sl (q + 1) 0 16 none,.sl (q + 2) 0 16 none] 0) = M4 at g4 hp64 hp24 h34
 clear g2 g3 hp22 h3 hp6 hp23 h33
 refine AWX.seq (AWX.region (AOX.qv hG rfl (st_mk (l:=16) (c:=16) el22 (by omega) rfl rfl (by omega) (by omega)) rfl ?_))
 have g5:=g4.tr (GrowL.one M4 (List.replicate 16 (.int .u8 0)) 0)
 have hw0:(M4 ++ [Blk.own (List.replicate 16 (.int .u8 0)) 0])[M4.length]? = some (.own (List.replicate 16 (.int .u8 0)) 0):=app_last
 have hp65:=(GrowL.one M4 (List.replicate 16 (.int .u8 0)) 0).g0 hp64
 have hp25:=(GrowL.one M4 (List.replicate 16 (.int .u8 0)) 0).g0 hp24
 have h35:∀ j,j < 3 → (M4 ++ [Blk.own (List.replicate 16 (.int .u8 0)) 0])[q + j]? = some (.own (u8s' (thr j)) 1):=fun j hj => (GrowL.one _ _ _).g0 (h34 j hj)
 have hl4:M.length < M4.length ∧ p6 < M4.length ∧ q + 2 < M4.length:=⟨lt_of hp24,lt_of hp64,lt_of (h34 2 (by omega))⟩
 generalize M4 ++ [Blk.own (List.replicate 16 (.int .u8 0)) 0] = M5 at g5 hw0 hp65 hp25 h35
 generalize M4.length = w0 at hw0 hl4
 refine AOX.q (v:=.agg [.sl w0 0 16 (some 16),.nilsl,.nilsl,.nilsl]) hG rfl (by kernel_rfl) rfl (AOX.qv hG rfl (st_al z132) rfl ?_)
 have g6:=g5.tr (GrowL.one M5 [.nilsl,.nilsl,.nilsl,.nilsl] 0)
 have hp7:(M5 ++ [Blk.own [.nilsl,.nilsl,.nilsl,.nilsl] 0])[M5.length]? = some (.own [.nilsl,.nilsl,.nilsl,.nilsl] 0):=app_last
 have hw06:=(GrowL.one M5 [.nilsl,.nilsl,.nilsl,.nilsl] 0).g0 hw0
 have hp66:=(GrowL.one M5 [.nilsl,.nilsl,.nilsl,.nilsl] 0).g0 hp65
 have hp26:=(GrowL.one M5 [.nilsl,.nilsl,.nilsl,.nilsl] 0).g0 hp25
 have h36:∀ j,j < 3 → (M5 ++ [Blk.own [.nilsl,.nilsl,.nilsl,.nilsl] 0])[q + j]? = some (.own (u8s' (thr j)) 1):=fun j hj => (GrowL.one _ _ _).g0 (h35 j hj)
 have hl5:=lt_of hw0
 generalize M5 ++ [Blk.own [.nilsl,.nilsl,.nilsl,.nilsl] 0] = M6 at g6 hp7 hw06 hp66 hp26 h36
 generalize M5.length = p7 at hp7 hl5
 refine AOX.qs hG rfl (st_sta (n:=4) row132 rfl rfl rfl (wr_whole hp7 rfl rfl)) (AOX.nil ?_)
 have g7:=g6.st (b:=p7) (by omega) hp7 (k:=.own [.sl w0 0 16 (some 16),.nilsl,.nilsl,.nilsl] 0) (by simp)
 have hp77:=set_get (k:=Blk.own [.sl w0 0 16 (some 16),.nilsl,.nilsl,.nilsl] 0) hp7
 have hw07:(M6.set p7 (Blk.own [.sl w0 0 16 (some 16),.nilsl,.nilsl,.nilsl] 0))[w0]? = some (.own (List.replicate 16 (.int .u8 0)) 0):=by rw [set_ne (by omega)]; exact hw06
 have hp67:(M6.set p7 (Blk.own [.sl w0 0 16 (some 16),.nilsl,.nilsl,.nilsl] 0))[p6]? = some (.own [.sl q 0 16 none,.sl (q + 1) 0 16 none,.sl (q + 2) 0 16 none] 0):=by rw [set_ne (by omega)]; exact hp66
 have hp27:(M6.set p7 (Blk.own [.sl w0 0 16 (some 16),.nilsl,.nilsl,.nilsl] 0))[M.length]? = some (.own ts 0):=by rw [set_ne (by omega)]; exact hp26
 have h37:∀ j,j < 3 → (M6.set p7 (Blk.own [.sl w0 0 16 (some 16),.nilsl,.nilsl,.nilsl] 0))[q + j]? = some (.own (u8s' (thr j)) 1):=fun j hj => by rw [set_ne (by omega)]; exact h36 j hj
 generalize M6.set p7 (Blk.own [.sl w0 0 16 (some 16),.nilsl,.nilsl,.nilsl] 0) = M7 at g7 hp77 hw07 hp67 hp27 h37
 clear g4 g5 g6 hp64 hp24 h34 hw0 hp65 hp25 h35 hp7 hw06 hp66 hp26 h36
 have htake:(u8s' x).take (min (u8s' x).length 16) = u8s' (x.take 16):=by rw [hxl,Nat.min_eq_right (by omega)]; simp [u8s',List.map_take]
 have hone:∀ l:List Int,(u8s' l).all V.one = true:=fun l => by simp [u8s',V.one]
 refine AWX.seq (AWX.region (AOX.q hG rfl (st_ixa (i:=0) ar132 rfl rfl (by omega)) rfl (AOX.q (v:=.sl w0 0 16 (some 16)) hG rfl (st_ld one22 rfl (rd_one (rd_own0 hp77 rfl) rfl)) rfl (AOX.q hG rfl (st_mv rfl) rfl
  (AOX.qv hG rfl (st_copy el22 rfl rfl (rd_grow g7 hr (by simp)) (by rw [htake]; exact wr_front hw07 (by rw [u8s'_len,h16]; simp) (hone _))) rfl (AOX.nil ?_))))))
 have hw0e:u8s' (x.take 16) ++ (List.replicate 16 (V.int .u8 0)).drop (u8s' (x.take 16)).length = u8s' (x.take 16):=by rw [u8s'_len,h16]; simp
 rw [hw0e]
 have g8:=g7.st (b:=w0) (by omega) hw07 (k:=.own (u8s' (x.take 16)) 0) (by simp)
 have hw08:=set_get (k:=Blk.own (u8s' (x.take 16)) 0) hw07
 have hp78:(M7.set w0 (Blk.own (u8s' (x.take 16)) 0))[p7]? = some (.own [.sl w0 0 16 (some 16),.nilsl,.nilsl,.nilsl] 0):=by rw [set_ne (by omega)]; exact hp77
 have hp68:(M7.set w0 (Blk.own (u8s' (x.take 16)) 0))[p6]? = some (.own [.sl q 0 16 none,.sl (q + 1) 0 16 none,.sl (q + 2) 0 16 none] 0):=by rw [set_ne (by omega)]; exact hp67
 have hp28:(M7.set w0 (Blk.own (u8s' (x.take 16)) 0))[M.length]? = some (.own ts 0):=by rw [set_ne (by omega)]; exact hp27
 have h38:∀ j,j < 3 → (M7.set w0 (Blk.own (u8s' (x.take 16)) 0))[q + j]? = some (.own (u8s' (thr j)) 1):=fun j hj => by rw [set_ne (by omega)]; exact h37 j hj
 generalize M7.set w0 (Blk.own (u8s' (x.take 16)) 0) = M8 at g8 hw08 hp78 hp68 hp28 h38
 clear g7 hp77 hw07 hp67 hp27 h37
 refine AWX.seq (AWX.region (AOX.qv hG rfl (st_mk (l:=16) (c:=16) el22 (by omega) rfl rfl (by omega) (by omega)) rfl (AOX.q hG rfl (st_as rfl) rfl (AOX.nil ?_))))
 have g9:=g8.tr (GrowL.one M8 (List.replicate 16 (.int .u8 0)) 0)
 have hb9:(M8 ++ [Blk.own (List.replicate 16 (.int .u8 0)) 0])[M8.length]? = some (.own (List.replicate 16 (.int .u8 0)) 0):=app_last
 have hw09:=(GrowL.one M8 (List.replicate 16 (.int .u8 0)) 0).g0 hw08
 have hp79:=(GrowL.one M8 (List.replicate 16 (.int .u8 0)) 0).g0 hp78
 have hp69:=(GrowL.one M8 (List.replicate 16 (.int .u8 0)) 0).g0 hp68
 have hp29:=(GrowL.one M8 (List.replicate 16 (.int .u8 0)) 0).g0 hp28
 have h39:∀ j,j < 3 → (M8 ++ [Blk.own (List.replicate 16 (.int .u8 0)) 0])[q + j]? = some (.own (u8s' (thr j)) 1):=fun j hj => (GrowL.one _ _ _).g0 (h38 j hj)
 have hl8:p7 < M8.length:=lt_of hp78
 generalize M8 ++ [Blk.own (List.replicate 16 (.int .u8 0)) 0] = M9 at g9 hb9 hw09 hp79 hp69 hp29 h39
 generalize M8.length = b8 at hb9 hl8
 clear g8 hw08 hp78 hp68 hp28 h38
 refine AWX.seq (AWX.region (AOX.q hG rfl (st_mv rfl) rfl (AOX.q hG rfl (st_mv rfl) rfl ?_)))
 obtain ⟨o',hsr,hsl⟩:=sl_dropS (i:=16) (by omega) hcp (rd_grow g9 hr (by simp))
 have hdl:(x.drop 16).length = 8 * sz:=by simp; omega
 have hd16:(u8s' x).drop 16 = u8s' (x.drop 16):=by simp [u8s',List.map_drop]
 rw [hd16] at hsr
 have htk:(u8s' (x.drop 16)).take (min (u8s' (x.drop 16)).length 16) = u8s' (x.drop 16):=List.take_of_length_le (by rw [u8s'_len,hdl]; omega)
 refine AOX.q hG rfl (hsl sl22 rfl rfl) rfl (AOX.qv hG rfl (st_copy el22 rfl rfl hsr (by rw [htk]; exact wr_front hb9 (by rw [u8s'_len,hdl]; simp; omega) (hone _))) rfl (AOX.nil ?_))
 have hb8e:u8s' (x.drop 16) ++ (List.replicate 16 (V.int .u8 0)).drop (u8s' (x.drop 16)).length = u8s' (bfF G sz x 0):=by
  rw [u8s'_len,hdl,List.drop_replicate,bfF,hx,show 32 - (16 + 8 * sz) = 16 - 8 * sz by omega]
  simp [u8s']
 rw [hb8e]
 have hI:AkM G M (M9.set b8 (.own (u8s' (bfF G sz x 0)) 0)) M.length p6 q p7 b8 (some 16) ts [.sl w0 0 16 (some 16),.nilsl,.nilsl,.nilsl] sz x 0:=by
  have hbl:=bfF_is (sz:=sz) hG (by omega) (by omega) hb 0
  refine ⟨g9.st (by omega) hb9 (by simp),by rw [set_ne (by omega)]; exact hp29,by rw [set_ne (by omega)]; exact hp69,fun j hj => ?_,by rw [set_ne (by omega)]; exact hp79,rfl,by omega,by omega,by omega,hT,fun j hj => ?_,rd_own0 (set_get hb9) (by rw [u8s'_len,hbl.1])⟩
  ·rw [rd_ne (by omega)]; exact rd_own0 (h39 j hj) (by rw [u8s'_len,(thr_is j).1])
  ·have:j = 0:=by omega
   subst this
   exact ⟨w0,_,rfl,by rw [rd_ne (by omega)]; exact rd_own0 hw09 (by rw [u8s'_len]; exact h16),show 16 ≤ 16 by omega⟩
 generalize M9.set b8 (.own (u8s' (bfF G sz x 0)) 0) = M10 at hI
 clear g9 hb9 hw09 hp79 hp69 hp29 h39 hsr hsl
 refine AWX.seq (AWX.seq (AWX.region (AOX.q hG rfl (st_mv rfl) rfl (AOX.nil ?_))))
 refine AWX.block (AWX.loop ?_)
 refine ak_one (i:=0) hG (by omega) (by omega) hb hsz (by omega) hI ⟨rfl,rfl,rfl,rfl,rfl,rfl,trivial⟩ fun l1 N1 c1 lim1 ws1 hI1 hl1 => ?_
 refine ak_one (i:=1) hG (by omega) (by omega) hb hsz (by omega) hI1 hl1 fun l2 N2 c2 lim2 ws2 hI2 hl2 => ?_
 refine ak_one (i:=2) hG (by omega) (by omega) hb hsz (by omega) hI2 hl2 fun l3 N3 c3 lim3 ws3 hI3 hl3 => ?_
 refine LX.step (AWX.ff _ hl3 ?_)
 refine AWX.seq (AWX.region (AOX.q hG rfl (st_bin rfl rfl (b_lssF (by omega))) rfl (AOX.nil ?_)))
 refine AWX.seq (AWX.cf rfl (AWX.exit ?_))
 refine AWX.seq (AWX.region (AOX.q hG rfl (st_as rfl) rfl (AOX.nil ?_)))
 refine AWX.seq (AWX.region (AOX.q (v:=.agg (ariTurns.map (.int .i64))) hG rfl (by kernel_rfl) rfl (AOX.qv hG rfl (st_al z160) rfl ?_)))
 have g10:=hI3.gr.tr (GrowL.one N3 (List.replicate 5 (.int .i64 0)) 0)
 have hI4:=hI3.grow (GrowL.one N3 (List.replicate 5 (.int .i64 0)) 0)
 have hp11:(N3 ++ [Blk.own (List.replicate 5 (.int .i64 0)) 0])[N3.length]? = some (.own (List.replicate 5 (.int .i64 0)) 0):=app_last
 have hl7:=lt_of hI3.h7
 have hl10:=hI3.gr.le
 generalize N3 ++ [Blk.own (List.replicate 5 (.int .i64 0)) 0] = N4 at g10 hI4 hp11
 generalize N3.length = p11 at hp11 hl7 hl10
 refine AOX.qs hG rfl (st_sta (n:=5) row160 rfl rfl rfl (wr_whole hp11 rfl rfl)) (AOX.nil ?_)
 have hW:AkW G (N4.set p11 (.own (ariTurns.map (.int .i64)) 0)) p7 p11 ws3 sz x:=by
  refine ⟨by rw [set_ne (by omega)]; exact hI4.h7,hI4.wl,fun j hj => ?_,set_get hp11⟩
  obtain ⟨c,lim,e1,e2,e3⟩:=hI4.w j (by omega)
  have hne:=row_ne e2 hp11 (by simp)
  exact ⟨c,lim,e1,by rw [rd_ne hne]; exact e2,e3.set hne⟩
 have g11:=g10.st (b:=p11) hl10 hp11 (k:=.own (ariTurns.map (.int .i64)) 0) (by simp)
 have hNe:N4.set p11 (.own ((ariTurns.map (V.int .i64))) 0) = N4.set p11 (.own (ariTurns.map (.int .i64)) 0):=rfl
 generalize N4.set p11 (.own (ariTurns.map (.int .i64)) 0) = N5 at hW g11 hNe
 refine AWX.seq (AWX.region (AOX.q hG rfl (st_as rfl) rfl (AOX.nil ?_)))
 refine AWX.seq (AWX.label ?_)
 refine ak_all hG (by omega) (by omega) hb hsz hW (fun l5 N6 out cs hN6 hS hcl hR hl5 => ?_) (12 + 2 * sz) 0 _ N5 .nilsl [] (by omega) (GrowL.refl _) (.inl ⟨rfl,rfl⟩) rfl (fun j hj => by simp at hj) ⟨rfl,rfl,rfl,rfl,rfl,trivial⟩
 rcases hS with ⟨_,rfl⟩ | ⟨kb,_,rfl,hkb⟩
 ·simp at hcl; omega
 rw [hcl] at hl5
 refine AWX.seq (AWX.ff _ hl5 (AWX.region (AOX.q hG rfl (st_mv rfl) rfl (AOX.q hG rfl (st_as rfl) rfl (AOX.nil (AWX.ret ?_))))))
 exact ⟨N6,kb,cs,⟨.inr rfl,_,_,rfl,rfl,rfl⟩,g11.tr hN6,hkb,hcl,hR⟩
end
end
end
section
open Go.Proofs
noncomputable section
theorem lit_calln {G:GF} (hG:GOK G) {f m:Nat} {args:List V} {v0 v:V} {M0':Mem} {ch bl:List Nat} {N:List Blk} {M:Mem} (h:FN noX tyF fn noS m f args [] = some (v0,M0',ch)) (ha:(Bd.mk [] []).subs args = some args) (hnd:∀ i j b:Nat,bl[i]? = some b → bl[j]? = some b → i = j)
  (hv:rep [] bl M.length v0 = some v) (hN:news [] bl M.length M0' bl = some N):ACall Tryz.prog G f args M v (M ++ N):=by
 have hc:=(run hG noX_ok noS_ok m _ _ _ _ _ _ h).1
 refine ⟨hc.1,fun prot W0 φ w us hM hus => ?_⟩
 exact sumcall (B:=⟨[],[]⟩) (rows:=[]) (bl:=bl) (ns:=[]) (v:=v) (N:=N) hc ha ⟨rfl,fun i cs0 p hi => by simp at hi⟩ hnd hM hus rfl (rep_any v0 hv) (news_any hN)
theorem row_call {G:GF} (hG:GOK G) {f m n b o:Nat} {lim:Option Nat} {cs:List V} {ex:List V} {v:V} {M M0':Mem} {ch:List Nat} (h:FN noX tyF fn noS m f (.sl 0 0 n none :: ex) (small 0 [cs]) = some (v,M0',ch)) (hcs:∀ B:Bd,B.subs cs = some cs) (hex:∀ B:Bd,B.subs ex = some ex) (hn:cs.length = n) (hr:rd M b o n = some cs) (hl:LimP M b o n lim)
  (hv:∀ base,rep [] [] base v = some v):ACall Tryz.prog G f (.sl b o n lim :: ex) M v M:=by
 have hc:=(run hG noX_ok noS_ok m _ _ _ _ _ _ h).1
 refine ⟨hc.1,fun prot W0 φ w us hM hus => ?_⟩
 have hsub:(Bd.mk [] [(b,o,lim)]).subs (.sl 0 0 n none :: ex) = some (.sl b o n lim :: ex):=by
  simp only [Bd.subs,Bd.sub,hex]
  cases lim <;> simp
 have:=sumcall (B:=⟨[],[(b,o,lim)]⟩) (rows:=[cs]) (bl:=[]) (ns:=[]) (v:=v) (N:=[]) hc hsub ⟨rfl,fun i cs0 p h1 h2 => by
  have hi:i = 0:=by have:=(List.getElem?_eq_some_iff.1 h1).1; simp only [List.length_singleton] at this; omega
  subst hi
  simp only [List.getElem?_cons_zero,Option.some.injEq] at h1 h2
  subst h1 h2
  refine ⟨cs,hcs _,by rw [hn]; exact hr,?_⟩
  rw [hn]; exact hl⟩ (fun i j b hi => by simp at hi) hM hus rfl (rep_any v (hv _)) rfl
 rwa [List.append_nil] at this
section
variable {G:GF} {M:Mem} {sz b o cp:Nat} {x:List Int}
theorem fits_call (hG:GOK G) (hsz:sz ≤ 2) {lim:Option Nat}:ACall Tryz.prog G 88 [.sl b o (16 + 8 * sz) lim] M (.bool true) M:=by
 refine acall_mk (n:=17) (fv:=fnOf Tryz.f88) rfl rfl (by simp) (by decide) ?_
 refine AWX.seq (AWX.region (AOX.q hG rfl (st_as rfl) rfl (AOX.nil ?_)))
 refine AWX.seq (AWX.region (AOX.q hG rfl (st_mv rfl) rfl (AOX.q hG rfl (st_len sl22 rfl) rfl (AOX.q hG rfl (st_bin rfl rfl (b_geqT (by omega))) rfl (AOX.q hG rfl (st_mv rfl) rfl (AOX.qg hG rfl rfl (st_mv rfl) rfl (AOX.qg hG rfl rfl (st_len sl22 rfl) rfl (AOX.qg hG rfl rfl (st_bin rfl rfl (b_leqT (by omega))) rfl (AOX.q hG rfl (st_pickT rfl rfl) rfl (AOX.q hG rfl (st_mv rfl) rfl
  (AOX.qg hG rfl rfl (st_mv rfl) rfl (AOX.qg hG rfl rfl (st_len sl22 rfl) rfl (AOX.qg hG rfl rfl (st_bin rfl rfl (b_rm (n:=8) (by omega))) rfl (AOX.qg hG rfl rfl (st_bin rfl rfl (b_eqlT (by omega))) rfl (AOX.q hG rfl (st_pickT rfl rfl) rfl (AOX.q hG rfl (st_as rfl) rfl (AOX.nil ?_)))))))))))))))))
 exact AWX.fin rfl rfl
theorem ariK_all (hG:GOK G) (hsz:sz ≤ 2) (hx:x.length = 16 + 8 * sz) (hb:Bytes x):∀ j,j < 13 + 2 * sz → Is16 (ariK G sz x j):=fun j hj => ariK_is hG (by omega) (by omega) hb (by omega)
theorem anew_call (hG:GOK G) (hsz:sz ≤ 2) (hx:x.length = 16 + 8 * sz) (hb:Bytes x) (hr:rd M b o (16 + 8 * sz) = some (u8s' x)) (hcp:16 + 8 * sz ≤ cp) :
  ∃ (M2:Mem) (p:Nat) (ts:List V),ACall Tryz.prog G 58 [.sl b o (16 + 8 * sz) (some cp)] M (.tup [.ptr p 0,.int .i64 0]) M2 ∧ GrowL M M2 [] ∧ AriA M2 p (13 + 2 * sz) ts ariT (ariK G sz x):=by
 suffices h:AWX G (fnOf Tryz.f58).body (mkSt 15 (argL 0 [.sl b o (16 + 8 * sz) (some cp)]) M) (fun ex s => ∃ (M2:Mem) (p:Nat) (ts:List V),Fini 15 (fnOf Tryz.f58).results (.tup [.ptr p 0,.int .i64 0]) M2 ex s ∧ GrowL M M2 [] ∧ AriA M2 p (13 + 2 * sz) ts ariT (ariK G sz x)) by
  obtain ⟨ex,s,h1,M2,p,ts,h2,h3⟩:=h
  exact ⟨M2,p,ts,acall_mk (n:=15) (fv:=fnOf Tryz.f58) rfl rfl (by simp) (by decide) ⟨ex,s,h1,h2⟩,h3⟩
 refine AWX.seq (AWX.region (AOX.q hG rfl (st_as rfl) rfl (AOX.q hG rfl (st_as rfl) rfl (AOX.nil ?_))))
 refine AWX.seq (AWX.seq (AWX.region (AOX.q hG rfl (st_mv rfl) rfl (AOX.qc hG rfl (st_call rfl rfl) (fits_call hG hsz) rfl (AOX.q hG rfl (st_not rfl) rfl (AOX.nil (AWX.cf rfl (AWX.skip ?_))))))))
 obtain ⟨M1,ts,hc,hM1,hT⟩:=made_call (M:=M) hG
 obtain ⟨a,b',c,d,rfl⟩:∃ a b c d,ts = [a,b,c,d]:=by
  have:=hT.len
  match ts,this with
  | [a,b,c,d],_ => exact ⟨a,b,c,d,rfl⟩
 have hone:[a,b',c,d].all V.one = true:=by
  have h:∀ j,j < 4 → ∀ v,[a,b',c,d][j]? = some v → v.one = true:=fun j hj v hv => by
   obtain ⟨q,lim,h1,_⟩:=hT.at' j hj
   rw [h1] at hv; injection hv with hv; subst hv; rfl
  have h0:=h 0 (by omega) a rfl
  have h1:=h 1 (by omega) b' rfl
  have h2:=h 2 (by omega) c rfl
  have h3:=h 3 (by omega) d rfl
  simp [h0,h1,h2,h3]
 refine AWX.seq (AWX.region (AOX.qc hG rfl (st_call rfl rfl) hc rfl (AOX.qv hG rfl (st_al z133) rfl ?_)))
 have g2:=hM1.tr (GrowL.one M1 [.nilsl,.nilsl,.nilsl,.nilsl] 0)
 have hT2:=hT.grow (GrowL.one M1 [.nilsl,.nilsl,.nilsl,.nilsl] 0)
 have hp:(M1 ++ [Blk.own [.nilsl,.nilsl,.nilsl,.nilsl] 0])[M1.length]? = some (.own [.nilsl,.nilsl,.nilsl,.nilsl] 0):=app_last
 have hl1:=hM1.le
 generalize M1 ++ [Blk.own [.nilsl,.nilsl,.nilsl,.nilsl] 0] = M2 at g2 hT2 hp
 generalize M1.length = p4 at hp hl1
 refine AOX.qs hG rfl (st_sta (n:=4) row133 rfl rfl rfl (wr_whole hp rfl hone)) (AOX.nil ?_)
 have g3:=g2.st (b:=p4) hl1 hp (k:=.own [a,b',c,d] 0) (by simp)
 have hp3:=set_get (k:=Blk.own [a,b',c,d] 0) hp
 have hT3:TabA (M2.set p4 (.own [a,b',c,d] 0)) [a,b',c,d] ariT:=by
  refine ⟨rfl,fun j hj => ?_,hT2.tl⟩
  obtain ⟨q,lim,h1,h2⟩:=hT2.at' j hj
  refine ⟨q,lim,h1,?_⟩
  have hne:p4 ≠ q:=fun e => by
   subst e
   unfold rd at h2
   rw [hp] at h2
   simp [Blk.cells] at h2
  rw [rd_ne hne]; exact h2
 generalize M2.set p4 (.own [a,b',c,d] 0) = M3 at g3 hp3 hT3
 obtain ⟨M4,kb,cs,hk,hM4,hkb,hcl,hR⟩:=akeys_call hG hsz hx hb (rd_grow g3 hr (by simp)) hcp hT3
 refine AWX.seq (AWX.draw ?_)
 refine QG2.q (bad:=[10,11,12]) hG (by kernel_rfl) rfl rfl (st_lda row133 rfl (rd_own0 hp3 rfl)) rfl ?_
 refine QG2.q (bad:=[9,11]) hG (by kernel_rfl) rfl rfl (st_lda row133 rfl (rd_own0 hp3 rfl)) rfl ?_
 refine QG2.b (bad:=[9,10]) hG (by kernel_rfl) rfl (st_mv rfl) rfl ?_
 refine QG2.c (T:=[]) (bad:=[9]) hG (by kernel_rfl) rfl (.inl rfl) rfl (st_call rfl rfl) hk hM4 rfl ?_
 refine QG2.b (v:=.agg ([a,b',c,d] ++ [.sl kb 0 (13 + 2 * sz) none])) (bad:=[]) hG (by kernel_rfl) rfl (by kernel_rfl) rfl ?_
 refine QG2.av (T:=[]) (bad:=[]) hG (by kernel_rfl) (by kernel_rfl) (.inl rfl) rfl (st_box rfl) (GrowL.one _ _ _) rfl ?_
 refine QG2.b (bad:=[]) hG (by kernel_rfl) rfl (st_as rfl) rfl ?_
 refine QG2.b (bad:=[]) hG (by kernel_rfl) rfl (st_as rfl) rfl (QG2.done (by kernel_rfl) rfl (AWX.ret ?_))
 refine ⟨_,M4.length,[a,b',c,d],⟨.inr rfl,_,_,rfl,rfl,rfl⟩,(g3.tr hM4).tr (GrowL.one _ _ _),(hT3.grow hM4).grow (GrowL.one _ _ _),⟨0,kb,none,app_last,fun j hj => ?_⟩,ariK_all hG hsz hx hb,by omega⟩
 obtain ⟨q,e1,e2⟩:=hR j (by omega)
 have h16:=ariK_all hG hsz hx hb j hj
 refine ⟨q,some 16,?_,rd_own0 ((GrowL.one _ _ _).g0 e2) (by rw [u8s'_len,h16.1]),show 16 ≤ 16 by omega⟩
 have:=rd_one (rd_own0 ((GrowL.one M4 (cellsOf (.agg ([a,b',c,d] ++ [.sl kb 0 (13 + 2 * sz) none]))) 0).g0 hkb) rfl) e1
 rwa [Nat.zero_add] at this
end
end
end
section
open Go.Proofs
noncomputable section
def TurnsBy (G:GF) (f:FuncId) (p s:Nat) (F:List Int → List Int) (M:Mem):Prop:=∀ (x:List Int) (b o:Nat) (lim:Option Nat),x.length = s → Bytes x → rd M b o s = some (u8s' x) → LimP M b o s lim →
 ∃ (M2:Mem) (c o2:Nat) (lim2:Option Nat),ACall Tryz.prog G f [.ptr p 0,.sl b o s lim] M (.tup [.sl c o2 s lim2,.int .i64 0]) M2 ∧ GrowL M M2 [] ∧ rd M2 c o2 s = some (u8s' (F x))
structure CiP (G:GF) (t:Int) (s:Nat) (E D:List Int → List Int) (p n:Nat) (M:Mem):Prop where
 tag:∃ cs g,M[p]? = some (.own (.int .i64 t :: cs) g)
 le:n ≤ M.length
 lt:p < n
 turn:∀ M1:Mem,(∀ i,i < n → M1[i]? = M[i]?) → TurnsBy G 65 p s E M1 ∧ TurnsBy G 63 p s D M1
def EDok (s:Nat) (E D:List Int → List Int):Prop:=∀ x,x.length = s → Bytes x → ((E x).length = s ∧ Bytes (E x)) ∧ ((D x).length = s ∧ Bytes (D x)) ∧ E (D x) = x
structure Ciph (G:GF) (t:Int) (L s:Nat):Prop where
 h:∀ ns:List Int,ns.length = L → Bytes ns → ∃ E D:List Int → List Int,EDok s E D ∧ ∀ (M:Mem) (b o cp:Nat),rd M b o L = some (u8s' ns) → L ≤ cp →
  ∃ (M2:Mem) (p:Nat),ACall Tryz.prog G 32 [.int .i64 t,.sl b o L (some cp)] M (.tup [.ptr p 0,.int .i64 0]) M2 ∧ GrowL M M2 [] ∧ CiP G t s E D p M2.length M2
section
variable {G:GF}
theorem CipherOK.ciph {t:Int} {L s c:Nat} {sol:List Int → List (Option Int)} {rows:Nat → List (Option Int) → List Blk} {E D:List (Option Int) → List Int → List Int} {gE gD:Nat} {lE lD:Option Nat} (h:CipherOK G t L s c sol rows E D gE gD lE lD):Ciph G t L s:=by
 refine ⟨fun ns hl hb => ⟨E (sol ns),D (sol ns),fun x hx hbx => ⟨h.lenE ns hl hb x hx hbx,h.lenD ns hl hb x hx hbx,h.back ns hl hb x hx hbx⟩,fun M b o cp hr hcp => ?_⟩⟩
 have hg:GrowL M (M ++ rows M.length (sol ns)) []:=GrowL.app _ _ fun k hk cs e => h.noro ns M.length cs (e ▸ hk)
 obtain ⟨cs,g,ht⟩:=h.tag ns hl hb M.length
 have hcl:=(List.getElem?_eq_some_iff.1 ht).1
 refine ⟨_,M.length + c,h.new ns hl hb M b o (some cp) hr hcp,hg,⟨cs,g,by rw [List.getElem?_append_right (by omega),Nat.add_sub_cancel_left]; exact ht⟩,Nat.le_refl _,by simp; omega,fun M1 hM1 => ?_⟩
 have hrows:∀ (i:Nat) (k:Blk),(rows M.length (sol ns))[i]? = some k → M1[M.length + i]? = some k:=fun i k hi => by
  have:=(List.getElem?_eq_some_iff.1 hi).1
  rw [hM1 _ (by simp; omega),List.getElem?_append_right (by omega),Nat.add_sub_cancel_left]; exact hi
 refine ⟨fun x b o l hx hbx hr hlim => ?_,fun x b o l hx hbx hr hlim => ?_⟩
 ·have hy:=h.lenE ns hl hb x hx hbx
  exact ⟨_,_,_,_,h.enc ns hl hb M.length M1 hrows x b o l hx hbx hr hlim,GrowL.one _ _ _,rd_own0 app_last (by rw [u8s'_len,hy.1])⟩
 ·have hy:=h.lenD ns hl hb x hx hbx
  exact ⟨_,_,_,_,h.dec ns hl hb M.length M1 hrows x b o l hx hbx hr hlim,GrowL.one _ _ _,rd_own0 app_last (by rw [u8s'_len,hy.1])⟩
theorem ar_size (hG:GOK G) (M:Mem):ACall Tryz.prog G 11 [.int .i64 7] M (.int .i64 16) M:=by
 have h:FN noX tyF fn noS 4 11 [.int .i64 7] [] = some (.int .i64 16,[],[]):=by kernel_rfl
 exact lit_call hG h (by simp [Bd.subs,Bd.sub]) (fun base => by simp [rep]) M
theorem ar_lens (hG:GOK G) (M:Mem):ACall Tryz.prog G 51 [.int .i64 7] M (.sl M.length 0 3 (some 3)) (M ++ [.own [.int .i64 16,.int .i64 24,.int .i64 32] 0]):=by
 have h:FN noX tyF fn noS 4 51 [.int .i64 7] [] = some (.sl 0 0 3 (some 3),[.own [.int .i64 16,.int .i64 24,.int .i64 32] 0],[]):=by kernel_rfl
 exact lit_calln hG (bl:=[0]) h (by simp [Bd.subs,Bd.sub]) (fun i j b hi hj => by
  have h1:=(List.getElem?_eq_some_iff.1 hi).1
  have h2:=(List.getElem?_eq_some_iff.1 hj).1
  simp only [List.length_singleton] at h1 h2
  omega) (by simp [rep,idxOf]) (by simp [news,reps,rep])
theorem ar_has (hG:GOK G) {sz:Nat} (hsz:sz ≤ 2) {M:Mem} {b:Nat} (hr:rd M b 0 3 = some [.int .i64 16,.int .i64 24,.int .i64 32]):ACall Tryz.prog G 50 [.sl b 0 3 (some 3),.int .i64 (16 + 8 * sz:Nat)] M (.bool true) M:=by
 have h:∀ L:Nat,(L = 16 ∨ L = 24 ∨ L = 32) → FN noX tyF fn noS 8 50 (.sl 0 0 3 none :: [.int .i64 L]) (small 0 [[.int .i64 16,.int .i64 24,.int .i64 32]]) = some (.bool true,small 0 [[.int .i64 16,.int .i64 24,.int .i64 32]],[]):=by
  rintro L (rfl | rfl | rfl) <;> kernel_rfl
 exact row_call hG (h _ (by omega)) (fun B => by simp [Bd.subs,Bd.sub]) (fun B => by simp [Bd.subs,Bd.sub]) rfl hr (show 3 ≤ 3 by omega) (fun base => by simp [rep])
theorem st_mkf {ρ:Operand → Option V} {M:Mem} {f:FuncId} {first:Array Operand} {l:List V} (h:evs ρ first.toList = some l):astep noX tyF ρ M (.makeFunc (.func f) first #[]) = some (.pure (.fn f l)):=by
 simp [astep,aFunc,h]
theorem one64:OneT 64:=⟨_,rfl,rfl,rfl⟩
theorem anc_call (hG:GOK G) {sz b o cp:Nat} {x:List Int} {M:Mem} (hsz:sz ≤ 2) (hx:x.length = 16 + 8 * sz) (hb:Bytes x) (hr:rd M b o (16 + 8 * sz) = some (u8s' x)) (hcp:16 + 8 * sz ≤ cp) :
  ∃ (M2:Mem) (p ap:Nat) (ts:List V),ACall Tryz.prog G 32 [.int .i64 7,.sl b o (16 + 8 * sz) (some cp)] M (.tup [.ptr p 0,.int .i64 0]) M2 ∧ GrowL M M2 [] ∧ M2[p]? = some (.own [.int .i64 7,.fn 59 [.ptr ap 0]] 0) ∧ AriA M2 ap (13 + 2 * sz) ts ariT (ariK G sz x):=by
 suffices h:AWX G (fnOf Tryz.f32).body (mkSt 95 (argL 0 [.int .i64 7,.sl b o (16 + 8 * sz) (some cp)]) M) (fun ex s => ∃ (M2:Mem) (p ap:Nat) (ts:List V),Fini 95 (fnOf Tryz.f32).results (.tup [.ptr p 0,.int .i64 0]) M2 ex s ∧ GrowL M M2 [] ∧ M2[p]? = some (.own [.int .i64 7,.fn 59 [.ptr ap 0]] 0) ∧ AriA M2 ap (13 + 2 * sz) ts ariT (ariK G sz x)) by
  obtain ⟨ex,s,h1,M2,p,ap,ts,h2,h3⟩:=h
  exact ⟨M2,p,ap,ts,acall_mk (n:=95) (fv:=fnOf Tryz.f32) rfl rfl (by simp) (by decide) ⟨ex,s,h1,h2⟩,h3⟩
 refine AWX.seq (AWX.region (AOX.q hG rfl (st_as rfl) rfl (AOX.q hG rfl (st_as rfl) rfl (AOX.nil (AWX.scope (JX.step ?_))))))
 refine AWX.seq (AWX.region (AOX.q hG rfl (st_mv rfl) rfl (AOX.q (v:=.agg [.int .i64 7,.nilfn]) hG rfl (by kernel_rfl) rfl (AOX.qv hG rfl (st_box rfl) rfl (AOX.q hG rfl (st_as rfl) rfl (AOX.q hG rfl (st_as rfl) rfl (AOX.nil ?_)))))))
 have g1:GrowL M (M ++ [.own (cellsOf (.agg [.int .i64 7,.nilfn])) 0]) []:=GrowL.one _ _ _
 have h1:(M ++ [Blk.own (cellsOf (.agg [.int .i64 7,.nilfn])) 0])[M.length]? = some (.own [.int .i64 7,.nilfn] 0):=app_last
 generalize M ++ [Blk.own (cellsOf (.agg [.int .i64 7,.nilfn])) 0] = M1 at g1 h1
 refine AWX.seq (AWX.seq (AWX.region (AOX.q hG rfl (st_mv rfl) rfl (AOX.qc hG rfl (st_call rfl rfl) (ar_size hG M1) rfl (AOX.q hG rfl (st_bin rfl rfl (b_eqlF (by omega))) rfl (AOX.nil (AWX.cf rfl (AWX.skip ?_))))))))
 have g2:=g1.tr (GrowL.one M1 [.int .i64 16,.int .i64 24,.int .i64 32] 0)
 have h2:=(GrowL.one M1 [.int .i64 16,.int .i64 24,.int .i64 32] 0).g0 h1
 have hr2:rd (M1 ++ [Blk.own [.int .i64 16,.int .i64 24,.int .i64 32] 0]) M1.length 0 3 = some [.int .i64 16,.int .i64 24,.int .i64 32]:=rd_own0 app_last rfl
 refine AWX.seq (AWX.seq (AWX.region (AOX.q hG rfl (st_mv rfl) rfl (AOX.qc hG rfl (st_call rfl rfl) (ar_lens hG M1) rfl (AOX.q hG rfl (st_mv rfl) rfl (AOX.q hG rfl (st_len sl22 rfl) rfl (AOX.qc hG rfl (st_call rfl rfl) (ar_has hG hsz hr2) rfl (AOX.q hG rfl (st_not rfl) rfl (AOX.nil (AWX.cf rfl (AWX.skip ?_)))))))))))
 generalize M1 ++ [Blk.own [.int .i64 16,.int .i64 24,.int .i64 32] 0] = M2 at g2 h2
 clear hr2 h1 g1
 obtain ⟨M3,ap,ts,hc,hM3,hA⟩:=anew_call hG hsz hx hb (rd_grow g2 hr (by simp)) hcp
 have h3:=hM3.g0 h2
 have g3:=g2.tr hM3
 refine AWX.seq (AWX.seq (AWX.region (AOX.q hG rfl (st_mv rfl) rfl (AOX.nil (AWX.block ?_)))))
 refine AWX.seq (AWX.seq (AWX.region (AOX.q hG rfl (st_bin rfl rfl (b_eqlF (by omega))) rfl (AOX.q hG rfl (st_as rfl) rfl (AOX.nil (AWX.cf rfl (AWX.region (AOX.q hG rfl (st_bin rfl rfl (b_eqlF (by omega))) rfl (AOX.q hG rfl (st_as rfl) rfl (AOX.nil ?_))))))))))
 refine AWX.cf rfl (AWX.seq (AWX.region (AOX.q hG rfl (st_bin rfl rfl (b_eqlF (by omega))) rfl (AOX.q hG rfl (st_as rfl) rfl (AOX.nil (AWX.cf rfl ?_))))))
 refine AWX.seq (AWX.region (AOX.q hG rfl (st_bin rfl rfl (b_eqlF (by omega))) rfl (AOX.q hG rfl (st_as rfl) rfl (AOX.nil (AWX.cf rfl ?_)))))
 refine AWX.seq (AWX.region (AOX.q hG rfl (st_bin rfl rfl (b_eqlT rfl)) rfl (AOX.q hG rfl (st_as rfl) rfl (AOX.nil (AWX.ct rfl ?_)))))
 refine AWX.seq (AWX.region (AOX.q hG rfl (st_mv rfl) rfl (AOX.qc hG rfl (st_call rfl rfl) hc rfl (AOX.q hG rfl (st_mv rfl) rfl (AOX.q hG rfl (st_ex rfl rfl) rfl (AOX.q hG rfl (st_ex rfl rfl) rfl (AOX.q hG rfl (st_as rfl) rfl (AOX.q hG rfl (st_as rfl) rfl (AOX.nil ?_)))))))))
 have hw:wr M3 M.length (0 + 1) [.fn 59 [.ptr ap 0]] = some (M3.set M.length (.own [.int .i64 7,.fn 59 [.ptr ap 0]] 0)):=wr_own h3 (by simp) rfl
 refine AWX.region (AOX.q hG rfl (st_mv rfl) rfl (AOX.q hG rfl (st_mv rfl) rfl (AOX.q hG rfl (st_mkf rfl) rfl (AOX.q hG rfl (st_nil rfl) rfl (AOX.q hG rfl (st_fa rfl rfl) rfl (AOX.qs hG rfl (st_st one64 rfl rfl rfl hw) (AOX.nil ?_)))))))
 have g4:=g3.st (Nat.le_refl _) h3 (k:=.own [.int .i64 7,.fn 59 [.ptr ap 0]] 0) (by simp)
 have h4:=set_get (k:=Blk.own [.int .i64 7,.fn 59 [.ptr ap 0]] 0) h3
 have hA4:AriA (M3.set M.length (.own [.int .i64 7,.fn 59 [.ptr ap 0]] 0)) ap (13 + 2 * sz) ts ariT (ariK G sz x):=by
  obtain ⟨g,kb,klim,e1,e2⟩:=hA.st
  have ne16:∀ {c n:Nat} {r:List V},rd M3 c 0 n = some r → 3 ≤ n → M.length ≠ c:=fun hr hn e => by
   subst e
   unfold rd at hr
   rw [h3] at hr
   simp only [Option.bind_some,Blk.cells] at hr
   rw [if_neg (by simp; omega)] at hr
   cases hr
  have htl:=hA.tab.len
  have nep:M.length ≠ ap:=fun e => by
   rw [← e,h3] at e1
   injection e1 with e1
   injection e1 with e1
   have:=congrArg List.length e1
   simp [htl] at this
  have nek:M.length ≠ kb:=fun e => by
   obtain ⟨c,lim,a1,a2,a3⟩:=e2 0 (by have:=hA.nk; omega)
   rw [← e] at a1
   unfold rd at a1
   rw [h3] at a1
   simp [Blk.cells] at a1
  refine ⟨⟨htl,fun j hj => ?_,hA.tab.tl⟩,⟨g,kb,klim,by rw [set_ne nep]; exact e1,fun j hj => ?_⟩,hA.kl,hA.nk⟩
  ·obtain ⟨q,lim,a1,a2⟩:=hA.tab.at' j hj
   exact ⟨q,lim,a1,by rw [rd_ne (ne16 a2 (by omega))]; exact a2⟩
  ·obtain ⟨c,lim,a1,a2,a3⟩:=e2 j hj
   exact ⟨c,lim,by rw [rd_ne nek]; exact a1,by rw [rd_ne (ne16 a2 (by omega))]; exact a2,a3.set (ne16 a2 (by omega))⟩
 generalize M3.set M.length (.own [.int .i64 7,.fn 59 [.ptr ap 0]] 0) = M4 at g4 h4 hA4
 refine AWX.seq (AWX.label ?_)
 refine AWX.seq (AWX.seq (AWX.region (AOX.q hG rfl (st_mv rfl) rfl (AOX.q hG rfl (st_bin rfl rfl (b_neqF rfl)) rfl (AOX.nil (AWX.cf rfl (AWX.skip ?_)))))))
 refine AWX.seq (AWX.region (AOX.q hG rfl (st_mv rfl) rfl (AOX.q hG rfl (st_as rfl) rfl (AOX.q hG rfl (st_as rfl) rfl (AOX.nil (AWX.ret ?_))))))
 exact ⟨M4,M.length,ap,ts,⟨.inr rfl,_,_,rfl,rfl,rfl⟩,g4,h4,hA4⟩
theorem st_fn {ρ:Operand → Option V} {M:Mem} {f:Operand} {g:Nat} {args:Array Operand} {ts:Array TypeId} {u:V} {al:List V} (hf:ρ f = some (.fn g [u])) (ha:evs ρ args.toList = some al):astep noX tyF ρ M (.call ⟨.value f,args,ts⟩) = some (.call g (u :: al)):=st_callf hf ha
theorem ari_enc (hG:GOK G) {M:Mem} {p ap nk:Nat} {ts:List V} {T K:Nat → List Int} (hp:M[p]? = some (.own [.int .i64 7,.fn 59 [.ptr ap 0]] 0)) (hA:AriA M ap nk ts T K):TurnsBy G 65 p 16 (encA G T K nk) M:=by
 intro x b o lim hx hbx hr hlim
 obtain ⟨M2,q,hc,hM,hq,hrow⟩:=bk_call_enc hG hA ⟨hx,hbx⟩ hr hlim
 have hy:(encA G T K nk x).length = 16:=(encA_is hA.tab.tl hG hA.nk.1 hA.is ⟨hx,hbx⟩).1
 refine ⟨M2,q,0,some 16,?_,hM,rd_own0 hrow (by rw [u8s'_len,hy])⟩
 have hl:rd M p (0 + 1) 1 = some [.fn 59 [.ptr ap 0]]:=by rw [rd_own hp (by simp)]; rfl
 refine acall_mk (n:=14) (fv:=fnOf Tryz.f65) rfl rfl (by simp) (by decide) ?_
 refine AWX.seq (AWX.region (AOX.q hG rfl (st_as rfl) rfl (AOX.q hG rfl (st_as rfl) rfl (AOX.nil ?_))))
 refine AWX.seq (AWX.region (AOX.q hG rfl (st_mv rfl) rfl (AOX.q hG rfl (st_nil rfl) rfl (AOX.q hG rfl (st_fa rfl rfl) rfl (AOX.q hG rfl (st_ld one64 rfl hl) rfl (AOX.q hG rfl (st_mv rfl) rfl (AOX.qc hG rfl (st_fn rfl rfl) hc rfl (AOX.q hG rfl (st_ex rfl rfl) rfl (AOX.q hG rfl (st_ex rfl rfl) rfl (AOX.q hG rfl (st_as rfl) rfl (AOX.q hG rfl (st_as rfl) rfl (AOX.nil (AWX.fin rfl rfl)))))))))))))
theorem ari_dec (hG:GOK G) {M:Mem} {p ap nk:Nat} {ts:List V} {T K:Nat → List Int} (hp:M[p]? = some (.own [.int .i64 7,.fn 59 [.ptr ap 0]] 0)) (hA:AriA M ap nk ts T K):TurnsBy G 63 p 16 (decA G T K nk) M:=by
 intro x b o lim hx hbx hr hlim
 obtain ⟨M2,q,o2,lim2,hc,hM,_,hrow⟩:=bk_call_dec (lim:=lim) hG hA ⟨hx,hbx⟩ hr
 refine ⟨M2,q,o2,lim2,?_,hM,hrow⟩
 have hl:rd M p (0 + 1) 1 = some [.fn 59 [.ptr ap 0]]:=by rw [rd_own hp (by simp)]; rfl
 refine acall_mk (n:=14) (fv:=fnOf Tryz.f63) rfl rfl (by simp) (by decide) ?_
 refine AWX.seq (AWX.region (AOX.q hG rfl (st_as rfl) rfl (AOX.q hG rfl (st_as rfl) rfl (AOX.nil ?_))))
 refine AWX.seq (AWX.region (AOX.q hG rfl (st_mv rfl) rfl (AOX.q hG rfl (st_nil rfl) rfl (AOX.q hG rfl (st_fa rfl rfl) rfl (AOX.q hG rfl (st_ld one64 rfl hl) rfl (AOX.q hG rfl (st_mv rfl) rfl (AOX.qc hG rfl (st_fn rfl rfl) hc rfl (AOX.q hG rfl (st_ex rfl rfl) rfl (AOX.q hG rfl (st_ex rfl rfl) rfl (AOX.q hG rfl (st_as rfl) rfl (AOX.q hG rfl (st_as rfl) rfl (AOX.nil (AWX.fin rfl rfl)))))))))))))
theorem same_row {M M1:Mem} {n c o k:Nat} {cs:List V} (h:∀ i,i < n → M1[i]? = M[i]?) (hc:c < n) (hr:rd M c o k = some cs):rd M1 c o k = some cs:=by
 unfold rd at hr ⊢; rw [h c hc]; exact hr
theorem AriA.same {M M1:Mem} {p nk:Nat} {ts:List V} {T K:Nat → List Int} (h:AriA M p nk ts T K) (hM:∀ i,i < M.length → M1[i]? = M[i]?):AriA M1 p nk ts T K:=by
 have lt:∀ {c o k:Nat} {cs:List V},rd M c o k = some cs → c < M.length:=fun hr => by
  obtain ⟨k,hk,_⟩:=rd_row hr
  exact lt_of hk
 obtain ⟨g,kb,klim,e1,e2⟩:=h.st
 refine ⟨⟨h.tab.len,fun j hj => ?_,h.tab.tl⟩,⟨g,kb,klim,by rw [hM p (lt_of e1)]; exact e1,fun j hj => ?_⟩,h.kl,h.nk⟩
 ·obtain ⟨q,lim,a1,a2⟩:=h.tab.at' j hj
  exact ⟨q,lim,a1,same_row hM (lt a2) a2⟩
 ·obtain ⟨c,lim,a1,a2,a3⟩:=e2 j hj
  refine ⟨c,lim,same_row hM (lt a1) a1,same_row hM (lt a2) a2,?_⟩
  cases lim with
  | some _ => exact a3
  | none => show _ ≤ known _ _; unfold known; rw [hM c (lt a2)]; exact a3
theorem isAria (hG:GOK G) {sz:Nat} (hsz:sz ≤ 2):Ciph G 7 (16 + 8 * sz) 16:=by
 refine ⟨fun x hx hb => ⟨encA G ariT (ariK G sz x) (13 + 2 * sz),decA G ariT (ariK G sz x) (13 + 2 * sz),fun y hy hby => ?_,fun M b o cp hr hcp => ?_⟩⟩
 ·have hK:=ariK_all hG hsz hx hb
  exact ⟨encA_is ariT_len hG (by omega) hK ⟨hy,hby⟩,decA_is ariT_len hG (by omega) hK ⟨hy,hby⟩,encA_decA hG ariT_inv ariT_len (by omega) hK ⟨hy,hby⟩⟩
 ·obtain ⟨M2,p,ap,ts,hc,hM,hp,hA⟩:=anc_call hG hsz hx hb hr hcp
  refine ⟨M2,p,hc,hM,⟨_,_,hp⟩,Nat.le_refl _,lt_of hp,fun M1 h1 => ?_⟩
  have hp1:M1[p]? = some (.own [.int .i64 7,.fn 59 [.ptr ap 0]] 0):=by rw [h1 p (lt_of hp)]; exact hp
  exact ⟨ari_enc hG hp1 (hA.same h1),ari_dec hG hp1 (hA.same h1)⟩
end
end
end
section
open Go.Proofs
noncomputable section
section
variable {ρ:Operand → Option V} {M:Mem} {x y:Operand} {t:TypeId}
theorem st_capnil (ht:SlT t) (hx:ρ x = some .nilsl):astep noX tyF ρ M (.call ⟨.builtin .cap,#[x],#[t]⟩) = some (.pure (.int .i64 (0:Nat))):=by
 obtain ⟨d,e,de,h1,h2,h3,h4⟩:=ht.h
 simp only [astep,aCall,aCap,h1,Option.bind_some,hx,capV,h2,Option.map_some]; rfl
theorem st_lennil (ht:SlT t) (hx:ρ x = some .nilsl):astep noX tyF ρ M (.call ⟨.builtin .len,#[x],#[t]⟩) = some (.pure (.int .i64 (0:Nat))):=by
 obtain ⟨d,e,de,h1,h2,h3,h4⟩:=ht.h
 simp only [astep,aCall,aLen,h1,Option.bind_some,hx,lenV,h2,Option.map_some]; rfl
theorem st_slnil (ht:SlT t) (hx:ρ x = some .nilsl) (hy:ρ y = some (.int .i64 (0:Nat))):astep noX tyF ρ M (.slice t x none (some y) none) = some (.pure .nilsl):=by
 obtain ⟨d,e,de,h1,h2,h3,h4⟩:=ht.h
 have h0:idxLe 0 (.int .i64 ((0:Nat):Int)) = some 0:=idxLe_n (Nat.le_refl 0)
 simp only [astep,aSlice,h1,Option.bind_some,hx,oo,hy,Option.map_some,sliceV,h2,h3,h4,mB,uB,h0,ne_eq,not_true_eq_false,if_false,and_self,if_true]
theorem st_apn {z:V} {n:Nat} (ht:ElT 22 z 1) (hn:n ≤ 1000000) (h0:0 < n) (hx:ρ x = some .nilsl) (hy:ρ y = some (.int .i64 n)):astep noX tyF ρ M (.call ⟨.builtin .append,#[x,y],#[22,3]⟩) = some (.val (.sl M.length 0 n none) (M ++ [.own (List.replicate n z) 1])):=by
 obtain ⟨d,e,e1,e2,e3⟩:=ht.h
 obtain ⟨d3,f1,f2⟩:∃ d3,tyF 3 = some d3 ∧ d3.kind = .int .i64:=⟨_,rfl,rfl⟩
 have hc:0 ≤ (n:Int) ∧ (n:Int) * ((1:Nat):Int) ≤ 2 ^ 47 ∧ (n:Int) < 2 ^ 47:=by omega
 have ha:=ap_nil (M:=M) (z:=z) (q:=1) (l:=List.replicate n z) (by intro e; have:=congrArg List.length e; simp at this; omega) (by simpa using hn) (by decide)
 rw [List.length_replicate] at ha
 simp only [astep,aCall,aAppend,e1,f1,Option.bind_some,e3,hx,hy,f2]
 rw [if_pos hc,Int.toNat_natCast,ha]
theorem st_bs2 {z:V} {q:Nat} {a b:V} (ht:ElT t z q) (hx:ρ x = some a) (hy:ρ y = some b) (ha:cellsOf a = [a]) (hb:cellsOf b = [b]):astep noX tyF ρ M (.buildSlice t 2 #[(0,x),(1,y)]) = some (.val (.sl M.length 0 2 (some 2)) (M ++ [.own [a,b] 0])):=by
 obtain ⟨d,e,e1,e2,e3⟩:=ht.h
 simp [astep,aBuildS,e1,evp,hx,hy,buildSliceV,e3,afill,ha,hb]
end
section
variable {G:GF} {M M0:Mem}
def GP (n:Nat) (M:Mem) (v:V) (xs:List Int):Prop:=(v = .nilsl ∧ xs = []) ∨ ∃ b cells,n ≤ b ∧ v = .sl b 0 xs.length none ∧ M[b]? = some (.own cells 1) ∧ cells.take xs.length = u8s' xs ∧ xs.length ≤ cells.length
theorem GP.is {n:Nat} {v:V} {xs:List Int} (h:GP n M v xs):IsS M v xs:=by
 rcases h with h | ⟨b,cells,_,rfl,h2,h3,h4⟩
 ·exact .inl h
 ·refine .inr ⟨b,0,none,rfl,?_,by show 0 + _ ≤ known M b; rw [known_own h2]; omega⟩
  rw [rd_own h2 (by omega)]; simp [h3]
theorem GP.app {v:V} {xs ys:List Int} (hM:GrowL M0 M []) (h:GP M0.length M v xs) (hn:xs.length + ys.length ≤ 1000000) (hv:v = .nilsl → ys = []) :
  ∃ v' M',appendV M (.int .u8 0,1) v (u8s' ys) = some (.val v' M') ∧ GP M0.length M' v' (xs ++ ys) ∧ GrowL M0 M' [] ∧ (v = .nilsl ∨ v' ≠ .nilsl):=by
 by_cases h0:ys = []
 ·subst h0
  rcases h with ⟨rfl,rfl⟩ | ⟨b,cells,h1,rfl,h2,h3,h4⟩
  ·exact ⟨.nilsl,M,by simp [appendV,u8s'],.inl ⟨rfl,rfl⟩,hM,.inl rfl⟩
  ·exact ⟨_,M,ap_none (by rw [known_own h2]; omega),.inr ⟨b,cells,h1,by simp,h2,by simpa using h3,by simpa using h4⟩,hM,.inr (by simp)⟩
 ·rcases h with ⟨rfl,rfl⟩ | ⟨b,cells,h1,rfl,h2,h3,h4⟩
  ·exact absurd (hv rfl) h0
  ·have hone:(u8s' ys).all V.one = true:=by simp [u8s',V.one]
   have hne:u8s' ys ≠ []:=by intro e; have:=congrArg List.length e; rw [u8s'_len] at this; simp only [List.length_nil] at this; exact h0 (List.eq_nil_of_length_eq_zero this)
   have e1:(cells.drop 0).take xs.length ++ u8s' ys = u8s' (xs ++ ys):=by rw [List.drop_zero,h3]; simp [u8s']
   refine ⟨_,_,ap_go' (n':=(xs ++ ys).length) h2 hne hone (by simp; omega) (by decide) (by omega) (by simp [u8s'_len]) e1,.inr ⟨M.length,u8s' (xs ++ ys),hM.le,rfl,by simp,by rw [← u8s'_len (xs ++ ys),List.take_length],by rw [u8s'_len]; exact Nat.le_refl _⟩,(hM.st h1 h2 (by simp)).tr (GrowL.one _ _ _),.inr (by simp)⟩
theorem grow_call (hG:GOK G) {n:Nat} (hn:n ≤ 1000000):∃ (M2:Mem) (v:V),ACall Tryz.prog G 38 [.nilsl,.int .i64 n] M v M2 ∧ GrowL M M2 [] ∧ GP M.length M2 v [] ∧ (v = .nilsl → n = 0):=by
 by_cases h0:n = 0
 ·subst h0
  refine ⟨M,.nilsl,?_,GrowL.refl _,.inl ⟨rfl,rfl⟩,fun _ => rfl⟩
  refine acall_mk (n:=27) (fv:=fnOf Tryz.f38) rfl rfl (by simp) (by decide) ?_
  refine AWX.seq (AWX.region (AOX.q hG rfl (st_as rfl) rfl (AOX.nil ?_)))
  refine AWX.seq (AWX.seq (AWX.region (AOX.q hG rfl (st_mv rfl) rfl (AOX.q hG rfl (st_bin rfl rfl (b_lssF (by omega))) rfl (AOX.nil (AWX.cf rfl (AWX.skip ?_)))))))
  refine AWX.seq (AWX.seq (AWX.region (AOX.q hG rfl (st_mv rfl) rfl (AOX.q hG rfl (st_mv rfl) rfl (AOX.q hG rfl (st_capnil sl22 rfl) rfl (AOX.q hG rfl (st_mv rfl) rfl (AOX.q hG rfl (st_lennil sl22 rfl) rfl (AOX.q hG rfl (st_bin rfl rfl (b_sub (n:=0) (r:=0) rfl (by omega))) rfl (AOX.q hG rfl (st_bin rfl rfl (b_sub (n:=0) (r:=0) rfl (by omega))) rfl (AOX.q hG rfl (st_as rfl) rfl (AOX.nil ?_)))))))))))
  refine AWX.seq (AWX.region (AOX.q hG rfl (st_mv rfl) rfl (AOX.q hG rfl (st_bin rfl rfl (b_gtrF (by omega))) rfl (AOX.nil (AWX.cf rfl (AWX.skip ?_))))))
  refine AWX.seq (AWX.region (AOX.q hG rfl (st_mv rfl) rfl (AOX.q hG rfl (st_as rfl) rfl (AOX.nil (AWX.fin rfl rfl)))))
 ·have hb:(M ++ [Blk.own (List.replicate n (V.int .u8 0)) 1])[M.length]? = some (.own (List.replicate n (.int .u8 0)) 1):=app_last
  refine ⟨M ++ [.own (List.replicate n (.int .u8 0)) 1],.sl M.length 0 0 none,?_,GrowL.one _ _ _,.inr ⟨M.length,_,Nat.le_refl _,rfl,hb,rfl,by simp⟩,fun e => by cases e⟩
  refine acall_mk (n:=27) (fv:=fnOf Tryz.f38) rfl rfl (by simp) (by decide) ?_
  refine AWX.seq (AWX.region (AOX.q hG rfl (st_as rfl) rfl (AOX.nil ?_)))
  refine AWX.seq (AWX.seq (AWX.region (AOX.q hG rfl (st_mv rfl) rfl (AOX.q hG rfl (st_bin rfl rfl (b_lssF (by omega))) rfl (AOX.nil (AWX.cf rfl (AWX.skip ?_)))))))
  refine AWX.seq (AWX.seq (AWX.region (AOX.q hG rfl (st_mv rfl) rfl (AOX.q hG rfl (st_mv rfl) rfl (AOX.q hG rfl (st_capnil sl22 rfl) rfl (AOX.q hG rfl (st_mv rfl) rfl (AOX.q hG rfl (st_lennil sl22 rfl) rfl (AOX.q hG rfl (st_bin rfl rfl (b_sub (n:=0) (r:=0) rfl (by omega))) rfl (AOX.q hG rfl (st_bin rfl rfl (b_sub (n:=0) (r:=n) rfl (by omega))) rfl (AOX.q hG rfl (st_as rfl) rfl (AOX.nil ?_)))))))))))
  refine AWX.seq (AWX.region (AOX.q hG rfl (st_mv rfl) rfl (AOX.q hG rfl (st_bin rfl rfl (b_gtrT (by omega))) rfl (AOX.nil (AWX.ct rfl ?_)))))
  refine AWX.region (AOX.q hG rfl (st_mv rfl) rfl (AOX.q hG rfl (st_mv rfl) rfl (AOX.q hG rfl (st_capnil sl22 rfl) rfl (AOX.q hG rfl (st_slnil sl22 rfl rfl) rfl (AOX.q hG rfl (st_mv rfl) rfl (AOX.qv hG rfl (st_apn el22 hn (by omega) rfl rfl) rfl (AOX.q hG rfl (st_mv rfl) rfl (AOX.q hG rfl (st_lennil sl22 rfl) rfl (AOX.q hG rfl (st_slT (i:=0) sl22 rfl rfl (by omega) (by show 0 + n ≤ known _ _; rw [known_own hb]; simp)) rfl (AOX.q hG rfl (st_as rfl) rfl (AOX.nil ?_)))))))))))
  refine AWX.seq (AWX.region (AOX.q hG rfl (st_mv rfl) rfl (AOX.q hG rfl (st_as rfl) rfl (AOX.nil (AWX.fin rfl rfl)))))
theorem concat_call (hG:GOK G) {b:Nat} {lim:Option Nat} {v1 v2:V} {xs ys:List Int} (hr:rd M b 0 2 = some [v1,v2]) (h1:IsS M v1 xs) (h2:IsS M v2 ys) (hn:xs.length + ys.length ≤ 100000) :
  ∃ (M2:Mem) (v:V),ACall Tryz.prog G 23 [.sl b 0 2 lim] M v M2 ∧ GrowL M M2 [] ∧ IsS M2 v (xs ++ ys) ∧ ∀ b o n lim,v = .sl b o n lim → M.length ≤ b:=by
 obtain ⟨M1,vg,hc,hM1,hg,hg0⟩:=grow_call (M:=M) (n:=xs.length + ys.length) hG (by omega)
 obtain ⟨va,M2,ha,hga,hM2,hn2⟩:=hg.app (ys:=xs) hM1 (by simp; omega) (fun e => List.eq_nil_of_length_eq_zero (by have:=hg0 e; omega))
 rw [List.nil_append] at hga
 obtain ⟨vb,M3,hb,hgb,hM3,_⟩:=hga.app (ys:=ys) hM2 (by omega) (fun e => by
  rcases hn2 with h | h
  ·exact List.eq_nil_of_length_eq_zero (by have:=hg0 h; omega)
  ·exact absurd e h)
 refine ⟨M3,vb,?_,hM3,hgb.is,fun b o n lim e => by
  rcases hgb with ⟨h,_⟩ | ⟨b',cells,h1,h2,_⟩
  ·rw [h] at e; cases e
  ·rw [h2] at e; injection e with e; omega⟩
 have r1:rd M b (0 + 0) 1 = some [v1]:=rd_one hr rfl
 have r2:rd M b (0 + 1) 1 = some [v2]:=rd_one hr rfl
 refine acall_mk (n:=36) (fv:=fnOf Tryz.f23) rfl rfl (by simp) (by decide) ?_
 refine AWX.seq (AWX.region (AOX.q hG rfl (st_as rfl) rfl (AOX.nil ?_)))
 refine AWX.seq (AWX.region (AOX.q hG rfl (st_as rfl) rfl (AOX.nil ?_)))
 refine AWX.seq (AWX.seq (AWX.region (AOX.q hG rfl (st_mv rfl) rfl (AOX.q hG rfl (st_len sl36 rfl) rfl (AOX.q hG rfl (st_mv rfl) rfl (AOX.nil (AWX.block (AWX.loop ?_))))))))
 refine LX.step (AWX.seq (AWX.region (AOX.q hG rfl (st_bin rfl rfl (b_lssT (by omega))) rfl (AOX.nil ?_))))
 refine AWX.seq (AWX.ct rfl (AWX.skip ?_))
 refine AWX.seq (AWX.block (AWX.seq (AWX.region (AOX.q hG rfl (st_ix (i:=0) sl36 rfl rfl (by omega)) rfl (AOX.q hG rfl (st_ld one22 rfl r1) rfl (AOX.q hG rfl (st_as rfl) rfl (AOX.nil ?_)))))))
 refine AWX.seq (AWX.region (AOX.q hG rfl (st_mv rfl) rfl (AOX.q hG rfl (st_mv rfl) rfl (AOX.q hG rfl (st_lenS sl22 h1 rfl) rfl (AOX.q hG rfl (st_bin rfl rfl (b_add (m:=0) (r:=xs.length) (by omega) (by omega))) rfl (AOX.q hG rfl (st_as rfl) rfl (AOX.nil ?_)))))))
 refine AWX.seq (AWX.region (AOX.q hG rfl (st_mv rfl) rfl (AOX.q hG rfl (st_bin rfl rfl (b_lssF (by omega))) rfl (AOX.nil (AWX.cf rfl (AWX.skip ?_))))))
 refine AWX.region (AOX.q hG rfl (st_bin rfl rfl (b_add (m:=0) (n:=1) (r:=1) rfl (by omega))) rfl (AOX.q hG rfl (st_mv rfl) rfl (AOX.nil ?_)))
 refine LX.step (AWX.seq (AWX.region (AOX.q hG rfl (st_bin rfl rfl (b_lssT (by omega))) rfl (AOX.nil ?_))))
 refine AWX.seq (AWX.ct rfl (AWX.skip ?_))
 refine AWX.seq (AWX.block (AWX.seq (AWX.region (AOX.q hG rfl (st_ix (i:=1) sl36 rfl rfl (by omega)) rfl (AOX.q hG rfl (st_ld one22 rfl r2) rfl (AOX.q hG rfl (st_as rfl) rfl (AOX.nil ?_)))))))
 refine AWX.seq (AWX.region (AOX.q hG rfl (st_mv rfl) rfl (AOX.q hG rfl (st_mv rfl) rfl (AOX.q hG rfl (st_lenS sl22 h2 rfl) rfl (AOX.q hG rfl (st_bin rfl rfl (b_add (r:=xs.length + ys.length) rfl (by omega))) rfl (AOX.q hG rfl (st_as rfl) rfl (AOX.nil ?_)))))))
 refine AWX.seq (AWX.region (AOX.q hG rfl (st_mv rfl) rfl (AOX.q hG rfl (st_bin rfl rfl (b_lssF (by omega))) rfl (AOX.nil (AWX.cf rfl (AWX.skip ?_))))))
 refine AWX.region (AOX.q hG rfl (st_bin rfl rfl (b_add (m:=1) (n:=1) (r:=2) rfl (by omega))) rfl (AOX.q hG rfl (st_mv rfl) rfl (AOX.nil ?_)))
 refine LX.step (AWX.seq (AWX.region (AOX.q hG rfl (st_bin rfl rfl (b_lssF (by omega))) rfl (AOX.nil ?_))))
 refine AWX.seq (AWX.cf rfl (AWX.exit ?_))
 refine AWX.seq (AWX.region (AOX.q hG rfl (st_mv rfl) rfl (AOX.qc hG rfl (st_call rfl rfl) hc rfl (AOX.q hG rfl (st_as rfl) rfl (AOX.nil ?_)))))
 have r1':=rd_grow hM1 r1 (by simp)
 have r2':=rd_grow hM2 r2 (by simp)
 refine AWX.seq (AWX.seq (AWX.region (AOX.q hG rfl (st_mv rfl) rfl (AOX.q hG rfl (st_len sl36 rfl) rfl (AOX.q hG rfl (st_mv rfl) rfl (AOX.nil (AWX.block (AWX.loop ?_))))))))
 refine LX.step (AWX.seq (AWX.region (AOX.q hG rfl (st_bin rfl rfl (b_lssT (by omega))) rfl (AOX.nil ?_))))
 refine AWX.seq (AWX.ct rfl (AWX.skip ?_))
 refine AWX.seq (AWX.block (AWX.seq (AWX.region (AOX.q hG rfl (st_ix (i:=0) sl36 rfl rfl (by omega)) rfl (AOX.q hG rfl (st_ld one22 rfl r1') rfl (AOX.q hG rfl (st_as rfl) rfl (AOX.nil ?_)))))))
 refine AWX.region (AOX.q hG rfl (st_mv rfl) rfl (AOX.q hG rfl (st_mv rfl) rfl (AOX.qv hG rfl (st_ap el22 rfl rfl (h1.grow hM1).news ha) rfl (AOX.q hG rfl (st_as rfl) rfl (AOX.nil ?_)))))
 refine AWX.region (AOX.q hG rfl (st_bin rfl rfl (b_add (m:=0) (n:=1) (r:=1) rfl (by omega))) rfl (AOX.q hG rfl (st_mv rfl) rfl (AOX.nil ?_)))
 refine LX.step (AWX.seq (AWX.region (AOX.q hG rfl (st_bin rfl rfl (b_lssT (by omega))) rfl (AOX.nil ?_))))
 refine AWX.seq (AWX.ct rfl (AWX.skip ?_))
 refine AWX.seq (AWX.block (AWX.seq (AWX.region (AOX.q hG rfl (st_ix (i:=1) sl36 rfl rfl (by omega)) rfl (AOX.q hG rfl (st_ld one22 rfl r2') rfl (AOX.q hG rfl (st_as rfl) rfl (AOX.nil ?_)))))))
 refine AWX.region (AOX.q hG rfl (st_mv rfl) rfl (AOX.q hG rfl (st_mv rfl) rfl (AOX.qv hG rfl (st_ap el22 rfl rfl (h2.grow hM2).news hb) rfl (AOX.q hG rfl (st_as rfl) rfl (AOX.nil ?_)))))
 refine AWX.region (AOX.q hG rfl (st_bin rfl rfl (b_add (m:=1) (n:=1) (r:=2) rfl (by omega))) rfl (AOX.q hG rfl (st_mv rfl) rfl (AOX.nil ?_)))
 refine LX.step (AWX.seq (AWX.region (AOX.q hG rfl (st_bin rfl rfl (b_lssF (by omega))) rfl (AOX.nil ?_))))
 refine AWX.seq (AWX.cf rfl (AWX.exit ?_))
 refine AWX.seq (AWX.region (AOX.q hG rfl (st_mv rfl) rfl (AOX.q hG rfl (st_as rfl) rfl (AOX.nil (AWX.fin rfl rfl)))))
def madeL (k n:Nat):List Int:=if k = 1 then List.replicate n (n:Int) else 128 :: List.replicate (n - 1) 0
def mdChk (k n:Nat):Bool:=match FN noX tyF fn noS 6 37 [.int .i64 k,.int .i64 n] [] with
 | some (.sl 0 0 m (some c),[.own cs 0],_) => (Nat.beq m n && Nat.beq c n) && eqVs cs (u8s' (madeL k n))
 | _ => false
theorem md_ok:(List.range 16).all (fun n => mdChk 1 (n + 1) && mdChk 2 (n + 1)) = true:=by kernel_rfl
theorem made_len {k n:Nat} (hk:k = 1 ∨ k = 2) (hn:1 ≤ n):(madeL k n).length = n:=by
 unfold madeL
 rcases hk with rfl | rfl
 ·simp
 ·simp; omega
theorem made_in {k n:Nat} (hn:n ≤ 16):Bytes (madeL k n):=by
 unfold madeL
 intro m hm
 split at hm
 ·rw [(List.mem_replicate.1 hm).2]; omega
 ·rcases List.mem_cons.1 hm with rfl | h
  ·omega
  ·rw [(List.mem_replicate.1 h).2]; omega
theorem pmade_call (hG:GOK G) {k n:Nat} (hk:k = 1 ∨ k = 2) (h1:1 ≤ n) (h2:n ≤ 16):ACall Tryz.prog G 37 [.int .i64 k,.int .i64 n] M (.sl M.length 0 n (some n)) (M ++ [.own (u8s' (madeL k n)) 0]):=by
 have h:=List.all_eq_true.1 md_ok (n - 1) (List.mem_range.2 (by omega))
 rw [show n - 1 + 1 = n by omega,Bool.and_eq_true] at h
 have hc:mdChk k n = true:=by
  rcases hk with rfl | rfl
  ·exact h.1
  ·exact h.2
 unfold mdChk at hc
 split at hc
 ·rename_i m c cs ch hf
  simp only [Bool.and_eq_true] at hc
  have e1:=Nat.eq_of_beq_eq_true hc.1.1
  have e2:=Nat.eq_of_beq_eq_true hc.1.2
  have e3:=eqVs_iff hc.2
  subst e1 e2 e3
  exact lit_calln hG (bl:=[0]) hf (by simp [Bd.subs,Bd.sub]) (fun i j b hi hj => by
   have h1:=(List.getElem?_eq_some_iff.1 hi).1
   have h2:=(List.getElem?_eq_some_iff.1 hj).1
   simp only [List.length_singleton] at h1 h2
   omega) (by simp [rep,idxOf]) (by
   have:reps [] [0] M.length (u8s' (madeL k c)) = some (u8s' (madeL k c)):=reps_ints _
   simp only [news,List.getElem?_cons_zero,this,Option.map_some])
 ·cases hc
theorem tell_call (hG:GOK G) {k:Nat} (hk:k = 1 ∨ k = 2):ACall Tryz.prog G 35 [.int .i64 k] M (.bool true) M:=by
 have h:∀ k:Nat,(k = 1 ∨ k = 2) → FN noX tyF fn noS 4 35 [.int .i64 k] [] = some (.bool true,[],[]):=by
  rintro k (rfl | rfl) <;> kernel_rfl
 exact lit_call hG (h k hk) (by simp [Bd.subs,Bd.sub]) (fun base => by simp [rep]) M
theorem sized_call (hG:GOK G) {s:Nat} (hs:s = 8 ∨ s = 16):ACall Tryz.prog G 36 [.int .i64 s] M (.bool true) M:=by
 have h:∀ s:Nat,(s = 8 ∨ s = 16) → FN noX tyF fn noS 4 36 [.int .i64 s] [] = some (.bool true,[],[]):=by
  rintro s (rfl | rfl) <;> kernel_rfl
 exact lit_call hG (h s hs) (by simp [Bd.subs,Bd.sub]) (fun base => by simp [rep]) M
theorem IsS.cells {v:V} {xs:List Int} (h:IsS M v xs):cellsOf v = [v] ∧ v.one = true:=by
 rcases h with ⟨rfl,_⟩ | ⟨_,_,_,rfl,_⟩ <;> exact ⟨rfl,rfl⟩
theorem padd_call (hG:GOK G) {k s:Nat} (hk:k = 1 ∨ k = 2) (hs:s = 8 ∨ s = 16) {v:V} {xs:List Int} (h:IsS M v xs) (hx:xs.length < s) :
  ∃ (M2:Mem) (v2:V),ACall Tryz.prog G 22 [.int .i64 k,.int .i64 s,v] M (.tup [v2,.int .i64 0]) M2 ∧ GrowL M M2 [] ∧ IsS M2 v2 (xs ++ madeL k (s - xs.length)):=by
 have hm:=made_len (n:=s - xs.length) hk (by omega)
 have g1:GrowL M (M ++ [.own (u8s' (madeL k (s - xs.length))) 0]) []:=GrowL.one _ _ _
 have hp:IsS (M ++ [.own (u8s' (madeL k (s - xs.length))) 0]) (.sl M.length 0 (s - xs.length) (some (s - xs.length))) (madeL k (s - xs.length)):=by
  have:=IsS.own (app_last (M:=M) (k:=.own (u8s' (madeL k (s - xs.length))) 0)) (c:=s - xs.length) (by omega)
  rwa [hm] at this
 have hmc:=pmade_call (M:=M) (n:=s - xs.length) hG hk (by omega) (by omega)
 have h1:=h.grow g1
 generalize M ++ [Blk.own (u8s' (madeL k (s - xs.length))) 0] = M1 at g1 hp hmc h1
 have g2:GrowL M1 (M1 ++ [.own [v,.sl M.length 0 (s - xs.length) (some (s - xs.length))] 0]) []:=GrowL.one _ _ _
 obtain ⟨M3,v3,hc,hM3,h3,_⟩:=concat_call (b:=M1.length) (lim:=some 2) hG (rd_own0 app_last rfl) (h1.grow g2) (hp.grow g2) (by rw [hm]; omega)
 refine ⟨M3,v3,?_,(g1.tr g2).tr hM3,h3⟩
 refine acall_mk (n:=29) (fv:=fnOf Tryz.f22) rfl rfl (by simp) (by decide) ?_
 refine AWX.seq (AWX.region (AOX.q hG rfl (st_as rfl) rfl (AOX.q hG rfl (st_as rfl) rfl (AOX.nil ?_))))
 refine AWX.seq (AWX.block (AWX.seq (AWX.region (AOX.q hG rfl (st_mv rfl) rfl (AOX.qc hG rfl (st_call rfl rfl) (tell_call hG hk) rfl (AOX.q hG rfl (st_not rfl) rfl (AOX.q hG rfl (st_as rfl) rfl (AOX.nil (AWX.cf rfl ?_)))))))))
 refine AWX.seq (AWX.seq (AWX.region (AOX.q hG rfl (st_mv rfl) rfl (AOX.qc hG rfl (st_call rfl rfl) (sized_call hG hs) rfl (AOX.q hG rfl (st_not rfl) rfl (AOX.q hG rfl (st_as rfl) rfl (AOX.nil (AWX.cf rfl ?_))))))))
 refine AWX.region (AOX.q hG rfl (st_mv rfl) rfl (AOX.q hG rfl (st_lenS sl22 h rfl) rfl (AOX.q hG rfl (st_mv rfl) rfl (AOX.q hG rfl (st_bin rfl rfl (b_geqF (by omega))) rfl (AOX.q hG rfl (st_as rfl) rfl (AOX.nil (AWX.cf rfl (AWX.skip ?_))))))))
 refine AWX.seq (AWX.region (AOX.q hG rfl (st_mv rfl) rfl (AOX.q hG rfl (st_mv rfl) rfl (AOX.q hG rfl (st_mv rfl) rfl (AOX.q hG rfl (st_mv rfl) rfl (AOX.q hG rfl (st_lenS sl22 h rfl) rfl (AOX.q hG rfl (st_bin rfl rfl (b_sub (r:=s - xs.length) (by omega) (by omega))) rfl (AOX.qc hG rfl (st_call rfl rfl) hmc rfl (AOX.qv hG rfl (st_bs2 el36 rfl rfl h.cells.1 rfl) rfl (AOX.qc hG rfl (st_call rfl rfl) hc rfl (AOX.q hG rfl (st_as rfl) rfl (AOX.q hG rfl (st_as rfl) rfl (AOX.nil (AWX.fin rfl rfl))))))))))))))
end
end
end
section
open Go.Proofs
noncomputable section
def szOf (t:Nat):Nat:=if t = 6 ∨ t = 7 then 16 else 8
theorem szOf_in (t:Nat):szOf t = 8 ∨ szOf t = 16:=by unfold szOf; split <;> simp
section
variable {G:GF} {M:Mem}
theorem size11 (hG:GOK G) {t:Nat} (ht:1 ≤ t ∧ t ≤ 8) (M:Mem):ACall Tryz.prog G 11 [.int .i64 t] M (.int .i64 (szOf t)) M:=by
 have h:∀ t:Nat,1 ≤ t ∧ t ≤ 8 → FN noX tyF fn noS 4 11 [.int .i64 t] [] = some (.int .i64 (szOf t),[],[]):=fun t ht => by
  obtain rfl | rfl | rfl | rfl | rfl | rfl | rfl | rfl:t = 1 ∨ t = 2 ∨ t = 3 ∨ t = 4 ∨ t = 5 ∨ t = 6 ∨ t = 7 ∨ t = 8:=by omega
  all_goals kernel_rfl
 exact lit_call hG (h t ht) (by simp [Bd.subs,Bd.sub]) (fun base => by simp [rep]) M
theorem size16 (hG:GOK G) {t:Nat} (ht:1 ≤ t ∧ t ≤ 8) (M:Mem):ACall Tryz.prog G 16 [.int .i64 t] M (.int .i64 (szOf t)) M:=by
 have h:∀ t:Nat,1 ≤ t ∧ t ≤ 8 → FN noX tyF fn noS 4 16 [.int .i64 t] [] = some (.int .i64 (szOf t),[],[]):=fun t ht => by
  obtain rfl | rfl | rfl | rfl | rfl | rfl | rfl | rfl:t = 1 ∨ t = 2 ∨ t = 3 ∨ t = 4 ∨ t = 5 ∨ t = 6 ∨ t = 7 ∨ t = 8:=by omega
  all_goals kernel_rfl
 exact lit_call hG (h t ht) (by simp [Bd.subs,Bd.sub]) (fun base => by simp [rep]) M
theorem kind_call (hG:GOK G) {m:Nat} (hm:m = 1 ∨ m = 2) (M:Mem):ACall Tryz.prog G 18 [.int .i64 m] M (.int .i64 (1:Nat)) M:=by
 have h:∀ m:Nat,m = 1 ∨ m = 2 → FN noX tyF fn noS 4 18 [.int .i64 m] [] = some (.int .i64 (1:Nat),[],[]):=by
  rintro m (rfl | rfl) <;> kernel_rfl
 exact lit_call hG (h m hm) (by simp [Bd.subs,Bd.sub]) (fun base => by simp [rep]) M
theorem csize_call (hG:GOK G) {t p g:Nat} {cs:List V} (ht:1 ≤ t ∧ t ≤ 8) (hp:M[p]? = some (.own (.int .i64 t :: cs) g)):ACall Tryz.prog G 21 [.ptr p 0] M (.int .i64 (szOf t)) M:=by
 have hl:rd M p 0 1 = some [.int .i64 t]:=by rw [rd_own hp (by simp)]; rfl
 refine acall_mk (n:=8) (fv:=fnOf Tryz.f21) rfl rfl (by simp) (by decide) ?_
 refine AWX.seq (AWX.region (AOX.q hG rfl (st_as rfl) rfl (AOX.nil ?_)))
 refine AWX.seq (AWX.region (AOX.q hG rfl (st_mv rfl) rfl (AOX.q hG rfl (st_nil rfl) rfl (AOX.q hG rfl (st_fa rfl rfl) rfl (AOX.q hG rfl (st_ld one3 rfl hl) rfl (AOX.qc hG rfl (st_call rfl rfl) (size11 hG ht M) rfl (AOX.q hG rfl (st_as rfl) rfl (AOX.nil (AWX.fin rfl rfl)))))))))
def MoB (p:Nat) (mode:Nat) (back:Bool) (v:V):Blk:=.own [.ptr p 0,.int .i64 mode,.bool back,v,.nilsl,.nilsl] 0
theorem one41:OneT 41:=⟨_,rfl,rfl,rfl⟩
section
variable {p q mode:Nat} {back:Bool} {v:V}
theorem MoB.r0 (h:M[q]? = some (MoB p mode back v)):rd M q (0 + 0) 1 = some [.ptr p 0]:=by rw [rd_own h (by simp)]; rfl
theorem MoB.r1 (h:M[q]? = some (MoB p mode back v)):rd M q (0 + 1) 1 = some [.int .i64 mode]:=by rw [rd_own h (by simp)]; rfl
theorem MoB.r2 (h:M[q]? = some (MoB p mode back v)):rd M q (0 + 2) 1 = some [.bool back]:=by rw [rd_own h (by simp)]; rfl
theorem MoB.r3 (h:M[q]? = some (MoB p mode back v)):rd M q (0 + 3) 1 = some [v]:=by rw [rd_own h (by simp)]; rfl
theorem mnew_call (hG:GOK G) {t g:Nat} {cs:List V} {xs:List Int} (ht:1 ≤ t ∧ t ≤ 8) (hp:M[p]? = some (.own (.int .i64 t :: cs) g)) (hm:mode = 1 ∨ mode = 2) (hv:IsS M v xs) (hx:xs.length = if mode = 1 then 0 else szOf t) :
  ∃ (M2:Mem) (q:Nat) (v2:V),ACall Tryz.prog G 20 [.ptr p 0,.int .i64 mode,.bool back,v] M (.tup [.ptr q 0,.int .i64 0]) M2 ∧ GrowL M M2 [] ∧ M.length ≤ q ∧ M2[q]? = some (MoB p mode back v2) ∧ IsS M2 v2 xs:=by
 have hsz:=szOf_in t
 obtain ⟨M1,v2,hc,hM1,h1,_⟩:=clone_call hG (by split at hx <;> omega) hv.r
 refine ⟨M1 ++ [MoB p mode back v2],M1.length,v2,?_,hM1.tr (GrowL.one _ _ _),hM1.le,app_last,h1.grow (GrowL.one _ _ _)⟩
 refine acall_mk (n:=33) (fv:=fnOf Tryz.f20) rfl rfl (by simp) (by decide) ?_
 have hbox:∀ {ρ:Operand → Option V} {M:Mem} {a b c d:Operand},ρ a = some (.ptr p 0) → ρ b = some (.int .i64 mode) → ρ c = some (.bool back) → ρ d = some v2 → astep noX tyF ρ M (.build 63 #[(0,a),(1,b),(2,c),(3,d)]) = some (.pure (.agg [.ptr p 0,.int .i64 mode,.bool back,v2,.nilsl,.nilsl])):=fun ha hb hc hd => by
  simp only [astep,aBuild,evp,ha,hb,hc,hd,Option.bind_some,Option.map_some]
  rcases h1 with ⟨rfl,_⟩ | ⟨_,_,_,rfl,_⟩ <;> kernel_rfl
 have hcell:cellsOf (.agg [.ptr p 0,.int .i64 mode,.bool back,v2,.nilsl,.nilsl]) = [.ptr p 0,.int .i64 mode,.bool back,v2,.nilsl,.nilsl]:=rfl
 rcases hm with rfl | rfl
 ·rw [if_pos rfl] at hx
  refine AWX.seq (AWX.region (AOX.q hG rfl (st_as rfl) rfl (AOX.q hG rfl (st_as rfl) rfl (AOX.nil ?_))))
  refine AWX.seq (AWX.region (AOX.q hG rfl (st_mv rfl) rfl (AOX.qc hG rfl (st_call rfl rfl) (csize_call hG ht hp) rfl (AOX.q hG rfl (st_as rfl) rfl (AOX.nil ?_)))))
  refine AWX.seq (AWX.seq (AWX.region (AOX.q hG rfl (st_mv rfl) rfl (AOX.nil ?_))))
  refine AWX.block (AWX.seq (AWX.block (AWX.seq (AWX.block (AWX.seq (AWX.seq (AWX.seq (AWX.region (AOX.q hG rfl (st_bin rfl rfl (b_eqlT (by omega))) rfl (AOX.q hG rfl (st_as rfl) rfl (AOX.nil ?_)))))))))))
  refine AWX.ct rfl (AWX.exit ?_)
  refine AWX.region (AOX.q hG rfl (st_as rfl) rfl (AOX.nil ?_))
  refine AWX.seq (AWX.seq (AWX.seq (AWX.region (AOX.q hG rfl (st_mv rfl) rfl (AOX.q hG rfl (st_lenS sl22 hv rfl) rfl (AOX.q hG rfl (st_mv rfl) rfl (AOX.q hG rfl (st_bin rfl rfl (b_neqF (by omega))) rfl (AOX.nil ?_))))))))
  refine AWX.cf rfl (AWX.skip ?_)
  refine AWX.seq (AWX.region (AOX.q hG rfl (st_mv rfl) rfl (AOX.q hG rfl (st_mv rfl) rfl (AOX.q hG rfl (st_mv rfl) rfl (AOX.q hG rfl (st_mv rfl) rfl (AOX.qc hG rfl (st_call rfl rfl) (hc) rfl (AOX.q hG rfl (hbox rfl rfl rfl rfl) rfl (AOX.qv hG rfl (st_box rfl) rfl (AOX.q hG rfl (st_as rfl) rfl (AOX.q hG rfl (st_as rfl) rfl (AOX.nil ?_)))))))))))
  refine AWX.ret ⟨.inr rfl,_,_,rfl,rfl,rfl⟩
 ·rw [if_neg (by omega)] at hx
  refine AWX.seq (AWX.region (AOX.q hG rfl (st_as rfl) rfl (AOX.q hG rfl (st_as rfl) rfl (AOX.nil ?_))))
  refine AWX.seq (AWX.region (AOX.q hG rfl (st_mv rfl) rfl (AOX.qc hG rfl (st_call rfl rfl) (csize_call hG ht hp) rfl (AOX.q hG rfl (st_as rfl) rfl (AOX.nil ?_)))))
  refine AWX.seq (AWX.seq (AWX.region (AOX.q hG rfl (st_mv rfl) rfl (AOX.nil ?_))))
  refine AWX.block (AWX.seq (AWX.block (AWX.seq (AWX.block (AWX.seq (AWX.seq (AWX.seq (AWX.region (AOX.q hG rfl (st_bin rfl rfl (b_eqlF (by omega))) rfl (AOX.q hG rfl (st_as rfl) rfl (AOX.nil ?_)))))))))))
  refine AWX.cf rfl (AWX.skip ?_)
  refine AWX.seq (AWX.seq (AWX.region (AOX.q hG rfl (st_bin rfl rfl (b_eqlT (by omega))) rfl (AOX.q hG rfl (st_as rfl) rfl (AOX.nil ?_)))))
  refine AWX.ct rfl (AWX.skip ?_)
  refine AWX.ct rfl (AWX.exit ?_)
  refine AWX.seq (AWX.seq (AWX.seq (AWX.region (AOX.q hG rfl (st_mv rfl) rfl (AOX.q hG rfl (st_lenS sl22 hv rfl) rfl (AOX.q hG rfl (st_mv rfl) rfl (AOX.q hG rfl (st_bin rfl rfl (b_neqF (by omega))) rfl (AOX.nil ?_))))))))
  refine AWX.cf rfl (AWX.skip ?_)
  refine AWX.seq (AWX.region (AOX.q hG rfl (st_mv rfl) rfl (AOX.q hG rfl (st_mv rfl) rfl (AOX.q hG rfl (st_mv rfl) rfl (AOX.q hG rfl (st_mv rfl) rfl (AOX.qc hG rfl (st_call rfl rfl) (hc) rfl (AOX.q hG rfl (hbox rfl rfl rfl rfl) rfl (AOX.qv hG rfl (st_box rfl) rfl (AOX.q hG rfl (st_as rfl) rfl (AOX.q hG rfl (st_as rfl) rfl (AOX.nil ?_)))))))))))
  refine AWX.ret ⟨.inr rfl,_,_,rfl,rfl,rfl⟩
theorem grain_call (hG:GOK G) {t g:Nat} {cs:List V} (ht:1 ≤ t ∧ t ≤ 8) (hp:M[p]? = some (.own (.int .i64 t :: cs) g)) (hm:mode = 1 ∨ mode = 2) (hb:M[q]? = some (MoB p mode back v)):ACall Tryz.prog G 39 [.ptr q 0] M (.int .i64 (szOf t)) M:=by
 refine acall_mk (n:=16) (fv:=fnOf Tryz.f39) rfl rfl (by simp) (by decide) ?_
 rcases hm with rfl | rfl
 ·refine AWX.seq (AWX.region (AOX.q hG rfl (st_as rfl) rfl (AOX.nil ?_)))
  refine AWX.seq (AWX.seq (AWX.region (AOX.q hG rfl (st_mv rfl) rfl (AOX.q hG rfl (st_nil rfl) rfl (AOX.q hG rfl (st_fa rfl rfl) rfl (AOX.q hG rfl (st_ld one3 rfl (MoB.r1 hb)) rfl (AOX.nil ?_)))))))
  refine AWX.block (AWX.seq (AWX.block (AWX.block (AWX.seq (AWX.seq (AWX.seq (AWX.region (AOX.q hG rfl (st_bin rfl rfl (b_eqlT (by omega))) rfl (AOX.q hG rfl (st_as rfl) rfl (AOX.nil ?_))))))))))
  refine AWX.ct rfl (AWX.exit ?_)
  refine AWX.seq (AWX.seq (AWX.region (AOX.q hG rfl (st_mv rfl) rfl (AOX.q hG rfl (st_nil rfl) rfl (AOX.q hG rfl (st_fa rfl rfl) rfl (AOX.q hG rfl (st_ld one41 rfl (MoB.r0 hb)) rfl (AOX.qc hG rfl (st_call rfl rfl) (csize_call hG ht hp) rfl (AOX.q hG rfl (st_as rfl) rfl (AOX.nil ?_)))))))))
  refine AWX.ret ⟨.inr rfl,_,_,rfl,rfl,rfl⟩
 ·refine AWX.seq (AWX.region (AOX.q hG rfl (st_as rfl) rfl (AOX.nil ?_)))
  refine AWX.seq (AWX.seq (AWX.region (AOX.q hG rfl (st_mv rfl) rfl (AOX.q hG rfl (st_nil rfl) rfl (AOX.q hG rfl (st_fa rfl rfl) rfl (AOX.q hG rfl (st_ld one3 rfl (MoB.r1 hb)) rfl (AOX.nil ?_)))))))
  refine AWX.block (AWX.seq (AWX.block (AWX.block (AWX.seq (AWX.seq (AWX.seq (AWX.region (AOX.q hG rfl (st_bin rfl rfl (b_eqlF (by omega))) rfl (AOX.q hG rfl (st_as rfl) rfl (AOX.nil ?_))))))))))
  refine AWX.cf rfl (AWX.skip ?_)
  refine AWX.seq (AWX.region (AOX.q hG rfl (st_bin rfl rfl (b_eqlT (by omega))) rfl (AOX.q hG rfl (st_as rfl) rfl (AOX.nil ?_))))
  refine AWX.ct rfl (AWX.exit ?_)
  refine AWX.seq (AWX.seq (AWX.region (AOX.q hG rfl (st_mv rfl) rfl (AOX.q hG rfl (st_nil rfl) rfl (AOX.q hG rfl (st_fa rfl rfl) rfl (AOX.q hG rfl (st_ld one41 rfl (MoB.r0 hb)) rfl (AOX.qc hG rfl (st_call rfl rfl) (csize_call hG ht hp) rfl (AOX.q hG rfl (st_as rfl) rfl (AOX.nil ?_)))))))))
  refine AWX.ret ⟨.inr rfl,_,_,rfl,rfl,rfl⟩
end
end
end
end
section
open Go.Proofs
noncomputable section
section
variable {G:GF} {M M':Mem} {T:List Nat} {t:Int} {s n p q mode:Nat} {back:Bool} {v v0:V} {E D:List Int → List Int} {xs:List Int}
theorem CiP.same (h:CiP G t s E D p n M) (hs:∀ i,i < n → M'[i]? = M[i]?) (hl:n ≤ M'.length):CiP G t s E D p n M':=by
 obtain ⟨cs,g,ht⟩:=h.tag
 exact ⟨⟨cs,g,by rw [hs _ h.lt]; exact ht⟩,hl,h.lt,fun M1 h1 => h.turn M1 fun i hi => (h1 i hi).trans (hs i hi)⟩
theorem GrowL.low (h:GrowL M M' T) (hT:∀ b ∈ T,n ≤ b) (hn:n ≤ M.length) {i:Nat} (hi:i < n):M'[i]? = M[i]?:=by
 by_cases e:M'[i]? = M[i]?
 ·exact e
 ·have:=hT i (h.same i (by omega) e); omega
theorem CiP.grow (h:CiP G t s E D p n M) (hM:GrowL M M' T) (hT:∀ b ∈ T,n ≤ b):CiP G t s E D p n M':=h.same (fun _ hi => hM.low hT h.le hi) (Nat.le_trans h.le hM.le)
theorem GrowL.t2 {M1 M2:Mem} (h:GrowL M M1 T) (h':GrowL M1 M2 T):GrowL M M2 T:=by
 refine ⟨Nat.le_trans h.le h'.le,fun b hb hne => ?_,fun b cs hb => h.ro b cs (h'.ro b cs hb),fun b cs hb => h'.keep b cs (h.keep b cs hb),h.own⟩
 by_cases e:M1[b]? = M[b]?
 ·exact h'.same b (Nat.lt_of_lt_of_le hb h.le) (by rw [e]; exact hne)
 ·exact h.same b hb e
theorem GrowL.w (h:GrowL M M' []) (hro:∀ b' ∈ T,∀ cs,M[b']? ≠ some (.ro cs)):GrowL M M' T:=⟨h.le,fun b hb hne => (by cases h.same b hb hne),h.ro,h.keep,hro⟩
theorem rd_far {b o k:Nat} {cs:List V} (hq:M[q]? = some (MoB p mode back v0)) (hr:rd M b o k = some cs) (hk:8 ≤ k):b ≠ q:=by
 rintro rfl
 unfold rd at hr
 rw [hq] at hr
 simp [MoB,Blk.cells] at hr
 omega
theorem IsS.keep (h:IsS M v xs) (hM:GrowL M M' [q]) (hq:M[q]? = some (MoB p mode back v0)) (hx:8 ≤ xs.length):IsS M' v xs:=by
 obtain ⟨b,o,lim,rfl,hr,hl⟩:=h.sl (by rintro rfl; simp at hx)
 have hne:b ∉ [q]:=by simpa using rd_far hq hr hx
 obtain ⟨k,hk,_⟩:=rd_row hr
 exact .inr ⟨b,o,lim,rfl,rd_grow hM hr hne,hl.grow hM (lt_of hk) hne⟩
theorem IsR.keep (h:IsR M v xs) (hM:GrowL M M' [q]) (hq:M[q]? = some (MoB p mode back v0)) (hx:8 ≤ xs.length):IsR M' v xs:=by
 rcases h with ⟨_,rfl⟩ | ⟨b,o,lim,rfl,hr⟩
 ·simp at hx
 ·exact .inr ⟨b,o,lim,rfl,rd_grow hM hr (by simpa using rd_far hq hr hx)⟩
def stepB (mode:Nat) (back:Bool) (E D:List Int → List Int) (c x:List Int):List Int × List Int :=
 if mode = 1 then (if back then D x else E x,c) else if back then (xorL (D x) c,x) else (E (xorL x c),E (xorL x c))
theorem stepB_T {c x:List Int}:stepB 2 true E D c x = (xorL (D x) c,x):=rfl
theorem stepB_F {c x:List Int}:stepB 2 false E D c x = (E (xorL x c),E (xorL x c)):=rfl
theorem block_call (hG:GOK G) (hci:CiP G t s E D p n M) (hE:EDok s E D) (hs:s = 8 ∨ s = 16) (hm:mode = 1 ∨ mode = 2) (hq:n ≤ q) (hb:M[q]? = some (MoB p mode back v)) {c x:List Int} (hv:IsS M v c) (hc:mode = 2 → c.length = s ∧ Bytes c)
  {b o:Nat} {lim:Option Nat} (hx:x.length = s) (hbx:Bytes x) (hr:rd M b o s = some (u8s' x)) (hl:LimP M b o s lim) :
  ∃ (M2:Mem) (w v2:V),ACall Tryz.prog G 41 [.ptr q 0,.sl b o s lim] M w M2 ∧ GrowL M M2 [q] ∧ M2[q]? = some (MoB p mode back v2) ∧ IsS M2 v2 (stepB mode back E D c x).2 ∧ IsR M2 w (stepB mode back E D c x).1 ∧ (v2 = v ∨ ∀ b o n lim,v2 = .sl b o n lim → M.length ≤ b):=by
 have hro:∀ b' ∈ [q],∀ cs,M[b']? ≠ some (.ro cs):=fun b' hb' cs => by
  simp only [List.mem_singleton] at hb'; subst hb'; rw [hb]; simp [MoB]
 rcases hm with rfl | rfl
 ·cases back with
  | true =>
   obtain ⟨M2,c2,o2,lim2,hcall,hM2,hr2⟩:=(hci.turn M fun _ _ => rfl).2 x b o lim hx hbx hr hl
   have hy:=(hE x hx hbx).2.1
   refine ⟨M2,.sl c2 o2 s lim2,v,?_,hM2.w hro,hM2.g0 hb,hv.grow hM2,.inr ⟨c2,o2,lim2,by simp [stepB,hy.1],by simp [stepB,hy.1,hr2]⟩,.inl rfl⟩
   refine acall_mk (n:=94) (fv:=fnOf Tryz.f41) rfl rfl (by simp) (by decide) ?_
   refine AWX.seq (AWX.region (AOX.q hG rfl (st_as rfl) rfl (AOX.nil ?_)))
   refine AWX.seq (AWX.region (AOX.q hG rfl (st_as rfl) rfl (AOX.nil ?_)))
   refine AWX.seq (AWX.block (AWX.seq (AWX.region (AOX.q hG rfl (st_mv rfl) rfl (AOX.q hG rfl (st_nil rfl) rfl (AOX.q hG rfl (st_fa rfl rfl) rfl (AOX.q hG rfl (st_ld one3 rfl (MoB.r1 hb)) rfl (AOX.q hG rfl (st_bin rfl rfl (b_eqlT rfl)) rfl (AOX.q hG rfl (st_mv rfl) rfl (AOX.qg hG rfl rfl (st_mv rfl) rfl (AOX.qg hG rfl rfl (st_nil rfl) rfl (AOX.qg hG rfl rfl (st_fa rfl rfl) rfl (AOX.qg hG rfl rfl (st_ld one4 rfl (MoB.r2 hb)) rfl (AOX.q hG rfl (st_pickT rfl rfl) rfl (AOX.q hG rfl (st_as rfl) rfl (AOX.nil ?_))))))))))))))))
   refine AWX.ct rfl (AWX.region (AOX.q hG rfl (st_mv rfl) rfl (AOX.q hG rfl (st_nil rfl) rfl (AOX.q hG rfl (st_fa rfl rfl) rfl (AOX.q hG rfl (st_ld one41 rfl (MoB.r0 hb)) rfl (AOX.q hG rfl (st_mv rfl) rfl (AOX.qc hG rfl (st_call rfl rfl) (hcall) rfl (AOX.q hG rfl (st_mv rfl) rfl (AOX.q hG rfl (st_ex rfl rfl) rfl (AOX.q hG rfl (st_ex rfl rfl) rfl (AOX.q hG rfl (st_as rfl) rfl (AOX.nil ?_))))))))))))
   refine AWX.seq (AWX.region (AOX.q hG rfl (st_mv rfl) rfl (AOX.q hG rfl (st_as rfl) rfl (AOX.nil ?_))))
   refine AWX.fin rfl rfl
  | false =>
   obtain ⟨M2,c2,o2,lim2,hcall,hM2,hr2⟩:=(hci.turn M fun _ _ => rfl).1 x b o lim hx hbx hr hl
   have hy:=(hE x hx hbx).1
   refine ⟨M2,.sl c2 o2 s lim2,v,?_,hM2.w hro,hM2.g0 hb,hv.grow hM2,.inr ⟨c2,o2,lim2,by simp [stepB,hy.1],by simp [stepB,hy.1,hr2]⟩,.inl rfl⟩
   refine acall_mk (n:=94) (fv:=fnOf Tryz.f41) rfl rfl (by simp) (by decide) ?_
   refine AWX.seq (AWX.region (AOX.q hG rfl (st_as rfl) rfl (AOX.nil ?_)))
   refine AWX.seq (AWX.region (AOX.q hG rfl (st_as rfl) rfl (AOX.nil ?_)))
   refine AWX.seq (AWX.block (AWX.seq (AWX.region (AOX.q hG rfl (st_mv rfl) rfl (AOX.q hG rfl (st_nil rfl) rfl (AOX.q hG rfl (st_fa rfl rfl) rfl (AOX.q hG rfl (st_ld one3 rfl (MoB.r1 hb)) rfl (AOX.q hG rfl (st_bin rfl rfl (b_eqlT rfl)) rfl (AOX.q hG rfl (st_mv rfl) rfl (AOX.qg hG rfl rfl (st_mv rfl) rfl (AOX.qg hG rfl rfl (st_nil rfl) rfl (AOX.qg hG rfl rfl (st_fa rfl rfl) rfl (AOX.qg hG rfl rfl (st_ld one4 rfl (MoB.r2 hb)) rfl (AOX.q hG rfl (st_pickT rfl rfl) rfl (AOX.q hG rfl (st_as rfl) rfl (AOX.nil ?_))))))))))))))))
   refine AWX.cf rfl (AWX.seq (AWX.region (AOX.q hG rfl (st_mv rfl) rfl (AOX.q hG rfl (st_nil rfl) rfl (AOX.q hG rfl (st_fa rfl rfl) rfl (AOX.q hG rfl (st_ld one3 rfl (MoB.r1 hb)) rfl (AOX.q hG rfl (st_bin rfl rfl (b_eqlT (by omega))) rfl (AOX.q hG rfl (st_as rfl) rfl (AOX.nil ?_)))))))))
   refine AWX.ct rfl (AWX.region (AOX.q hG rfl (st_mv rfl) rfl (AOX.q hG rfl (st_nil rfl) rfl (AOX.q hG rfl (st_fa rfl rfl) rfl (AOX.q hG rfl (st_ld one41 rfl (MoB.r0 hb)) rfl (AOX.q hG rfl (st_mv rfl) rfl (AOX.qc hG rfl (st_call rfl rfl) (hcall) rfl (AOX.q hG rfl (st_mv rfl) rfl (AOX.q hG rfl (st_ex rfl rfl) rfl (AOX.q hG rfl (st_ex rfl rfl) rfl (AOX.q hG rfl (st_as rfl) rfl (AOX.nil ?_))))))))))))
   refine AWX.seq (AWX.region (AOX.q hG rfl (st_mv rfl) rfl (AOX.q hG rfl (st_as rfl) rfl (AOX.nil ?_))))
   refine AWX.fin rfl rfl
 ·obtain ⟨hcl,hcb⟩:=hc rfl
  obtain ⟨cb,co,clim,rfl,hcr,hclim⟩:=hv.sl (by rintro rfl; simp at hcl; omega)
  rw [hcl] at hcr hb
  cases back with
  | true =>
   obtain ⟨M2,c2,o2,lim2,hcall,hM2,hr2⟩:=(hci.turn M fun _ _ => rfl).2 x b o lim hx hbx hr hl
   have hy:=(hE x hx hbx).2.1
   have hcr2:=rd_grow hM2 hcr (by simp)
   have hxc:=xor_call (lim:=lim2) (lim2:=clim) hG hy.1 hcl hy.2 hcb hr2 hcr2 (by omega)
   have hM3:=GrowL.one M2 (u8s' (xorL (D x) c)) 0
   have h3:(M2 ++ [Blk.own (u8s' (xorL (D x) c)) 0])[M2.length]? = some (.own (u8s' (xorL (D x) c)) 0):=app_last
   generalize M2 ++ [Blk.own (u8s' (xorL (D x) c)) 0] = M3 at hxc hM3 h3
   have hb2:=hM2.g0 hb
   have hb3:=hM3.g0 hb2
   have hxl:(xorL (D x) c).length = s:=by rw [xorL_len (hy.1.trans hcl.symm)]; exact hy.1
   obtain ⟨M4,v2,hcl4,hM4,h4,hfar⟩:=clone_call (v:=.sl b o s lim) (xs:=x) hG (by omega) (.inr ⟨b,o,lim,by rw [hx],by rw [hx]; exact rd_grow (hM2.tr hM3) hr (by simp)⟩)
   have hb4:=hM4.g0 hb3
   have hw:wr M4 q (0 + 3) [v2] = some (M4.set q (MoB p 2 true v2)):=wr_own hb4 (by simp) h4.cells.2
   have hg:GrowL M4 (M4.set q (MoB p 2 true v2)) [q]:=GrowL.ch hb4 (by simp [MoB]) (by simp [MoB])
   refine ⟨_,.sl M2.length 0 s (some s),v2,?_,((hM2.tr hM3).tr hM4).tl hg hro,set_get hb4,?_,?_,.inr fun b o n lim e => Nat.le_trans (hM2.tr hM3).le (hfar b o n lim e)⟩
   ·refine acall_mk (n:=94) (fv:=fnOf Tryz.f41) rfl rfl (by simp) (by decide) ?_
    refine AWX.seq (AWX.region (AOX.q hG rfl (st_as rfl) rfl (AOX.nil ?_)))
    refine AWX.seq (AWX.region (AOX.q hG rfl (st_as rfl) rfl (AOX.nil ?_)))
    refine AWX.seq (AWX.block (AWX.seq (AWX.region (AOX.q hG rfl (st_mv rfl) rfl (AOX.q hG rfl (st_nil rfl) rfl (AOX.q hG rfl (st_fa rfl rfl) rfl (AOX.q hG rfl (st_ld one3 rfl (MoB.r1 hb)) rfl (AOX.q hG rfl (st_bin rfl rfl (b_eqlF (by omega))) rfl (AOX.q hG rfl (st_mv rfl) rfl (AOX.qn rfl rfl rfl rfl (AOX.qn rfl rfl rfl rfl (AOX.qn rfl rfl rfl rfl (AOX.qn rfl rfl rfl rfl (AOX.q hG rfl (st_pickF rfl rfl) rfl (AOX.q hG rfl (st_as rfl) rfl (AOX.nil ?_))))))))))))))))
    refine AWX.cf rfl (AWX.seq (AWX.region (AOX.q hG rfl (st_mv rfl) rfl (AOX.q hG rfl (st_nil rfl) rfl (AOX.q hG rfl (st_fa rfl rfl) rfl (AOX.q hG rfl (st_ld one3 rfl (MoB.r1 hb)) rfl (AOX.q hG rfl (st_bin rfl rfl (b_eqlF (by omega))) rfl (AOX.q hG rfl (st_as rfl) rfl (AOX.nil ?_)))))))))
    refine AWX.cf rfl (AWX.seq (AWX.region (AOX.q hG rfl (st_mv rfl) rfl (AOX.q hG rfl (st_nil rfl) rfl (AOX.q hG rfl (st_fa rfl rfl) rfl (AOX.q hG rfl (st_ld one4 rfl (MoB.r2 hb)) rfl (AOX.q hG rfl (st_as rfl) rfl (AOX.nil ?_))))))))
    refine AWX.ct rfl (AWX.seq (AWX.region (AOX.q hG rfl (st_mv rfl) rfl (AOX.q hG rfl (st_nil rfl) rfl (AOX.q hG rfl (st_fa rfl rfl) rfl (AOX.q hG rfl (st_ld one41 rfl (MoB.r0 hb)) rfl (AOX.q hG rfl (st_mv rfl) rfl (AOX.qc hG rfl (st_call rfl rfl) (hcall) rfl (AOX.q hG rfl (st_mv rfl) rfl (AOX.q hG rfl (st_ex rfl rfl) rfl (AOX.q hG rfl (st_ex rfl rfl) rfl (AOX.q hG rfl (st_as rfl) rfl (AOX.nil ?_)))))))))))))
    refine AWX.seq (AWX.region (AOX.q hG rfl (st_mv rfl) rfl (AOX.q hG rfl (st_mv rfl) rfl (AOX.q hG rfl (st_nil rfl) rfl (AOX.q hG rfl (st_fa rfl rfl) rfl (AOX.q hG rfl (st_ld one22 rfl (MoB.r3 hb2)) rfl (AOX.qc hG rfl (st_call rfl rfl) (hxc) rfl (AOX.q hG rfl (st_mv rfl) rfl (AOX.q hG rfl (st_ex rfl rfl) rfl (AOX.q hG rfl (st_ex rfl rfl) rfl (AOX.q hG rfl (st_as rfl) rfl (AOX.nil ?_))))))))))))
    refine AWX.region (AOX.q hG rfl (st_mv rfl) rfl (AOX.q hG rfl (st_mv rfl) rfl (AOX.qc hG rfl (st_call rfl rfl) (hcl4) rfl (AOX.q hG rfl (st_nil rfl) rfl (AOX.q hG rfl (st_fa rfl rfl) rfl (AOX.qs hG rfl (st_st one22 rfl rfl h4.cells.1 hw) (AOX.nil ?_)))))))
    refine AWX.seq (AWX.region (AOX.q hG rfl (st_mv rfl) rfl (AOX.q hG rfl (st_as rfl) rfl (AOX.nil ?_))))
    refine AWX.fin rfl rfl
   ·rw [stepB_T]; exact h4.keep hg hb4 (show 8 ≤ x.length by omega)
   ·rw [stepB_T]; refine IsR.keep (xs:=xorL (D x) c) (.inr ⟨M2.length,0,some s,by rw [hxl],?_⟩) hg hb4 (by omega)
    show rd M4 M2.length 0 (xorL (D x) c).length = _
    exact rd_own0 (hM4.g0 h3) (by rw [u8s'_len])
  | false =>
   have hxc:=xor_call (lim:=lim) (lim2:=clim) hG hx hcl hbx hcb hr hcr (by omega)
   have hM2:=GrowL.one M (u8s' (xorL x c)) 0
   have h2:(M ++ [Blk.own (u8s' (xorL x c)) 0])[M.length]? = some (.own (u8s' (xorL x c)) 0):=app_last
   generalize M ++ [Blk.own (u8s' (xorL x c)) 0] = M2 at hxc hM2 h2
   have hxl:(xorL x c).length = s:=by rw [xorL_len (hx.trans hcl.symm)]; exact hx
   have hxb:Bytes (xorL x c):=xorL_in hbx hcb
   have hb2:=hM2.g0 hb
   obtain ⟨M3,c3,o3,lim3,hcall,hM3,hr3⟩:=(hci.turn M2 fun i hi => hM2.low (by simp) hci.le hi).1 (xorL x c) M.length 0 (some s) hxl hxb (by rw [← hxl,← u8s'_len (xorL x c)]; exact rd_own0 h2 rfl) (Nat.le_refl s)
   have hy:=(hE _ hxl hxb).1
   have hb3:=hM3.g0 hb2
   obtain ⟨M4,v2,hcl4,hM4,h4,hfar⟩:=clone_call (v:=.sl c3 o3 s lim3) (xs:=E (xorL x c)) hG (by omega) (.inr ⟨c3,o3,lim3,by rw [hy.1],by rw [hy.1]; exact hr3⟩)
   have hb4:=hM4.g0 hb3
   have hw:wr M4 q (0 + 3) [v2] = some (M4.set q (MoB p 2 false v2)):=wr_own hb4 (by simp) h4.cells.2
   have hg:GrowL M4 (M4.set q (MoB p 2 false v2)) [q]:=GrowL.ch hb4 (by simp [MoB]) (by simp [MoB])
   refine ⟨_,.sl c3 o3 s lim3,v2,?_,((hM2.tr hM3).tr hM4).tl hg hro,set_get hb4,?_,?_,.inr fun b o n lim e => Nat.le_trans (hM2.tr hM3).le (hfar b o n lim e)⟩
   ·refine acall_mk (n:=94) (fv:=fnOf Tryz.f41) rfl rfl (by simp) (by decide) ?_
    refine AWX.seq (AWX.region (AOX.q hG rfl (st_as rfl) rfl (AOX.nil ?_)))
    refine AWX.seq (AWX.region (AOX.q hG rfl (st_as rfl) rfl (AOX.nil ?_)))
    refine AWX.seq (AWX.block (AWX.seq (AWX.region (AOX.q hG rfl (st_mv rfl) rfl (AOX.q hG rfl (st_nil rfl) rfl (AOX.q hG rfl (st_fa rfl rfl) rfl (AOX.q hG rfl (st_ld one3 rfl (MoB.r1 hb)) rfl (AOX.q hG rfl (st_bin rfl rfl (b_eqlF (by omega))) rfl (AOX.q hG rfl (st_mv rfl) rfl (AOX.qn rfl rfl rfl rfl (AOX.qn rfl rfl rfl rfl (AOX.qn rfl rfl rfl rfl (AOX.qn rfl rfl rfl rfl (AOX.q hG rfl (st_pickF rfl rfl) rfl (AOX.q hG rfl (st_as rfl) rfl (AOX.nil ?_))))))))))))))))
    refine AWX.cf rfl (AWX.seq (AWX.region (AOX.q hG rfl (st_mv rfl) rfl (AOX.q hG rfl (st_nil rfl) rfl (AOX.q hG rfl (st_fa rfl rfl) rfl (AOX.q hG rfl (st_ld one3 rfl (MoB.r1 hb)) rfl (AOX.q hG rfl (st_bin rfl rfl (b_eqlF (by omega))) rfl (AOX.q hG rfl (st_as rfl) rfl (AOX.nil ?_)))))))))
    refine AWX.cf rfl (AWX.seq (AWX.region (AOX.q hG rfl (st_mv rfl) rfl (AOX.q hG rfl (st_nil rfl) rfl (AOX.q hG rfl (st_fa rfl rfl) rfl (AOX.q hG rfl (st_ld one4 rfl (MoB.r2 hb)) rfl (AOX.q hG rfl (st_as rfl) rfl (AOX.nil ?_))))))))
    refine AWX.cf rfl (AWX.seq (AWX.region (AOX.q hG rfl (st_mv rfl) rfl (AOX.q hG rfl (st_mv rfl) rfl (AOX.q hG rfl (st_nil rfl) rfl (AOX.q hG rfl (st_fa rfl rfl) rfl (AOX.q hG rfl (st_ld one22 rfl (MoB.r3 hb)) rfl (AOX.qc hG rfl (st_call rfl rfl) (hxc) rfl (AOX.q hG rfl (st_mv rfl) rfl (AOX.q hG rfl (st_ex rfl rfl) rfl (AOX.q hG rfl (st_ex rfl rfl) rfl (AOX.q hG rfl (st_as rfl) rfl (AOX.nil ?_)))))))))))))
    refine AWX.seq (AWX.region (AOX.q hG rfl (st_mv rfl) rfl (AOX.q hG rfl (st_nil rfl) rfl (AOX.q hG rfl (st_fa rfl rfl) rfl (AOX.q hG rfl (st_ld one41 rfl (MoB.r0 hb2)) rfl (AOX.q hG rfl (st_mv rfl) rfl (AOX.qc hG rfl (st_call rfl rfl) (hcall) rfl (AOX.q hG rfl (st_mv rfl) rfl (AOX.q hG rfl (st_ex rfl rfl) rfl (AOX.q hG rfl (st_ex rfl rfl) rfl (AOX.q hG rfl (st_as rfl) rfl (AOX.nil ?_))))))))))))
    refine AWX.region (AOX.q hG rfl (st_mv rfl) rfl (AOX.q hG rfl (st_mv rfl) rfl (AOX.qc hG rfl (st_call rfl rfl) (hcl4) rfl (AOX.q hG rfl (st_nil rfl) rfl (AOX.q hG rfl (st_fa rfl rfl) rfl (AOX.qs hG rfl (st_st one22 rfl rfl h4.cells.1 hw) (AOX.nil ?_)))))))
    refine AWX.seq (AWX.region (AOX.q hG rfl (st_mv rfl) rfl (AOX.q hG rfl (st_as rfl) rfl (AOX.nil ?_))))
    refine AWX.fin rfl rfl
   ·rw [stepB_F]; exact h4.keep hg hb4 (show 8 ≤ (E (xorL x c)).length by omega)
   ·rw [stepB_F]; refine IsR.keep (xs:=E (xorL x c)) (.inr ⟨c3,o3,lim3,by rw [hy.1],?_⟩) hg hb4 (by omega)
    show rd M4 c3 o3 (E (xorL x c)).length = _
    rw [hy.1]; exact rd_grow hM4 hr3 (by simp)
end
end
end
section
open Go.Proofs
noncomputable section
def EmptyV (v:V):Prop:=v = .nilsl ∨ (∃ b o lim,v = .sl b o 0 lim) ∨ ∃ b o l,v = .cut b o l
def RestS (n:Nat) (M:Mem) (v:V) (xs:List Int):Prop:=(xs = [] ∧ EmptyV v) ∨ ∃ b o lim,b < n ∧ v = .sl b o xs.length lim ∧ rd M b o xs.length = some (u8s' xs) ∧ LimP M b o xs.length lim
section
variable {M:Mem} {b o n i k:Nat} {xs:List Int} {v:V}
theorem rd_mid {cs:List V} (h:rd M b o n = some cs) (hk:i + k ≤ n):rd M b (o + i) k = some ((cs.drop i).take k):=by
 unfold rd at h ⊢
 cases hb:M[b]? with
 | none => rw [hb] at h; simp at h
 | some B =>
  rw [hb] at h
  simp only [Option.bind_some] at h ⊢
  cases hc:B.cells with
  | none => rw [hc] at h; simp at h
  | some cells =>
   rw [hc] at h
   simp only at h ⊢
   split at h
   ·rename_i hle
    injection h with h
    subst h
    rw [if_pos (by omega),List.drop_take,List.take_take,List.drop_drop,Nat.min_eq_left (by omega)]
   ·cases h
theorem IsS.rest (h:IsS M v xs) (hM:M.length ≤ n):RestS n M v xs:=by
 rcases h with ⟨rfl,rfl⟩ | ⟨b,o,lim,rfl,h2,h3⟩
 ·exact .inl ⟨rfl,.inl rfl⟩
 ·obtain ⟨k,hk,_⟩:=rd_row h2
  exact .inr ⟨b,o,lim,by have:=lt_of hk; omega,rfl,h2,h3⟩
theorem RestS.grow {M':Mem} (h:RestS n M v xs) (hM:GrowL M M' []):RestS n M' v xs:=by
 rcases h with h | ⟨b,o,lim,hb,rfl,hr,hl⟩
 ·exact .inl h
 ·obtain ⟨k,hk,_⟩:=rd_row hr
  exact .inr ⟨b,o,lim,hb,rfl,rd_grow hM hr (by simp),hl.grow hM (lt_of hk) (by simp)⟩
variable {ρ:Operand → Option V} {x y:Operand} {t:TypeId}
theorem st_lenR {M1:Mem} (ht:SlT t) (h:RestS n M1 v xs) (hx:ρ x = some v):astep noX tyF ρ M (.call ⟨.builtin .len,#[x],#[t]⟩) = some (.pure (.int .i64 xs.length)):=by
 rcases h with ⟨rfl,rfl | ⟨b,o,lim,rfl⟩ | ⟨b,o,l,rfl⟩⟩ | ⟨b,o,lim,_,rfl,_⟩
 ·exact st_lennil ht hx
 ·exact st_len ht hx
 ·obtain ⟨d,e,de,h1,h2,h3,h4⟩:=ht.h
  simp only [astep,aCall,aLen,h1,Option.bind_some,hx,lenV,h2,Option.map_some]; rfl
 ·exact st_len ht hx
theorem st_rest {s:Nat} {lim:Option Nat} (ht:SlT t) (hb:b < n) (hx:ρ x = some (.sl b o xs.length lim)) (hr:rd M b o xs.length = some (u8s' xs)) (hl:LimP M b o xs.length lim) (hy:ρ y = some (.int .i64 s)) (hs:s ≤ xs.length) (hs0:0 < s) :
  ∃ v,astep noX tyF ρ M (.slice t x (some y) none none) = some (.pure v) ∧ RestS n M v (xs.drop s):=by
 by_cases h:s < xs.length
 ·refine ⟨_,st_slD ht hx hy h hl,.inr ⟨b,o + s,lim.map (· - s),hb,by simp,?_,by rw [List.length_drop]; exact hl.drop hs⟩⟩
  rw [List.length_drop,rd_mid hr (by omega)]
  simp only [u8s',← List.map_drop,← List.map_take]
  rw [List.take_of_length_le (by simp)]
 ·have e:s = xs.length:=by omega
  subst e
  suffices hh:∃ v,astep noX tyF ρ M (.slice t x (some y) none none) = some (.pure v) ∧ EmptyV v by
   obtain ⟨v,h1,h2⟩:=hh
   exact ⟨v,h1,.inl ⟨by simp,h2⟩⟩
  obtain ⟨d,e,de,h1,h2,h3,h4⟩:=ht.h
  simp only [astep,aSlice,h1,Option.bind_some,hx,oo,hy,Option.map_some,sliceV,h2,h3,h4]
  cases lim with
  | some cp =>
   have hl:xs.length ≤ cp:=hl
   simp only [mB,uB,idxLe_n (Nat.le_refl xs.length),Option.bind_some,ne_eq,not_true_eq_false,if_false,Nat.sub_self]
   split
   ·exact ⟨_,rfl,.inr (.inl ⟨_,_,_,rfl⟩)⟩
   ·exact ⟨_,rfl,.inr (.inl ⟨_,_,_,rfl⟩)⟩
  | none =>
   have hl:o + xs.length ≤ known M b:=hl
   simp only [uB,idxLe_n (Nat.le_refl xs.length),Option.bind_some,ne_eq,not_true_eq_false,if_false,Nat.sub_self]
   split
   ·exact ⟨_,rfl,.inr (.inl ⟨_,_,_,rfl⟩)⟩
   ·rw [if_pos trivial]; exact ⟨_,rfl,.inr (.inr ⟨_,_,_,rfl⟩)⟩
theorem IsR.news (h:IsR M v xs):newsV M v = some (u8s' xs):=by
 rcases h with ⟨rfl,rfl⟩ | ⟨b,o,lim,rfl,h2⟩
 ·rfl
 ·exact h2
end
def stepL (mode:Nat) (back:Bool) (E D:List Int → List Int) (s:Nat):Nat → List Int → List Int → List Int
 | 0,_,_ => []
 | k + 1,c,xs => (stepB mode back E D c (xs.take s)).1 ++ stepL mode back E D s k (stepB mode back E D c (xs.take s)).2 (xs.drop s)
def ChOK (mode s:Nat) (c:List Int):Prop:=mode = 2 → c.length = s ∧ Bytes c
theorem stepB_ok {mode s:Nat} {back:Bool} {E D:List Int → List Int} {c x:List Int} (hE:EDok s E D) (hm:mode = 1 ∨ mode = 2) (hc:ChOK mode s c) (hx:x.length = s) (hb:Bytes x) :
  (stepB mode back E D c x).1.length = s ∧ Bytes (stepB mode back E D c x).1 ∧ ChOK mode s (stepB mode back E D c x).2:=by
 have h1:=hE x hx hb
 rcases hm with rfl | rfl
 ·refine ⟨?_,?_,hc⟩ <;> cases back <;> simp [stepB,h1]
 ·obtain ⟨h2,h3⟩:=hc rfl
  cases back with
  | true => exact ⟨(xorL_len (h1.2.1.1.trans h2.symm)).trans h1.2.1.1,xorL_in h1.2.1.2 h3,fun _ => ⟨hx,hb⟩⟩
  | false =>
   have h4:=(hE _ ((xorL_len (hx.trans h2.symm)).trans hx) (xorL_in hb h3)).1
   exact ⟨h4.1,h4.2,fun _ => h4⟩
theorem stepL_ok {mode s:Nat} {back:Bool} {E D:List Int → List Int} (hE:EDok s E D) (hm:mode = 1 ∨ mode = 2):∀ (k:Nat) (c xs:List Int),ChOK mode s c → xs.length = k * s → Bytes xs → (stepL mode back E D s k c xs).length = k * s ∧ Bytes (stepL mode back E D s k c xs)
 | 0,c,xs,hc,hx,hb => ⟨by simp [stepL],by simp [stepL,Bytes]⟩
 | k + 1,c,xs,hc,hx,hb => by
  have e:(k + 1) * s = k * s + s:=Nat.succ_mul k s
  have h1:=stepB_ok (back:=back) (x:=xs.take s) hE hm hc (by rw [List.length_take]; omega) (fun m h => hb m (List.mem_of_mem_take h))
  have h2:=stepL_ok (back:=back) hE hm k _ (xs.drop s) h1.2.2 (by rw [List.length_drop]; omega) (fun m h => hb m (List.mem_of_mem_drop h))
  refine ⟨by simp only [stepL,List.length_append,h1.1,h2.1]; omega,fun m h => ?_⟩
  rcases List.mem_append.1 h with h | h
  ·exact h1.2.1 m h
  ·exact h2.2 m h
def stC:Code:=cAt [1,0] (fnOf Tryz.f24).body
def stX:Code:=cAt [1,1,1,1] stC
section
variable {G:GF} {M:Mem} {t:Int} {s n p q mode ob N:Nat} {back:Bool} {E D:List Int → List Int}
def stCan (q s ob N:Nat) (v:V) (m:Nat):List (Nat × V):=[(0,.ptr q 0),(1,v),(6,.int .i64 s),(7,.sl ob 0 m (some N))]
structure StI (G:GF) (t:Int) (M:Mem) (s n p q mode ob N:Nat) (back:Bool) (E D:List Int → List Int) (M1:Mem) (v vc:V) (outs c xs:List Int):Prop where
 gr:GrowL M M1 [q]
 ci:CiP G t s E D p n M1
 mo:M1[q]? = some (MoB p mode back vc)
 ch:IsS M1 vc c
 far:∀ b o n lim,vc = .sl b o n lim → b ≠ ob
 rest:RestS M.length M1 v xs
 out:M1[ob]? = some (.own (u8s' (outs ++ List.replicate (N - outs.length) 0)) 0)
theorem IsS.ne {M:Mem} {v:V} {xs:List Int} {c:Nat} {k:Blk} (h:IsS M v xs) (hf:∀ b o n lim,v = .sl b o n lim → b ≠ c):IsS (M.set c k) v xs:=by
 rcases h with h | ⟨b,o,lim,rfl,h2,h3⟩
 ·exact .inl h
 ·have hne:=hf b o _ lim rfl
  exact .inr ⟨b,o,lim,rfl,by rw [rd_ne (Ne.symm hne)]; exact h2,h3.set (Ne.symm hne)⟩
theorem st_run (hG:GOK G) (hE:EDok s E D) (hs:s = 8 ∨ s = 16) (hm:mode = 1 ∨ mode = 2) (hq:n ≤ q) (hql:q < M.length) (hob:M.length ≤ ob) {Q:AExit → St → Prop} {R:List Int}
  (hQ:∀ l M2,GrowL M M2 [q] → M2[ob]? = some (.own (u8s' R) 0) → Fini 44 (fnOf Tryz.f24).results (.tup [.sl ob 0 N (some N),.int .i64 0]) M2 .ret (mkSt 44 l M2) → Q .ret (mkSt 44 l M2)) :
  ∀ (k:Nat) (l:List (Nat × V)) (M1:Mem) (v vc:V) (outs c xs:List Int),StI G t M s n p q mode ob N back E D M1 v vc outs c xs → ChOK mode s c → xs.length = k * s → Bytes xs → outs.length + xs.length = N → outs ++ stepL mode back E D s k c xs = R → subL 44 l (stCan q s ob N v outs.length) → AWX G stX (mkSt 44 l M1) (jx G stC Q)
 | 0,l,M1,v,vc,outs,c,xs,h,hc,hx,hbx,hN,hR,hl => by
  refine AWX.ff _ hl ?_
  refine AWX.seq (AWX.block (AWX.seq (AWX.region (AOX.q hG rfl (st_mv rfl) rfl (AOX.q hG rfl (st_lenR sl22 h.rest rfl) rfl (AOX.q hG rfl (st_bin rfl rfl (b_eqlT (by rw [hx]; simp))) rfl (AOX.q hG rfl (st_as rfl) rfl (AOX.nil ?_))))))))
  refine AWX.ct rfl (AWX.seq (AWX.region (AOX.q hG rfl (st_mv rfl) rfl (AOX.q hG rfl (st_as rfl) rfl (AOX.q hG rfl (st_as rfl) rfl (AOX.nil ?_))))))
  refine AWX.ret ?_
  simp only [stepL,List.append_nil] at hR
  subst hR
  have e:outs.length = N:=by omega
  refine hQ _ _ h.gr (by have:=h.out; rwa [show N - outs.length = 0 by omega,List.replicate_zero,List.append_nil] at this) ⟨.inr rfl,_,_,rfl,rfl,?_⟩
  rw [← e]; rfl
 | k + 1,l,M1,v,vc,outs,c,xs,h,hc,hx,hbx,hN,hR,hl => by
  have e:(k + 1) * s = k * s + s:=Nat.succ_mul k s
  obtain ⟨b,o,lim,hb,rfl,hr,hlim⟩:∃ b o lim,b < M.length ∧ v = .sl b o xs.length lim ∧ rd M1 b o xs.length = some (u8s' xs) ∧ LimP M1 b o xs.length lim:=h.rest.resolve_left fun e2 => by rw [e2.1] at hx; simp at hx; omega
  have hxt:(xs.take s).length = s:=by rw [List.length_take]; omega
  have hxb:Bytes (xs.take s):=fun m h => hbx m (List.mem_of_mem_take h)
  have hrt:rd M1 b o s = some (u8s' (xs.take s)):=by
   have:=rd_mid (i:=0) (k:=s) hr (by omega)
   simpa [u8s',List.map_take] using this
  obtain ⟨M2,w,v2,hcall,hM2,hmo2,hch2,hw2,hfar2⟩:=block_call hG h.ci hE hs hm hq h.mo h.ch hc hxt hxb hrt (hlim.le (by omega))
  have hok:=stepB_ok (back:=back) hE hm hc hxt hxb
  have hobl:=lt_of h.out
  have hout2:M2[ob]? = some (.own (u8s' (outs ++ List.replicate (N - outs.length) 0)) 0):=hM2.g h.out (by simp; omega)
  generalize hB:stepB mode back E D c (xs.take s) = B at hch2 hw2 hok
  have hok1:=hok.1
  have hcells:(u8s' (outs ++ List.replicate (N - outs.length) 0)).take (0 + outs.length) ++ u8s' B.1 ++ (u8s' (outs ++ List.replicate (N - outs.length) 0)).drop (0 + outs.length + (u8s' B.1).length) = u8s' (outs ++ B.1 ++ List.replicate (N - (outs ++ B.1).length) 0):=by
   simp only [u8s',← List.map_take,← List.map_drop,← List.map_append,Nat.zero_add,List.length_map,List.take_left',List.length_append]
   congr 1
   rw [← List.drop_drop,List.drop_left' rfl,List.drop_replicate,Nat.sub_sub]
  have hap:=ap_in (M:=M2) (z:=.int .u8 0) (q:=1) (len:=outs.length) (o:=0) (cap:=N) (l:=u8s' B.1) hout2 (by rw [u8s'_len]; omega) (by intro e2; have:=congrArg List.length e2; rw [u8s'_len,List.length_nil] at this; omega) (by simp [u8s',V.one]) (by simp only [u8s'_len,List.length_append,List.length_replicate]; omega)
  rw [hcells] at hap
  have hM3:GrowL M (M2.set ob (.own (u8s' (outs ++ B.1 ++ List.replicate (N - (outs ++ B.1).length) 0)) 0)) [q]:=(h.gr.t2 hM2).st hob hout2 (by simp)
  have hci3:CiP G t s E D p n (M2.set ob (.own (u8s' (outs ++ B.1 ++ List.replicate (N - (outs ++ B.1).length) 0)) 0)):=(h.ci.grow hM2 (by simpa using hq)).same (fun i hi => set_ne (show ob ≠ i by omega)) (by rw [List.length_set]; exact (h.ci.grow hM2 (by simpa using hq)).le)
  have hne:b ≠ q:=rd_far h.mo hr (by omega)
  have hbl:b < M1.length:=by obtain ⟨k,hk,_⟩:=rd_row hr; exact lt_of hk
  have hr3:rd (M2.set ob (.own (u8s' (outs ++ B.1 ++ List.replicate (N - (outs ++ B.1).length) 0)) 0)) b o xs.length = some (u8s' xs):=by
   rw [rd_ne (by omega)]; exact rd_grow hM2 hr (by simpa using hne)
  have hl3:LimP (M2.set ob (.own (u8s' (outs ++ B.1 ++ List.replicate (N - (outs ++ B.1).length) 0)) 0)) b o xs.length lim:=(hlim.grow hM2 hbl (by simpa using hne)).set (by omega)
  have hmo3:(M2.set ob (.own (u8s' (outs ++ B.1 ++ List.replicate (N - (outs ++ B.1).length) 0)) 0))[q]? = some (MoB p mode back v2):=by rw [set_ne (by omega)]; exact hmo2
  have hfar3:∀ b o n lim,v2 = .sl b o n lim → b ≠ ob:=fun b' o' n' lim' e2 => by
   rcases hfar2 with e3 | hf
   ·exact h.far b' o' n' lim' (e3 ▸ e2)
   ·have:=hf b' o' n' lim' e2; omega
  have hch3:=hch2.ne (k:=.own (u8s' (outs ++ B.1 ++ List.replicate (N - (outs ++ B.1).length) 0)) 0) hfar3
  have hout3:=set_get (k:=Blk.own (u8s' (outs ++ B.1 ++ List.replicate (N - (outs ++ B.1).length) 0)) 0) hout2
  generalize M2.set ob (.own (u8s' (outs ++ B.1 ++ List.replicate (N - (outs ++ B.1).length) 0)) 0) = M3 at hap hM3 hci3 hr3 hl3 hmo3 hch3 hout3
  refine AWX.ff _ hl ?_
  refine AWX.seq (AWX.block (AWX.seq (AWX.region (AOX.q hG rfl (st_mv rfl) rfl (AOX.q hG rfl (st_len sl22 rfl) rfl (AOX.q hG rfl (st_bin rfl rfl (b_eqlF (by omega))) rfl (AOX.q hG rfl (st_as rfl) rfl (AOX.nil ?_))))))))
  refine AWX.cf rfl (AWX.seq (AWX.region (AOX.q hG rfl (st_mv rfl) rfl (AOX.q hG rfl (st_bin rfl rfl (b_eqlF (by omega))) rfl (AOX.q hG rfl (st_as rfl) rfl (AOX.nil ?_))))))
  refine AWX.cf rfl (AWX.region (AOX.q hG rfl (st_mv rfl) rfl (AOX.q hG rfl (st_mv rfl) rfl (AOX.q hG rfl (st_mv rfl) rfl (AOX.q hG rfl (st_mv rfl) rfl (AOX.q hG rfl (st_slT sl22 rfl rfl (by omega) hlim) rfl (AOX.qc hG rfl (st_call rfl rfl) (hcall) rfl (AOX.qv hG rfl (st_ap el22 rfl rfl hw2.news hap) rfl (AOX.q hG rfl (st_as rfl) rfl (AOX.nil ?_))))))))))
  obtain ⟨v3,hst3,hrest⟩:=st_rest (t:=22) (ρ:=getL 44 [(42,.int .i64 s),(41,.sl b o xs.length lim)]) (x:=.tmp 41) (y:=.tmp 42) sl22 hb rfl hr3 hl3 rfl (show s ≤ xs.length by omega) (by omega)
  refine AWX.seq (AWX.region (AOX.q hG rfl (st_mv rfl) rfl (AOX.q hG rfl (st_mv rfl) rfl (AOX.q hG rfl hst3 rfl (AOX.q hG rfl (st_as rfl) rfl (AOX.nil ?_))))))
  refine AWX.goto ?_
  show jx G stC Q (.goto 0) _
  refine jx_to (rest:=(findLabel stC 0).getD .skip) rfl (JX.step (AWX.seq (AWX.skip ?_)))
  have ho2:outs.length + (u8s' B.1).length = (outs ++ B.1).length:=by rw [u8s'_len,List.length_append]
  refine st_run hG hE hs hm hq hql hob hQ k _ M3 v3 v2 (outs ++ B.1) B.2 (xs.drop s) ⟨hM3,hci3,hmo3,hch3,hfar3,hrest,hout3⟩ hok.2.2 (by rw [List.length_drop]; omega) (fun m h => hbx m (List.mem_of_mem_drop h)) (by rw [List.length_append,List.length_drop]; omega) (by rw [← hR]; simp [stepL,hB]) ⟨rfl,rfl,rfl,?_,trivial⟩
  rw [← ho2]; rfl
theorem step_call (hG:GOK G) {tg g:Nat} {cs:List V} {vx vc:V} {c xs:List Int} {k:Nat} (hE:EDok s E D) (ht:1 ≤ tg ∧ tg ≤ 8) (hsz:szOf tg = s) (hp:M[p]? = some (.own (.int .i64 tg :: cs) g)) (hm:mode = 1 ∨ mode = 2) (hci:CiP G t s E D p n M) (hq:n ≤ q)
  (hb:M[q]? = some (MoB p mode back vc)) (hch:IsS M vc c) (hc:ChOK mode s c) (hx:IsS M vx xs) (hxk:xs.length = k * s) (hbx:Bytes xs) (hk:k ≤ 1000) :
  ∃ (M2:Mem) (ob:Nat),ACall Tryz.prog G 24 [.ptr q 0,vx] M (.tup [.sl ob 0 xs.length (some xs.length),.int .i64 0]) M2 ∧ GrowL M M2 [q] ∧ M.length ≤ ob ∧ M2[ob]? = some (.own (u8s' (stepL mode back E D s k c xs)) 0):=by
 have hs:s = 8 ∨ s = 16:=hsz ▸ szOf_in tg
 have hks:xs.length ≤ 1000 * 16:=by rw [hxk]; exact Nat.mul_le_mul hk (by omega)
 have hrem:xs.length % s = 0:=by rw [hxk]; exact Nat.mul_mod_left k s
 have hql:=lt_of hb
 subst hsz
 suffices h:AWX G (fnOf Tryz.f24).body (mkSt 44 (argL 0 [.ptr q 0,vx]) M) (fun ex s' => ∃ M2,Fini 44 (fnOf Tryz.f24).results (.tup [.sl M.length 0 xs.length (some xs.length),.int .i64 0]) M2 ex s' ∧ GrowL M M2 [q] ∧ M2[M.length]? = some (.own (u8s' (stepL mode back E D (szOf tg) k c xs)) 0)) by
  obtain ⟨ex,s',h1,M2,h2,h3,h4⟩:=h
  exact ⟨M2,M.length,acall_mk (n:=44) (fv:=fnOf Tryz.f24) rfl rfl (by simp) (by decide) ⟨ex,s',h1,h2⟩,h3,Nat.le_refl _,h4⟩
 refine AWX.seq (AWX.region (AOX.q hG rfl (st_as rfl) rfl (AOX.q hG rfl (st_as rfl) rfl (AOX.nil ?_))))
 refine AWX.scope (JX.step (AWX.seq (AWX.region (AOX.q hG rfl (st_mv rfl) rfl (AOX.qc hG rfl (st_call rfl rfl) (grain_call hG ht hp hm hb) rfl (AOX.q hG rfl (st_as rfl) rfl (AOX.nil ?_)))))))
 refine AWX.seq (AWX.seq (AWX.region (AOX.q hG rfl (st_mv rfl) rfl (AOX.q hG rfl (st_lenS sl22 hx rfl) rfl (AOX.q hG rfl (st_mv rfl) rfl (AOX.q hG rfl (st_bin rfl rfl (b_rm (n:=szOf tg) (by omega))) rfl (AOX.q hG rfl (st_bin rfl rfl (b_gtrF (by omega))) rfl (AOX.nil ?_))))))))
 refine AWX.cf rfl (AWX.skip ?_)
 refine AWX.seq (AWX.region (AOX.q hG rfl (st_mv rfl) rfl (AOX.q hG rfl (st_lenS sl22 hx rfl) rfl (AOX.qv hG rfl (st_mk el22 (by omega) rfl rfl (Nat.zero_le _) (by omega)) rfl (AOX.q hG rfl (st_as rfl) rfl (AOX.nil ?_))))))
 refine AWX.seq (AWX.label ?_)
 have hro:∀ b' ∈ [q],∀ cs,M[b']? ≠ some (.ro cs):=fun b' hb' cs => by
  simp only [List.mem_singleton] at hb'; subst hb'; rw [hb]; simp [MoB]
 have g1:=GrowL.one M (List.replicate xs.length (.int .u8 0)) 0
 refine st_run (M:=M) (t:=t) (n:=n) (p:=p) (q:=q) (ob:=M.length) (N:=xs.length) (back:=back) hG hE hs hm hq hql (Nat.le_refl _) (fun l M2 h1 h2 h3 => ⟨M2,h3,h1,h2⟩) k _ _ vx vc [] c xs ⟨g1.w hro,hci.grow g1 (by simp),g1.g0 hb,hch.grow g1,fun b' o' n' lim' e => ?_,RestS.grow (hx.rest (Nat.le_refl _)) g1,?_⟩ hc hxk hbx (by simp) rfl ⟨rfl,rfl,rfl,rfl,trivial⟩
 ·subst e
  rcases hch with ⟨h,_⟩ | ⟨b2,o2,lim2,h,h2,_⟩
  ·cases h
  ·injection h with h; subst h
   obtain ⟨k,hk,_⟩:=rd_row h2
   have:=lt_of hk; omega
 ·rw [app_last]; simp [u8s']
end
end
end
end Go.Proofs.YthajgdmcjfmjoaaGreatDoor.Rel
