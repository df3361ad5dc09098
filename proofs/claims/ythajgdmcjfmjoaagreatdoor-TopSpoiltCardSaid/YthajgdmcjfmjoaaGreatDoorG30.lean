/- TopSpoilt, part 30 of 38 of its proof: a relative machine (values, memory, an evaluator, all sound against the model), and by it the walks. Conditions: none. -/
import Derived.Test.YthajgdmcjfmjoaaGreatDoorG16
import Derived.Test.YthajgdmcjfmjoaaGreatDoorG29
set_option linter.all false
namespace Go.Proofs.YthajgdmcjfmjoaaGreatDoor.Rel
open Go.Proofs
noncomputable section
theorem one_nd {b:Nat} (i j c:Nat) (hi:[b][i]? = some c) (hj:[b][j]? = some c):i = j:=by
 have h1:=(List.getElem?_eq_some_iff.1 hi).1
 have h2:=(List.getElem?_eq_some_iff.1 hj).1
 simp only [List.length_singleton] at h1 h2
 omega
theorem fits_cons {nm:List (Nat × Nat × Option Nat)} {rows:List (List V)} {M:Mem} {B:Bd} (hB:B.nm = nm) (h:∀ i:Nat,i < rows.length → ∃ cs0 p cs,rows[i]? = some cs0 ∧ nm[i]? = some p ∧ B.subs cs0 = some cs ∧ rd M p.1 p.2.1 cs0.length = some cs ∧
   (match p.2.2 with | some c => cs0.length ≤ c | none => p.2.1 + cs0.length ≤ known M p.1)) (hl:nm.length = rows.length):B.fits M rows:=by
 refine ⟨by rw [hB]; exact hl,fun i cs0 p h1 h2 => ?_⟩
 obtain ⟨ds0,q,cs,a1,a2,a3,a4,a5⟩:=h i (List.getElem?_eq_some_iff.1 h1).1
 rw [h1] at a1
 injection a1 with a1
 subst a1
 rw [hB,a2] at h2
 injection h2 with h2
 subst h2
 exact ⟨cs,a3,a4,a5⟩
theorem zK_u8:zK = u8s' (List.replicate 16 0):=rfl
theorem zI_u8:zI = u8s' (List.replicate 8 0):=rfl
def kcB (b:Bool):Blk:=.own [.int .i64 3,.int .i64 8,.int .i64 4,.bool b] 0
theorem ksh_call {M:Mem} {a b c:Nat} (h1:M[a]? = some (.own zK 0)) (h2:M[b]? = some (.own zI 0)) (h3:M[c]? = some (.own (u8s' helI) 0)) :
  ACall Tryz.prog GG 8 [cfV false,.sl a 0 16 (some 16),.sl b 0 8 (some 8),.sl c 0 12 (some 12)] M (.tup [.sl M.length 0 12 none,.int .i64 0]) (M ++ [.own (u8s' encI) 1]):=by
 refine (lm_call (B:=⟨[],[(a,0,some 16),(b,0,some 8),(c,0,some 12)]⟩) GG_ok knS_ok shE_chk one_nd rfl rfl ?_ rfl rfl).1
 refine fits_cons rfl (fun i hi => ?_) rfl
 have hi:i < 3:=hi
 match i,hi with
 | 0,_ => exact ⟨_,_,zK,rfl,rfl,by rw [zK_u8]; exact subs_ints _,rd_own0 h1 rfl,Nat.le_refl 16⟩
 | 1,_ => exact ⟨_,_,zI,rfl,rfl,by rw [zI_u8]; exact subs_ints _,rd_own0 h2 rfl,Nat.le_refl 8⟩
 | 2,_ => exact ⟨_,_,u8s' helI,rfl,rfl,subs_ints _,rd_own0 h3 rfl,Nat.le_refl 12⟩
theorem kse_call {M:Mem} {a b c d:Nat} (h1:M[a]? = some (.own zK 0)) (h2:M[b]? = some (.own zI 0)) (h3:M[c]? = some (.own [.sl d 0 12 none] 0)) (h4:M[d]? = some (.own (u8s' encI) 1)) :
  ACall Tryz.prog GG 9 [cfV true,.sl a 0 16 (some 16),.sl b 0 8 (some 8),.sl c 0 1 (some 1)] M (.tup [.sl M.length 0 12 none,.int .i64 0]) (M ++ [.own (u8s' helI) 1]):=by
 refine (lm_call (B:=⟨[],[(a,0,some 16),(b,0,some 8),(c,0,some 1),(d,0,none)]⟩) GG_ok knT_ok seE_chk one_nd rfl rfl ?_ rfl rfl).1
 refine fits_cons rfl (fun i hi => ?_) rfl
 have hi:i < 4:=hi
 match i,hi with
 | 0,_ => exact ⟨_,_,zK,rfl,rfl,by rw [zK_u8]; exact subs_ints _,rd_own0 h1 rfl,Nat.le_refl 16⟩
 | 1,_ => exact ⟨_,_,zI,rfl,rfl,by rw [zI_u8]; exact subs_ints _,rd_own0 h2 rfl,Nat.le_refl 8⟩
 | 2,_ => exact ⟨_,_,[.sl d 0 12 none],rfl,rfl,rfl,rd_own0 h3 rfl,Nat.le_refl 1⟩
 | 3,_ => exact ⟨_,_,u8s' encI,rfl,rfl,subs_ints _,rd_own0 h4 rfl,by rw [known_own h4]; exact Nat.le_refl 12⟩
theorem knw_call {M:Mem}:ACall Tryz.prog GG 10 [] M (.ptr M.length 0) (M ++ [.own cxZ 0]) :=
 (lm_call (B:=⟨[],[]⟩) GG_ok no_ok nwE_chk one_nd rfl rfl (fits_cons rfl (fun i hi => absurd hi (Nat.not_lt_zero i)) rfl) rfl rfl).1
theorem ksz_call {M:Mem}:ACall Tryz.prog GG 11 [.int .i64 7] M (.int .i64 16) M:=by
 have:=(lm_call (B:=⟨[],[]⟩) (M:=M) GG_ok no_ok szE_chk (fun i j b hi => by simp [szE] at hi) rfl rfl (fits_cons rfl (fun i hi => absurd hi (Nat.not_lt_zero i)) rfl) rfl rfl).1
 rwa [List.append_nil] at this
theorem st_mkd {ρ:Operand → Option V} {M:Mem} {x y:Operand} {t:TypeId} {z:V} {q l c:Nat} (ht:ElT t z q) (hq:q ≤ 24) (hx:ρ x = some (.int .i64 l)) (hy:ρ y = some (.int .i64 c)) (h1:l ≤ c) (h2:c ≤ 1000000):astep noX tyF ρ (deads M) (.makeSlice t x y) = some (.val (.sl M.length 0 l (some c)) (deads M ++ [.own (List.replicate c z) 0])):=by
 have:=st_mk (M:=deads M) (ρ:=ρ) ht hq hx hy h1 h2
 rwa [deads_len] at this
theorem st_hel {ρ:Operand → Option V} {M:Mem} {a0 a1 a2 a3 a4 a5 a6 a7 a8 a9 a10 a11:Operand} {v0 v1 v2 v3 v4 v5 v6 v7 v8 v9 v10 v11:Int} (h0:ρ a0 = some (.int .u8 v0)) (h1:ρ a1 = some (.int .u8 v1)) (h2:ρ a2 = some (.int .u8 v2)) (h3:ρ a3 = some (.int .u8 v3)) (h4:ρ a4 = some (.int .u8 v4)) (h5:ρ a5 = some (.int .u8 v5)) (h6:ρ a6 = some (.int .u8 v6)) (h7:ρ a7 = some (.int .u8 v7)) (h8:ρ a8 = some (.int .u8 v8)) (h9:ρ a9 = some (.int .u8 v9)) (h10:ρ a10 = some (.int .u8 v10)) (h11:ρ a11 = some (.int .u8 v11)) :
  astep noX tyF ρ (deads M) (.buildSlice 22 12 #[(0,a0),(1,a1),(2,a2),(3,a3),(4,a4),(5,a5),(6,a6),(7,a7),(8,a8),(9,a9),(10,a10),(11,a11)]) = some (.val (.sl M.length 0 12 (some 12)) (deads M ++ [.own (u8s' [v0,v1,v2,v3,v4,v5,v6,v7,v8,v9,v10,v11]) 0])):=by
 obtain ⟨d,e,e1,e2,e3⟩:=el22.h
 simp [astep,aBuildS,e1,evp,h0,h1,h2,h3,h4,h5,h6,h7,h8,h9,h10,h11,buildSliceV,e3,afill,cellsOf,u8s',deads_len]
theorem st_bs1d {ρ:Operand → Option V} {M:Mem} {x:Operand} {t:TypeId} {z v:V} {q:Nat} (ht:ElT t z q) (hx:ρ x = some v) (hv:cellsOf v = [v]):astep noX tyF ρ (deads M) (.buildSlice t 1 #[(0,x)]) = some (.val (.sl M.length 0 1 (some 1)) (deads M ++ [.own [v] 0])):=by
 have:=st_bs1 (M:=deads M) (ρ:=ρ) ht hx hv
 rwa [deads_len] at this
theorem hel_by:Bytes helI:=by unfold Bytes helI; decide
theorem enc_by:Bytes encI:=by unfold Bytes encI; decide
theorem known_ok:KnownOK GG:=by
 intro M
 have hG:=GG_ok
 have gc:GrowL M (M ++ [.own [.int .i64 0,.int .i64 0,.int .i64 0,.bool false] 0]) []:=GrowL.one _ _ _
 have hcf:(M ++ [Blk.own [.int .i64 0,.int .i64 0,.int .i64 0,.bool false] 0])[M.length]? = some (.own [.int .i64 0,.int .i64 0,.int .i64 0,.bool false] 0):=app_last
 have hal:∀ {ρ:Operand → Option V},astep noX tyF ρ M (.alloc 28) = some (.val (.ptr M.length 0) (M ++ [.own [.int .i64 0,.int .i64 0,.int .i64 0,.bool false] 0])):=fun {ρ} => st_al z28
 generalize M ++ [Blk.own [.int .i64 0,.int .i64 0,.int .i64 0,.bool false] 0] = Ma at gc hcf hal
 have hw1:wr Ma M.length 0 [.int .i64 3,.int .i64 8,.int .i64 4,.bool false] = some (Ma.set M.length (kcB false)):=wr_whole hcf rfl rfl
 have h1:=set_get (k:=kcB false) hcf
 have g1:GrowL M (Ma.set M.length (kcB false)) []:=gc.st (Nat.le_refl _) hcf (by simp [kcB])
 generalize Ma.set M.length (kcB false) = M1 at hw1 h1 g1
 have hr1:rd M1 M.length 0 4 = some [.int .i64 3,.int .i64 8,.int .i64 4,.bool false]:=rd_own0 h1 rfl
 have g2:GrowL M1 (M1 ++ [.own (List.replicate 16 (.int .u8 0)) 0]) []:=GrowL.one _ _ _
 have k2:(M1 ++ [Blk.own zK 0])[M1.length]? = some (.own zK 0):=app_last
 have l2:(M1 ++ [Blk.own (List.replicate 16 (.int .u8 0)) 0]).length = M1.length + 1:=by simp
 change (M1 ++ [Blk.own (List.replicate 16 (.int .u8 0)) 0])[M1.length]? = some (.own zK 0) at k2
 generalize hM2:M1 ++ [Blk.own (List.replicate 16 (.int .u8 0)) 0] = M2 at g2 k2 l2
 have g3:GrowL M2 (M2 ++ [.own (List.replicate 8 (.int .u8 0)) 0]) []:=GrowL.one _ _ _
 have k3:(M2 ++ [Blk.own (List.replicate 8 (.int .u8 0)) 0])[M2.length]? = some (.own zI 0):=app_last
 have l3:(M2 ++ [Blk.own (List.replicate 8 (.int .u8 0)) 0]).length = M2.length + 1:=by simp
 generalize hM3:M2 ++ [Blk.own (List.replicate 8 (.int .u8 0)) 0] = M3 at g3 k3 l3
 have g4:GrowL M3 (M3 ++ [.own (u8s' helI) 0]) []:=GrowL.one _ _ _
 have k4:(M3 ++ [Blk.own (u8s' helI) 0])[M3.length]? = some (.own (u8s' helI) 0):=app_last
 have l4:(M3 ++ [Blk.own (u8s' helI) 0]).length = M3.length + 1:=by simp
 generalize hM4:M3 ++ [Blk.own (u8s' helI) 0] = M4 at g4 k4 l4
 have c5:=ksh_call (M:=M4) (g4.g0 (g3.g0 k2)) (g4.g0 k3) k4
 have g5:GrowL M4 (M4 ++ [.own (u8s' encI) 1]) []:=GrowL.one _ _ _
 have k5:(M4 ++ [Blk.own (u8s' encI) 1])[M4.length]? = some (.own (u8s' encI) 1):=app_last
 generalize M4 ++ [Blk.own (u8s' encI) 1] = M5 at c5 g5 k5
 have g15:GrowL M1 M5 []:=((g2.tr g3).tr g4).tr g5
 have hc5:=g15.g0 h1
 have hw6:wr M5 M.length (0 + 3) [.bool true] = some (M5.set M.length (kcB true)):=wr_own hc5 (by simp) rfl
 have h6:=set_get (k:=kcB true) hc5
 have g6:GrowL M (M5.set M.length (kcB true)) []:=(g1.tr g15).st (Nat.le_refl _) hc5 (by simp [kcB])
 have k6:(M5.set M.length (kcB true))[M4.length]? = some (.own (u8s' encI) 1):=by
  rw [set_ne]; exact k5
  have h7:=lt_of h1
  have h8:=((g2.tr g3).tr g4).le
  omega
 generalize M5.set M.length (kcB true) = M6 at hw6 h6 g6 k6
 have hr6:rd M6 M.length 0 4 = some [.int .i64 3,.int .i64 8,.int .i64 4,.bool true]:=rd_own0 h6 rfl
 have g7:GrowL M6 (M6 ++ [.own (List.replicate 16 (.int .u8 0)) 0]) []:=GrowL.one _ _ _
 have k7:(M6 ++ [Blk.own (List.replicate 16 (.int .u8 0)) 0])[M6.length]? = some (.own zK 0):=app_last
 have l7:(M6 ++ [Blk.own (List.replicate 16 (.int .u8 0)) 0]).length = M6.length + 1:=by simp
 generalize hM7:M6 ++ [Blk.own (List.replicate 16 (.int .u8 0)) 0] = M7 at g7 k7 l7
 have g8:GrowL M7 (M7 ++ [.own (List.replicate 8 (.int .u8 0)) 0]) []:=GrowL.one _ _ _
 have k8:(M7 ++ [Blk.own (List.replicate 8 (.int .u8 0)) 0])[M7.length]? = some (.own zI 0):=app_last
 have l8:(M7 ++ [Blk.own (List.replicate 8 (.int .u8 0)) 0]).length = M7.length + 1:=by simp
 generalize hM8:M7 ++ [Blk.own (List.replicate 8 (.int .u8 0)) 0] = M8 at g8 k8 l8
 have g9:GrowL M8 (M8 ++ [.own [.sl M4.length 0 12 none] 0]) []:=GrowL.one _ _ _
 have k9:(M8 ++ [Blk.own [.sl M4.length 0 12 none] 0])[M8.length]? = some (.own [.sl M4.length 0 12 none] 0):=app_last
 generalize hM9:M8 ++ [Blk.own [.sl M4.length 0 12 none] 0] = M9 at g9 k9
 have k69:=((g7.tr g8).tr g9).g0 k6
 have c10:=kse_call (M:=M9) (g9.g0 (g8.g0 k7)) (g9.g0 k8) k9 k69
 have g10:GrowL M9 (M9 ++ [.own (u8s' helI) 1]) []:=GrowL.one _ _ _
 have k10:(M9 ++ [Blk.own (u8s' helI) 1])[M9.length]? = some (.own (u8s' helI) 1):=app_last
 generalize M9 ++ [Blk.own (u8s' helI) 1] = M10 at c10 g10 k10
 have g610:GrowL M6 M10 []:=((g7.tr g8).tr g9).tr g10
 have k610:=g610.g0 k6
 have hy:IsR M10 (.sl M9.length 0 12 none) helI:=.inr ⟨_,0,none,rfl,rd_own0 k10 rfl⟩
 have hx:IsR M10 (.sl M4.length 0 12 none) encI:=.inr ⟨_,0,none,rfl,rd_own0 k610 rfl⟩
 have g11:GrowL M10 (M10 ++ [.own cxZ 0]) []:=GrowL.one _ _ _
 have heq:∀ {M:Mem},abin noX (tyF 9) M .eql (.str (strOf helI)) (.str { data:=#[104,101,108,108,111,44,32,116,104,101,114,101] }) = some (.bool true,none):=fun {M} => by
  have:=b_eqlS (M:=M) (d:=tyF 9) hel_by hel_by
  rwa [decide_eq_true rfl] at this
 have hne:∀ {M:Mem},abin noX (tyF 9) M .neq (.str (strOf encI)) (.str (strOf helI)) = some (.bool true,none):=fun {M} => by
  have:=b_neqS (M:=M) (d:=tyF 9) enc_by hel_by
  rwa [decide_eq_false (by decide)] at this
 refine ⟨M10 ++ [.own cxZ 0],?_,(g6.tr g610).tr g11⟩
 refine acall_mk (n:=52) (fv:=fnOf Tryz.f4) rfl rfl (by simp) (by decide) ?_
 refine AWX.seq (AWX.region (AOX.q hG rfl (st_as rfl) rfl (AOX.nil ?_)))
 refine AWX.seq (AWX.region (AOX.q (v:=cfV false) hG rfl (by kernel_rfl) rfl (AOX.qv hG rfl hal rfl (AOX.qs hG rfl (st_sta (n:=4) row28 rfl rfl rfl hw1) (AOX.nil ?_)))))
 refine AWX.seq (AWX.draw ?_)
 refine QG2.q (bad:=[9,10,11,12]) hG (by kernel_rfl) rfl rfl (st_lda row28 rfl hr1) rfl ?_
 refine QG2.al (bad:=[8,10,11,12]) hG (by kernel_rfl) rfl (st_mkd (l:=16) (c:=16) el22 (by omega) rfl rfl (by omega) (by omega)) rfl ?_
 rw [hM2]
 refine QG2.cap (lo':=[(1,[M1.length],M1.length + 1000)]) (by simp [mkSt]; omega) ?_
 refine QG2.al (bad:=[8,9,11,12]) hG (by kernel_rfl) rfl (st_mkd (l:=8) (c:=8) el22 (by omega) rfl rfl (by omega) (by omega)) rfl ?_
 rw [hM3]
 refine QG2.cap (lo':=[(2,[M2.length],M2.length + 1000),(1,[M1.length],M1.length + 1000)]) (by simp [mkSt]; omega) ?_
 refine QG2.al (bad:=[8,9,10]) hG (by kernel_rfl) rfl (st_hel rfl rfl rfl rfl rfl rfl rfl rfl rfl rfl rfl rfl) rfl ?_
 change QG2 _ _ _ _ _ (mkSt _ _ (M3 ++ [Blk.own (u8s' helI) 0])) _ _
 rw [hM4]
 refine QG2.cv22 (bad:=[8,9,10]) (by kernel_rfl) ⟨.inl (by kernel_rfl),.inr (by simp; omega),.inr (by simp; omega),trivial⟩ rfl rfl k4 rfl ?_
 refine QG2.c (T:=[]) (bad:=[]) hG (by kernel_rfl) (by kernel_rfl) (.inl rfl) rfl (st_call rfl rfl) (c5) g5 rfl ?_
 refine QG2.b (bad:=[]) hG (by kernel_rfl) rfl (st_mv rfl) rfl ?_
 refine QG2.b (bad:=[15]) hG (by kernel_rfl) rfl (st_ex rfl rfl) rfl ?_
 refine QG2.b (bad:=[14,2]) hG (by kernel_rfl) rfl (st_ex rfl rfl) rfl ?_
 refine QG2.b (bad:=[15]) hG (by kernel_rfl) rfl (st_as rfl) rfl ?_
 refine QG2.b (bad:=[]) hG (by kernel_rfl) rfl (st_as rfl) rfl ?_
 refine QG2.done (by kernel_rfl) rfl ?_
 refine AWX.seq (AWX.region (AOX.q hG rfl (st_fa rfl rfl) rfl (AOX.qs hG rfl (st_st one4 rfl rfl rfl hw6) (AOX.nil ?_))))
 refine AWX.seq (AWX.draw ?_)
 refine QG2.q (bad:=[19,20,21,22]) hG (by kernel_rfl) rfl rfl (st_lda row28 rfl hr6) rfl ?_
 refine QG2.al (bad:=[18,20,21,22]) hG (by kernel_rfl) rfl (st_mkd (l:=16) (c:=16) el22 (by omega) rfl rfl (by omega) (by omega)) rfl ?_
 rw [hM7]
 refine QG2.al (bad:=[18,19,21,22]) hG (by kernel_rfl) rfl (st_mkd (l:=8) (c:=8) el22 (by omega) rfl rfl (by omega) (by omega)) rfl ?_
 rw [hM8]
 refine QG2.b (bad:=[18,19,20]) hG (by kernel_rfl) rfl (st_mv rfl) rfl ?_
 refine QG2.al (bad:=[18,19,20]) hG (by kernel_rfl) rfl (st_bs1d el36 rfl rfl) rfl ?_
 rw [hM9]
 refine QG2.c (T:=[]) (bad:=[]) hG (by kernel_rfl) (by kernel_rfl) (.inl rfl) rfl (st_call rfl rfl) (c10) g10 rfl ?_
 refine QG2.b (bad:=[]) hG (by kernel_rfl) rfl (st_mv rfl) rfl ?_
 refine QG2.b (bad:=[25]) hG (by kernel_rfl) rfl (st_ex rfl rfl) rfl ?_
 refine QG2.b (bad:=[24,4]) hG (by kernel_rfl) rfl (st_ex rfl rfl) rfl ?_
 refine QG2.b (bad:=[25]) hG (by kernel_rfl) rfl (st_as rfl) rfl ?_
 refine QG2.b (bad:=[]) hG (by kernel_rfl) rfl (st_as rfl) rfl ?_
 refine QG2.done (by kernel_rfl) rfl ?_
 refine AWX.seq (AWX.region (AOX.q hG rfl (st_mv rfl) rfl (AOX.q hG rfl (st_bin rfl rfl (b_eqlT rfl)) rfl (AOX.q hG rfl (st_mv rfl) rfl (AOX.qg hG rfl rfl (st_mv rfl) rfl (AOX.qg hG rfl rfl (st_bin rfl rfl (b_eqlT rfl)) rfl (AOX.q hG rfl (st_pickT rfl rfl) rfl (AOX.q hG rfl (st_mv rfl) rfl (AOX.qg hG rfl rfl (st_mv rfl) rfl (AOX.qg hG rfl rfl (st_cv rfl (cv_S hy)) rfl (AOX.qg hG rfl rfl (st_bin rfl rfl heq) rfl (AOX.q hG rfl (st_pickT rfl rfl) rfl (AOX.q hG rfl (st_mv rfl) rfl (AOX.qg hG rfl rfl (st_mv rfl) rfl (AOX.qg hG rfl rfl (st_cv rfl (cv_S hx)) rfl (AOX.qg hG rfl rfl (st_mv rfl) rfl (AOX.qg hG rfl rfl (st_cv rfl (cv_S hy)) rfl (AOX.qg hG rfl rfl (st_bin rfl rfl hne) rfl (AOX.q hG rfl (st_pickT rfl rfl) rfl (AOX.q hG rfl (st_mv rfl) rfl (AOX.qgc hG rfl rfl (st_call rfl rfl) (knw_call) rfl (AOX.qg hG rfl rfl (st_bin rfl rfl rfl) rfl (AOX.q hG rfl (st_pickT rfl rfl) rfl (AOX.q hG rfl (st_mv rfl) rfl (AOX.qgc hG rfl rfl (st_call rfl rfl) (ksz_call) rfl (AOX.qg hG rfl rfl (st_bin rfl rfl (b_eqlT rfl)) rfl (AOX.q hG rfl (st_pickT rfl rfl) rfl (AOX.q hG rfl (st_as rfl) rfl (AOX.nil ?_)))))))))))))))))))))))))))))
 refine AWX.fin rfl rfl
end
end Go.Proofs.YthajgdmcjfmjoaaGreatDoor.Rel
