/- TopSpoilt, part 14 of 38 of its proof: a relative machine (values, memory, an evaluator, all sound against the model), and by it the walks. Conditions: none. -/
import Derived.Test.YthajgdmcjfmjoaaGreatDoorG13
set_option linter.all false
namespace Go.Proofs.YthajgdmcjfmjoaaGreatDoor.Rel
open Go.Proofs
noncomputable section
def s1L:List Int:=[99,124,119,123,242,107,111,197,48,1,103,43,254,215,171,118,202,130,201,125,250,89,71,240,173,212,162,175,156,164,114,192,183,253,147,38,54,63,247,204,52,165,229,241,113,216,49,21,4,199,35,195,24,150,5,154,7,18,128,226,235,39,178,117,9,131,44,26,27,110,90,160,82,59,214,179,41,227,47,132,83,209,0,237,32,252,177,91,106,203,190,57,74,76,88,207,208,239,170,251,67,77,51,133,69,249,2,127,80,60,159,168,81,163,64,143,146,157,56,245,188,182,218,33,16,255,243,210,205,12,19,236,95,151,68,23,196,167,126,61,100,93,25,115,96,129,79,220,34,42,144,136,70,238,184,20,222,94,11,219,224,50,58,10,73,6,36,92,194,211,172,98,145,149,228,121,231,200,55,109,141,213,78,169,108,86,244,234,101,122,174,8,186,120,37,46,28,166,180,198,232,221,116,31,75,189,139,138,112,62,181,102,72,3,246,14,97,53,87,185,134,193,29,158,225,248,152,17,105,217,142,148,155,30,135,233,206,85,40,223,140,161,137,13,191,230,66,104,65,153,45,15,176,84,187,22]
def s2L:List Int:=[226,78,84,252,148,194,74,204,98,13,106,70,60,77,139,209,94,250,100,203,180,151,190,43,188,119,46,3,211,25,89,193,29,6,65,107,85,240,153,105,234,156,24,174,99,223,231,187,0,115,102,251,150,76,133,228,58,9,69,170,15,238,16,235,45,127,244,41,172,207,173,145,141,120,200,149,249,47,206,205,8,122,136,56,92,131,42,40,71,219,184,199,147,164,18,83,255,135,14,49,54,33,88,72,1,142,55,116,50,202,233,177,183,171,12,215,196,86,66,38,7,152,96,217,182,185,17,64,236,32,140,189,160,201,132,4,73,35,241,79,80,31,19,220,216,192,158,87,227,195,123,101,59,2,143,62,232,37,146,229,21,221,253,23,169,191,212,154,126,197,57,103,254,118,157,67,167,225,208,245,104,242,27,52,112,5,163,138,213,121,134,168,48,198,81,75,30,166,39,246,53,210,110,36,22,130,95,218,230,117,162,239,44,178,28,159,93,111,128,10,114,68,155,108,144,11,91,51,125,90,82,243,97,161,247,176,214,63,124,109,237,20,224,165,61,34,179,248,137,222,113,26,175,186,181,129]
def x1L:List Int:=[82,9,106,213,48,54,165,56,191,64,163,158,129,243,215,251,124,227,57,130,155,47,255,135,52,142,67,68,196,222,233,203,84,123,148,50,166,194,35,61,238,76,149,11,66,250,195,78,8,46,161,102,40,217,36,178,118,91,162,73,109,139,209,37,114,248,246,100,134,104,152,22,212,164,92,204,93,101,182,146,108,112,72,80,253,237,185,218,94,21,70,87,167,141,157,132,144,216,171,0,140,188,211,10,247,228,88,5,184,179,69,6,208,44,30,143,202,63,15,2,193,175,189,3,1,19,138,107,58,145,17,65,79,103,220,234,151,242,207,206,240,180,230,115,150,172,116,34,231,173,53,133,226,249,55,232,28,117,223,110,71,241,26,113,29,41,197,137,111,183,98,14,170,24,190,27,252,86,62,75,198,210,121,32,154,219,192,254,120,205,90,244,31,221,168,51,136,7,199,49,177,18,16,89,39,128,236,95,96,81,127,169,25,181,74,13,45,229,122,159,147,201,156,239,160,224,59,77,174,42,245,176,200,235,187,60,131,83,153,97,23,43,4,126,186,119,214,38,225,105,20,99,85,33,12,125]
def x2L:List Int:=[48,104,153,27,135,185,33,120,80,57,219,225,114,9,98,60,62,126,94,142,241,160,204,163,42,29,251,182,214,32,196,141,129,101,245,137,203,157,119,198,87,67,86,23,212,64,26,77,192,99,108,227,183,200,100,106,83,170,56,152,12,244,155,237,127,34,118,175,221,58,11,88,103,136,6,195,53,13,1,139,140,194,230,95,2,36,117,147,102,30,229,226,84,216,16,206,122,232,8,44,18,151,50,171,180,39,10,35,223,239,202,217,184,250,220,49,107,209,173,25,73,189,81,150,238,228,168,65,218,255,205,85,134,54,190,97,82,248,187,14,130,72,105,154,224,71,158,92,4,75,52,21,121,38,167,222,41,174,146,215,132,233,210,186,93,243,197,176,191,164,59,113,68,70,43,252,235,111,213,246,20,254,124,112,90,125,253,47,24,131,22,165,145,31,5,149,116,169,193,91,74,133,109,19,7,79,78,69,178,15,201,28,166,188,236,115,144,123,207,89,143,161,249,45,242,177,0,148,55,159,208,46,156,110,40,63,128,240,61,211,37,138,181,231,66,179,199,234,247,76,17,51,3,162,172,96]
def row1:List Nat:=[241,227,199,143,31,62,124,248]
def row2:List Nat:=[122,188,235,185,52,129,186,203]
theorem tab1:tabN 254 99 row1 = s1L:=by decide +kernel
theorem tab2:tabN 247 226 row2 = s2L:=by decide +kernel
theorem seen1:seenP s1L 256 = wantP 256:=eqVs_iff (by kernel_rfl)
theorem seen2:seenP s2L 256 = wantP 256:=eqVs_iff (by kernel_rfl)
theorem bck1:backP s1L 256 = x1L:=by decide +kernel
theorem bck2:backP s2L 256 = x2L:=by decide +kernel
def ariT (j:Nat):List Int:=bif Nat.beq j 0 then s1L else bif Nat.beq j 1 then s2L else bif Nat.beq j 2 then x1L else x2L
theorem ariT_inv:InvT ariT:=by
 unfold InvT
 decide +kernel
theorem ariT_len:∀ j,j < 4 → (ariT j).length = 256 ∧ ∀ n ∈ ariT j,0 ≤ n ∧ n ≤ 255:=by decide +kernel
theorem z133:(tyF 133).map Ty.zero = some [.nilsl,.nilsl,.nilsl,.nilsl]:=by kernel_rfl
section
variable {G:GF} {M:Mem}
theorem made_call (hG:GOK G):∃ (M2:Mem) (ts:List V),ACall Tryz.prog G 89 [] M (.agg ts) M2 ∧ GrowL M M2 [] ∧ TabA M2 ts ariT:=by
 suffices h:AWX G (fnOf Tryz.f89).body (mkSt 22 (argL 0 []) M) (fun ex s => ∃ (M2:Mem) (ts:List V),FiniC 22 (fnOf Tryz.f89).results (.agg ts) M2 ex s ∧ GrowL M M2 [] ∧ TabA M2 ts ariT) by
  obtain ⟨ex,s,h1,M2,ts,h2,h3⟩:=h
  exact ⟨M2,ts,acall_mkc (n:=22) (fv:=fnOf Tryz.f89) rfl rfl (by simp) (by decide) ⟨ex,s,h1,h2⟩,h3⟩
 have t1:s1L.length = 256:=(ariT_len 0 (by omega)).1
 have t2:s2L.length = 256:=(ariT_len 1 (by omega)).1
 have b1:Bytes s1L:=(ariT_len 0 (by omega)).2
 have b2:Bytes s2L:=(ariT_len 1 (by omega)).2
 have hM0:GrowL M (M ++ [.own [.nilsl,.nilsl,.nilsl,.nilsl] 0]) []:=GrowL.one _ _ _
 have hp0:(M ++ [Blk.own [.nilsl,.nilsl,.nilsl,.nilsl] 0])[M.length]? = some (.own [.nilsl,.nilsl,.nilsl,.nilsl] 0):=app_last
 refine AWX.seq (AWX.region (AOX.qv hG rfl (st_al z133) rfl (AOX.nil ?_)))
 generalize M ++ [Blk.own [.nilsl,.nilsl,.nilsl,.nilsl] 0] = M0 at hM0 hp0
 obtain ⟨M1,hc1,hM1,hr1⟩:=make_call (M:=M0) hG (e:=254) (c:=99) (rows:=row1) (by omega) (by omega) (by decide) rfl
 rw [tab1] at hr1
 have hp1:=hM1.g0 hp0
 refine AWX.seq (AWX.region (AOX.q (v:=.agg (u8n row1)) hG rfl (by kernel_rfl) rfl (AOX.qc hG rfl (st_call rfl rfl) hc1 rfl (AOX.q hG rfl (st_ixa (i:=0) ar133 rfl rfl (by omega)) rfl (AOX.qs hG rfl (st_st one22 rfl rfl rfl (wr_own hp1 (by simp) rfl)) (AOX.nil ?_))))))
 have hM1':GrowL M (M1.set M.length (.own ([V.nilsl,.nilsl,.nilsl,.nilsl].set (0 + 0) (.sl (M0.length + 1) 0 256 (some 256))) 0)) []:=(hM0.tr hM1).st (Nat.le_refl _) hp1 (by simp)
 have hne1:M.length ≠ M0.length + 1:=fun e => by have:=hM0.le; omega
 have hr1':(M1.set M.length (.own ([V.nilsl,.nilsl,.nilsl,.nilsl].set (0 + 0) (.sl (M0.length + 1) 0 256 (some 256))) 0))[M0.length + 1]? = some (.own (u8s' s1L) 0):=by rw [set_ne hne1]; exact hr1
 have hp1':=set_get (k:=.own ([V.nilsl,.nilsl,.nilsl,.nilsl].set (0 + 0) (.sl (M0.length + 1) 0 256 (some 256))) 0) hp1
 generalize M1.set M.length (.own ([V.nilsl,.nilsl,.nilsl,.nilsl].set (0 + 0) (.sl (M0.length + 1) 0 256 (some 256))) 0) = M2 at hM1' hr1' hp1'
 have hl0:M.length + 1 ≤ M0.length + 1:=by have:=hM0.le; omega
 generalize M0.length + 1 = q1 at hr1' hp1' hl0
 clear hr1 hp1 hM1 hc1 hp0 hM0 hne1
 obtain ⟨M3,hc2,hM3,hr2⟩:=make_call (M:=M2) hG (e:=247) (c:=226) (rows:=row2) (by omega) (by omega) (by decide) rfl
 rw [tab2] at hr2
 have hp2:=hM3.g0 hp1'
 have hr13:=hM3.g0 hr1'
 have hl1:=hM1'.le
 refine AWX.seq (AWX.region (AOX.q (v:=.agg (u8n row2)) hG rfl (by kernel_rfl) rfl (AOX.qc hG rfl (st_call rfl rfl) hc2 rfl (AOX.q hG rfl (st_ixa (i:=1) ar133 rfl rfl (by omega)) rfl (AOX.qs hG rfl (st_st one22 rfl rfl rfl (wr_own hp2 (by simp) rfl)) (AOX.nil ?_))))))
 have hM3':GrowL M (M3.set M.length (.own (([V.nilsl,.nilsl,.nilsl,.nilsl].set (0 + 0) (.sl q1 0 256 (some 256))).set (0 + 1) (.sl (M2.length + 1) 0 256 (some 256))) 0)) []:=(hM1'.tr hM3).st (Nat.le_refl _) hp2 (by simp)
 have hr1':(M3.set M.length (.own (([V.nilsl,.nilsl,.nilsl,.nilsl].set (0 + 0) (.sl q1 0 256 (some 256))).set (0 + 1) (.sl (M2.length + 1) 0 256 (some 256))) 0))[q1]? = some (.own (u8s' s1L) 0):=by rw [set_ne (by omega)]; exact hr13
 have hr2':(M3.set M.length (.own (([V.nilsl,.nilsl,.nilsl,.nilsl].set (0 + 0) (.sl q1 0 256 (some 256))).set (0 + 1) (.sl (M2.length + 1) 0 256 (some 256))) 0))[M2.length + 1]? = some (.own (u8s' s2L) 0):=by rw [set_ne (by omega)]; exact hr2
 have hp3:=set_get (k:=.own (([V.nilsl,.nilsl,.nilsl,.nilsl].set (0 + 0) (.sl q1 0 256 (some 256))).set (0 + 1) (.sl (M2.length + 1) 0 256 (some 256))) 0) hp2
 generalize M3.set M.length (.own (([V.nilsl,.nilsl,.nilsl,.nilsl].set (0 + 0) (.sl q1 0 256 (some 256))).set (0 + 1) (.sl (M2.length + 1) 0 256 (some 256))) 0) = M4 at hM3' hr1' hr2' hp3
 have hl2:M.length + 1 ≤ M2.length + 1:=by omega
 generalize M2.length + 1 = q2 at hr2' hp3 hl2
 clear hr2 hp2 hM3 hc2 hM1' hr13 hl1
 obtain ⟨M5,q3,hc3,hM5,hl3,hr3⟩:=back_call (M:=M4) (b:=q1) (o:=0) (lim:=some 256) hG t1 b1 seen1 (rd_own0 hr1' (by rw [u8s'_len,t1]))
 rw [bck1] at hr3
 have hp5:=hM5.g0 hp3
 have h15:=hM5.g0 hr1'
 have h25:=hM5.g0 hr2'
 have hl4:=hM3'.le
 refine AWX.seq (AWX.region (AOX.q hG rfl (st_ixa (i:=0) ar133 rfl rfl (by omega)) rfl (AOX.q (v:=.sl q1 0 256 (some 256)) hG rfl (st_ld one22 rfl (by rw [rd_own hp3 (by simp)]; rfl)) rfl (AOX.qc hG rfl (st_call rfl rfl) hc3 rfl (AOX.q hG rfl (st_mv rfl) rfl (AOX.q hG rfl (st_ex rfl rfl) rfl (AOX.q hG rfl (st_ex rfl rfl) rfl (AOX.q hG rfl (st_ixa (i:=2) ar133 rfl rfl (by omega)) rfl (AOX.qs hG rfl (st_st one22 rfl rfl rfl (wr_own hp5 (by simp) rfl)) (AOX.nil ?_))))))))))
 have hM6:=(hM3'.tr hM5).st (Nat.le_refl _) hp5 (k:=.own ((([V.nilsl,.nilsl,.nilsl,.nilsl].set (0 + 0) (.sl q1 0 256 (some 256))).set (0 + 1) (.sl q2 0 256 (some 256))).set (0 + 2) (.sl q3 0 256 (some 256))) 0) (by simp)
 have hp6:=set_get (k:=.own ((([V.nilsl,.nilsl,.nilsl,.nilsl].set (0 + 0) (.sl q1 0 256 (some 256))).set (0 + 1) (.sl q2 0 256 (some 256))).set (0 + 2) (.sl q3 0 256 (some 256))) 0) hp5
 have h16:(M5.set M.length (.own ((([V.nilsl,.nilsl,.nilsl,.nilsl].set (0 + 0) (.sl q1 0 256 (some 256))).set (0 + 1) (.sl q2 0 256 (some 256))).set (0 + 2) (.sl q3 0 256 (some 256))) 0))[q1]? = some (.own (u8s' s1L) 0):=by rw [set_ne (by omega)]; exact h15
 have h26:(M5.set M.length (.own ((([V.nilsl,.nilsl,.nilsl,.nilsl].set (0 + 0) (.sl q1 0 256 (some 256))).set (0 + 1) (.sl q2 0 256 (some 256))).set (0 + 2) (.sl q3 0 256 (some 256))) 0))[q2]? = some (.own (u8s' s2L) 0):=by rw [set_ne (by omega)]; exact h25
 have h36:(M5.set M.length (.own ((([V.nilsl,.nilsl,.nilsl,.nilsl].set (0 + 0) (.sl q1 0 256 (some 256))).set (0 + 1) (.sl q2 0 256 (some 256))).set (0 + 2) (.sl q3 0 256 (some 256))) 0))[q3]? = some (.own (u8s' x1L) 0):=by
  have:=lt_of hp3
  rw [set_ne (by omega)]; exact hr3
 have hl5:M.length + 1 ≤ q3:=by have:=lt_of hp3; omega
 generalize M5.set M.length (.own ((([V.nilsl,.nilsl,.nilsl,.nilsl].set (0 + 0) (.sl q1 0 256 (some 256))).set (0 + 1) (.sl q2 0 256 (some 256))).set (0 + 2) (.sl q3 0 256 (some 256))) 0) = M6 at hM6 hp6 h16 h26 h36
 clear hr3 hp5 hM5 hc3 h15 h25 hM3' hp3 hr1' hr2' hl3 hl4
 obtain ⟨M7,q4,hc4,hM7,hl6,hr4⟩:=back_call (M:=M6) (b:=q2) (o:=0) (lim:=some 256) hG t2 b2 seen2 (rd_own0 h26 (by rw [u8s'_len,t2]))
 rw [bck2] at hr4
 have hp7:=hM7.g0 hp6
 have hq4:M.length ≠ q4:=by have:=lt_of hp6; omega
 refine AWX.seq (AWX.region (AOX.q hG rfl (st_ixa (i:=1) ar133 rfl rfl (by omega)) rfl (AOX.q (v:=.sl q2 0 256 (some 256)) hG rfl (st_ld one22 rfl (by rw [rd_own hp6 (by simp)]; rfl)) rfl (AOX.qc hG rfl (st_call rfl rfl) hc4 rfl (AOX.q hG rfl (st_mv rfl) rfl (AOX.q hG rfl (st_ex rfl rfl) rfl (AOX.q hG rfl (st_ex rfl rfl) rfl (AOX.q hG rfl (st_ixa (i:=3) ar133 rfl rfl (by omega)) rfl (AOX.qs hG rfl (st_st one22 rfl rfl rfl (wr_own hp7 (by simp) rfl)) (AOX.nil ?_))))))))))
 have hM8:=(hM6.tr hM7).st (Nat.le_refl _) hp7 (k:=.own [.sl q1 0 256 (some 256),.sl q2 0 256 (some 256),.sl q3 0 256 (some 256),.sl q4 0 256 (some 256)] 0) (by simp)
 have hp8:(M7.set M.length (.own [V.sl q1 0 256 (some 256),.sl q2 0 256 (some 256),.sl q3 0 256 (some 256),.sl q4 0 256 (some 256)] 0))[M.length]? = _:=set_get hp7
 have hA:TabA (M7.set M.length (.own [V.sl q1 0 256 (some 256),.sl q2 0 256 (some 256),.sl q3 0 256 (some 256),.sl q4 0 256 (some 256)] 0)) [V.sl q1 0 256 (some 256),.sl q2 0 256 (some 256),.sl q3 0 256 (some 256),.sl q4 0 256 (some 256)] ariT:=by
  have g:∀ {q:Nat} {l:List Int},M.length ≠ q → l.length = 256 → M7[q]? = some (.own (u8s' l) 0) → rd (M7.set M.length (.own [V.sl q1 0 256 (some 256),.sl q2 0 256 (some 256),.sl q3 0 256 (some 256),.sl q4 0 256 (some 256)] 0)) q 0 256 = some (u8s' l):=fun hne hl h => rd_own0 (by rw [set_ne hne]; exact h) (by rw [u8s'_len,hl])
  refine ⟨rfl,fun j hj => ?_,ariT_len⟩
  match j,hj with
  | 0,_ => exact ⟨q1,_,rfl,g (by omega) t1 (hM7.g0 h16)⟩
  | 1,_ => exact ⟨q2,_,rfl,g (by omega) t2 (hM7.g0 h26)⟩
  | 2,_ => exact ⟨q3,_,rfl,g (by omega) (ariT_len 2 (by omega)).1 (hM7.g0 h36)⟩
  | 3,_ => exact ⟨q4,_,rfl,g hq4 (ariT_len 3 (by omega)).1 hr4⟩
 generalize hM9:M7.set M.length (.own [V.sl q1 0 256 (some 256),.sl q2 0 256 (some 256),.sl q3 0 256 (some 256),.sl q4 0 256 (some 256)] 0) = M9 at hM8 hp8 hA
 have hg9:(M7.set M.length (.own (((([V.nilsl,.nilsl,.nilsl,.nilsl].set (0 + 0) (.sl q1 0 256 (some 256))).set (0 + 1) (.sl q2 0 256 (some 256))).set (0 + 2) (.sl q3 0 256 (some 256))).set (0 + 3) (.sl q4 0 256 (some 256))) 0)) = M9:=hM9
 rw [hg9]
 refine AWX.seq (AWX.region (AOX.q hG rfl (st_lda row133 rfl (rd_own0 hp8 rfl)) rfl (AOX.qs hG rfl (st_sta (n:=4) row133 rfl rfl rfl (wr_whole hp8 rfl rfl)) (AOX.nil (AWX.ret ?_)))))
 have hset:M9.set M.length (.own [V.sl q1 0 256 (some 256),.sl q2 0 256 (some 256),.sl q3 0 256 (some 256),.sl q4 0 256 (some 256)] 0) = M9:=List.set_getElem?_self' hp8
 rw [hset]
 exact ⟨M9,_,⟨.inr rfl,_,_,rfl,cell_row row133 rfl (rd_own0 hp8 rfl),rfl⟩,hM8,hA⟩
end
end
end Go.Proofs.YthajgdmcjfmjoaaGreatDoor.Rel
