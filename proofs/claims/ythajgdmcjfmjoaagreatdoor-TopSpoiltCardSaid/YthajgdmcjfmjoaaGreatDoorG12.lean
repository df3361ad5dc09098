/- TopSpoilt, part 12 of 38 of its proof: a relative machine (values, memory, an evaluator, all sound against the model), and by it the walks. Conditions: none. -/
import Derived.Test.YthajgdmcjfmjoaaGreatDoorG11
set_option linter.all false
namespace Go.Proofs.YthajgdmcjfmjoaaGreatDoor.Rel
open Go.Proofs
noncomputable section
theorem kMix:rnChk or0X noS 8 rMix [] = true:=by kernel_rfl
theorem kMixB:mixChk (entOf or0X noS 8 rMix) = true:=by kernel_rfl
def ariTurns:List Int:=[-19,-31,61,31,19]
theorem kTurnA:ariTurns.all (fun n => rnChk or0X noS 8 (rTurnA n 2300) []) = true:=by kernel_rfl
theorem out_bytes {G:GF} {X:Rule} {S:Known} (hG:GOK G) {m n:Nat} {r:Rn} {bad:List Nat} (h:rnChk X S m r bad = true) (hgb:gb r.gid = (0,255)) {x:List Int} (hf:Fits (tbOf r.shs) (x.map some)):Bytes (outB G (entOf X S m r) n x):=by
 unfold rnChk at h
 split at h
 ·rename_i p hp
  obtain ⟨v0,M0',ch⟩:=p
  have hent:entOf X S m r = (r.gid,dropK M0' (cnts r.shs),(outsOf (v0,M0',ch)).map (·.2)):=by unfold entOf; rw [hp]
  rw [hent]
  have hout:outsOf (v0,M0',ch) = kBlks v0 M0' fun bl => symN M0' bl (syms v0 []):=rfl
  rw [hout]
  simp only [kBlks,kNats_eq,kOuts_eq,tabsK_eq,dropK_eq,Bool.and_eq_true] at h ⊢
  generalize more M0' (more M0' (more M0' (more M0' (refs v0 []) (refs v0 [])) (more M0' (refs v0 []) (refs v0 []))) (more M0' (more M0' (refs v0 []) (refs v0 [])) (more M0' (refs v0 []) (refs v0 [])))) (more M0' (more M0' (more M0' (refs v0 []) (refs v0 [])) (more M0' (refs v0 []) (refs v0 []))) (more M0' (more M0' (refs v0 []) (refs v0 [])) (more M0' (refs v0 []) (refs v0 [])))) = bl at h ⊢
  generalize symN M0' bl (syms v0 []) = outs at h ⊢
  have h6:=h.2.2.2.2.2
  intro y hy
  obtain ⟨j,_,rfl⟩:=List.mem_map.1 hy
  have hf2:=tabs_ok (G:=G) hG (M0'.drop (cnts r.shs)) hf
  unfold numAt
  simp only [List.getElem?_map]
  cases hj:outs[j]? with
  | none => simp
  | some kq =>
   obtain ⟨lo,hi,b1,b2,b3⟩:=outIn_ok h6 j kq.1 kq.2 hj
   obtain ⟨n,c1,c2,c3⟩:=hf2.num kq.2 lo hi b1
   simp only [Option.map_some,c1]
   rw [hgb] at b2 b3
   simp only at b2 b3
   omega
 ·cases h
def mixF (G:GF) (x:List Int):List Int:=outB G (entOf or0X noS 8 rMix) 16 x
theorem outB_len {G:GF} {e:Lvl} {n:Nat} {x:List Int}:(outB G e n x).length = n:=by simp [outB]
theorem fits16 {x:List Int} (hx:x.length = 16) (hb:Bytes x):Fits (List.replicate 16 (some (0,255))) (x.map some):=by have:=bytes_fits hb; rwa [hx] at this
theorem mixF_in {G:GF} (hG:GOK G) {x:List Int} (hx:x.length = 16) (hb:Bytes x):(mixF G x).length = 16 ∧ Bytes (mixF G x):=⟨outB_len,out_bytes hG kMix rfl (fits16 hx hb)⟩
theorem mixF_back {G:GF} (hG:GOK G) {x:List Int} (hx:x.length = 16) (hb:Bytes x):mixF G (mixF G x) = x:=by
 have e:(x.map Int.toNat).map (fun n:Nat => (n:Int)) = x:=by
  rw [List.map_map]
  conv => rhs; rw [← List.map_id x]
  refine List.map_congr_left fun n hn => ?_
  have:=hb n hn
  simp only [Function.comp_apply,id]; omega
 have:=mix_mix hG kMixB (x:=x.map Int.toNat) (by simpa using hx) (fun n hn => by
  obtain ⟨m,hm,rfl⟩:=List.mem_map.1 hn
  have:=hb m hm
  omega)
 rw [e] at this
 exact this
theorem lit_row16 {ys:List V} (h:ys.length = 16) (base:Nat):insN ys base [(symT' .u8 16 0,0)] = some [.own ys 0]:=by
 simp only [insN,insTs_sym ys 16 0 (by omega),List.drop_zero,Option.map_some]
 rw [← h,List.take_length]
section
variable {G:GF} {b o:Nat} {lim:Option Nat} {M:Mem} {x:List Int}
theorem mix_call (hG:GOK G) (hx:x.length = 16) (hb:Bytes x) (hr:rd M b o 16 = some (u8s' x)) (hl:LimP M b o 16 lim):ACall Tryz.prog G 93 [.sl b o 16 lim] M (.tup [.sl M.length 0 16 (some 16),.bool true]) (M ++ [.own (u8s' (mixF G x)) 0]):=by
 have hm:=mt_row (l:=[]) (vs:=[]) hb hr hl rfl
 have hy:litY G (entOf or0X noS 8 rMix) rMix.oks x = u8s' (mixF G x):=litY_u8
 have hlen:(u8s' (mixF G x)).length = 16:=by rw [u8s'_len,(mixF_in hG hx hb).1]
 exact rn_lit hG or0X_ok noS_ok kMix hm (fun φ => by rw [List.append_nil]; exact nums_u8' x φ) (by rw [hy]; rfl) (by rw [hy]; exact lit_row16 hlen _)
def rotF (G:GF) (n:Int) (x:List Int):List Int:=outB G (entOf or0X noS 8 (rTurnA n 2300)) 16 x
theorem rotF_in (hG:GOK G) {n:Int} (hn:n ∈ ariTurns) (hx:x.length = 16) (hb:Bytes x):(rotF G n x).length = 16 ∧ Bytes (rotF G n x):=⟨outB_len,out_bytes hG (List.all_eq_true.1 kTurnA n hn) rfl (by
 have:tbOf (rTurnA n 2300).shs = List.replicate 16 (some (0,255)):=rfl
 rw [this]; exact fits16 hx hb)⟩
theorem rot_call (hG:GOK G) {n:Int} (hn:n ∈ ariTurns) (hx:x.length = 16) (hb:Bytes x) (hr:rd M b o 16 = some (u8s' x)) (hl:LimP M b o 16 lim):ACall Tryz.prog G 109 [.sl b o 16 lim,.int .i64 n] M (.sl M.length 0 16 (some 16)) (M ++ [.own (u8s' (rotF G n x)) 0]):=by
 have hm:mt M (rTurnA n 2300).shs [.sl b o 16 lim,.int .i64 n] = some (u8s' x ++ [],[(b,o,lim)]):=mt_row hb hr hl (by
  have:eqI n n = true:=(eqI_iff n n).2 rfl
  simp [mt,eqLit,this])
 have hy:litY G (entOf or0X noS 8 (rTurnA n 2300)) (rTurnA n 2300).oks x = u8s' (rotF G n x):=litY_u8
 have hlen:(u8s' (rotF G n x)).length = 16:=by rw [u8s'_len,(rotF_in hG hn hx hb).1]
 exact rn_lit hG or0X_ok noS_ok (List.all_eq_true.1 kTurnA n hn) hm (fun φ => by rw [List.append_nil]; exact nums_u8' x φ) (by rw [hy]; rfl) (by rw [hy]; exact lit_row16 hlen _)
end
theorem st_lda {ρ:Operand → Option V} {M:Mem} {a:Operand} {t:TypeId} {n b o:Nat} {cs:List V} (ht:∃ d,tyF t = some d ∧ d.kind.row = true ∧ d.size = n) (ha:ρ a = some (.ptr b o)) (hr:rd M b o n = some cs):astep noX tyF ρ M (.load t a) = some (.pure (.agg cs)):=by
 obtain ⟨d,h1,h2,rfl⟩:=ht
 simp only [astep,aLoad,h1,Option.bind_some,ha,loadV,h2,if_true,hr,Option.map_some,rv]
theorem row133:∃ d,tyF 133 = some d ∧ d.kind.row = true ∧ d.size = 4:=⟨_,rfl,rfl,rfl⟩
def turnF (G:GF) (w:Nat) (T:Nat → List Int) (x k:List Int):List Int:=mixF G (layL w T (xorL x k))
section
variable {G:GF} {b o c p w:Nat} {lim lim2:Option Nat} {M:Mem} {x k:List Int} {ts:List V} {T:Nat → List Int}
theorem turnF_in (hG:GOK G) (hT:∀ j,j < 4 → (T j).length = 256 ∧ Bytes (T j)) (hx:x.length = 16) (hk:k.length = 16):(turnF G w T x k).length = 16 ∧ Bytes (turnF G w T x k) :=
 mixF_in hG (by rw [layL_len,xorL_len (by omega),hx]) (layL_in hT)
theorem turn_call (hG:GOK G) (hA:TabA M ts T) (hw:1 ≤ w ∧ w ≤ 2) (hx:x.length = 16) (hk:k.length = 16) (hbx:Bytes x) (hbk:Bytes k) (hr:rd M b o 16 = some (u8s' x)) (hr2:rd M c p 16 = some (u8s' k)) :
  ∃ (M2:Mem) (q:Nat),ACall Tryz.prog G 91 [.agg ts,.int .i64 w,.sl b o 16 lim,.sl c p 16 lim2] M (.sl q 0 16 (some 16)) M2 ∧ GrowL M M2 [] ∧ M.length ≤ q ∧ M2[q]? = some (.own (u8s' (turnF G w T x k)) 0):=by
 suffices h:AWX G (fnOf Tryz.f91).body (mkSt 24 (argL 0 [.agg ts,.int .i64 w,.sl b o 16 lim,.sl c p 16 lim2]) M) (fun e s => ∃ (M2:Mem) (q:Nat),Fini 24 (fnOf Tryz.f91).results (.sl q 0 16 (some 16)) M2 e s ∧ GrowL M M2 [] ∧ M.length ≤ q ∧ M2[q]? = some (.own (u8s' (turnF G w T x k)) 0)) by
  obtain ⟨e,s,h1,M2,q,h2,h3⟩:=h
  exact ⟨M2,q,acall_mk (n:=24) (fv:=fnOf Tryz.f91) rfl rfl (by simp) (by decide) ⟨e,s,h1,h2⟩,h3⟩
 have hxk:(xorL x k).length = 16:=by rw [xorL_len (by omega),hx]
 have hM1:GrowL M (M ++ [.own ts 0]) []:=GrowL.one _ _ _
 have h1:(M ++ [Blk.own ts 0])[M.length]? = some (.own ts 0):=app_last
 refine AWX.seq (AWX.region (AOX.qv (M':=M ++ [.own ts 0]) hG rfl (st_box (v:=.agg ts) rfl) rfl (AOX.q hG rfl (st_as rfl) rfl (AOX.nil ?_))))
 generalize M ++ [Blk.own ts 0] = M1 at hM1 h1
 refine AWX.seq (AWX.region (AOX.q hG rfl (st_mv rfl) rfl (AOX.q hG rfl (st_mv rfl) rfl (AOX.qc hG rfl (st_call rfl rfl) (xor_call hG hx hk hbx hbk (rd_grow hM1 hr (by simp)) (rd_grow hM1 hr2 (by simp)) (by omega)) rfl
  (AOX.q hG rfl (st_mv rfl) rfl (AOX.q hG rfl (st_ex rfl rfl) rfl (AOX.q hG rfl (st_ex rfl rfl) rfl (AOX.q hG rfl (st_as rfl) rfl (AOX.nil ?_)))))))))
 have hM2:GrowL M (M1 ++ [.own (u8s' (xorL x k)) 0]) []:=hM1.tr (GrowL.one _ _ _)
 have h12:(M1 ++ [Blk.own (u8s' (xorL x k)) 0])[M.length]? = some (.own ts 0):=(GrowL.one _ _ _).g0 h1
 have h2:(M1 ++ [Blk.own (u8s' (xorL x k)) 0])[M1.length]? = some (.own (u8s' (xorL x k)) 0):=app_last
 generalize M1 ++ [Blk.own (u8s' (xorL x k)) 0] = M2 at hM2 h12 h2
 have hA2:=hA.grow hM2
 have hM3:GrowL M2 (M2 ++ [.own ts 0,.own (u8s' (layL w T (xorL x k))) 0]) []:=GrowL.two _ _ _ _ _
 have h3:(M2 ++ [Blk.own ts 0,.own (u8s' (layL w T (xorL x k))) 0])[M2.length + 1]? = some (.own (u8s' (layL w T (xorL x k))) 0):=two_last
 have hll:(layL w T (xorL x k)).length = 16:=by rw [layL_len,hxk]
 refine AWX.seq (AWX.region (AOX.q hG rfl (st_lda row133 rfl (rd_own0 h12 hA.len)) rfl (AOX.q hG rfl (st_mv rfl) rfl (AOX.q hG rfl (st_mv rfl) rfl
  (AOX.qc hG rfl (st_call rfl rfl) (lay_call hG hA2 hw hxk (xorL_in hbx hbk) (rd_own0 h2 (by rw [u8s'_len,hxk])) (by omega)) rfl ?_)))))
 generalize M2 ++ [Blk.own ts 0,.own (u8s' (layL w T (xorL x k))) 0] = M3 at hM3 h3
 refine AOX.qc hG rfl (st_call rfl rfl) (mix_call hG hll (layL_in hA.tl) (rd_own0 h3 (by rw [u8s'_len,hll])) (show 16 ≤ 16 by omega)) rfl
  (AOX.q hG rfl (st_mv rfl) rfl (AOX.q hG rfl (st_ex rfl rfl) rfl (AOX.q hG rfl (st_ex rfl rfl) rfl (AOX.q hG rfl (st_as rfl) rfl (AOX.nil ?_)))))
 refine AWX.seq (AWX.region (AOX.q hG rfl (st_mv rfl) rfl (AOX.q hG rfl (st_as rfl) rfl (AOX.nil (AWX.ret ?_)))))
 exact ⟨_,M3.length,⟨.inr rfl,_,_,rfl,rfl,rfl⟩,(hM2.tr hM3).tr (GrowL.one _ _ _),Nat.le_trans hM2.le hM3.le,app_last⟩
end
end
end Go.Proofs.YthajgdmcjfmjoaaGreatDoor.Rel
