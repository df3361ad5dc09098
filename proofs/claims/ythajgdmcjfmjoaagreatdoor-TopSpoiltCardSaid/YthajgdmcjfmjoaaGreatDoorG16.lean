/- TopSpoilt, part 16 of 38 of its proof: a relative machine (values, memory, an evaluator, all sound against the model), and by it the walks. Conditions: none. -/
import Derived.Lib.SlBytesConst
import Derived.WalkKit
import Derived.Recover
import Derived.Test.YthajgdmcjfmjoaaGreatDoorRows
import Derived.ProofKit
import Derived.OpenShut
import Derived.ChangeOld
import Derived.Below
import Derived.LaidMore
import Derived.Test.YthajgdmcjfmjoaaGreatDoorG15
set_option linter.all false
namespace Go.Proofs.YthajgdmcjfmjoaaGreatDoor.Rel
section
open Go.Proofs
noncomputable section
section
variable {n:Nat} {l:List (Nat × V)} {M M':Mem} {v:V} {G:GF} {ops:Array Oper} {L:List Nat} {i d j:Nat} {K:St → Prop} {op:Op} {ty:TypeId} {pos:String} {af:Array Edge} {Q:AExit → St → Prop} {id:Nat} {s0 s:St} {lo:Lo} {bad:List Nat} {w:Bool} {y:Option Bool}
theorem gave_get {b:Option Bool} (h:gaveL ops s.get j = some b):gave ops s j = some b:=by
 unfold gaveL at h
 unfold gave
 split at h
 ·rename_i p hp
  rw [hp]
  split at h
  ·rename_i d hd
   simp only [hd]
   simp only [St.get] at h
   split at h
   ·rename_i x hx
    split at hx
    ·rename_i y hy
     subst hx; rw [hy]; exact h
    ·cases hx
   ·rename_i hx
    split at hx
    ·rename_i y hy
     subst hx; rw [hy]; exact h
    ·cases hx
   ·cases h
  ·cases h
 ·cases h
theorem gave_see {b:Option Bool} {kM:Mem} (hb:badT ops (msOf ops) i = bad) (h:gaveL ops (getD bad n l) j = some b):gave ops (seen ops (msOf ops) i (mkSt n l M) kM) j = some b :=
 gave_get (by rw [seen_getD hb]; exact h)
theorem AOX.qgc {f:Nat} {al:List V} (hG:GOK G) (ho:ops[i]? = some ⟨some d,op,ty,pos,af,some (j,w)⟩) (hg:gaveL ops (getL n l) j = some (some w)) (hr:astep noX tyF (getL n l) M op = some (.call f al)) (hc:ACall Tryz.prog G f al M v M') (hd:Nat.blt d n = true) (h:AOX G ops L (mkSt n ((d,v) :: l) M') K):AOX G ops (i :: L) (mkSt n l M) K:=by
 obtain ⟨s',h1,h2⟩:=h
 rw [← mk_put (v:=v) (M':=M') (M:=M) hd] at h1
 exact ⟨s',AOps.cons (AOpV.op (AOpV.step (r:=.call f al) hG noX_ok tyF_ok ho (by simp [wants,gave_mk hg]) (by rw [mk_get]; exact hr) (v:=v) (M':=M') hc)) h1,h2⟩
theorem QG2.bg (hG:GOK G) (hb:badT ops (msOf ops) i = bad) (ho:ops[i]? = some ⟨some d,op,ty,pos,af,some (j,w)⟩) (hg:gaveL ops (getD bad n l) j = some (some w)) (hr:astep noX tyF (getD bad n l) (deads M) op = some (.pure v)) (hd:Nat.blt d n = true) (h:QG2 G ops id s0 (i + 1) (mkSt n ((d,v) :: l) M) lo Q):QG2 G ops id s0 i (mkSt n l M) lo Q:=by
 intro hq
 refine h ?_
 rw [← mk_put (v:=v) (M':=M) hd]
 refine hq.step ho (kM:=deads M) (R:=deads M) (T:=[]) (by simp [deads,mkSt]) (fun _ _ hk => .inl (deads_dead hk)) (AOpV.step (r:=.pure v) hG noX_ok tyF_ok ho (by simp [wants,gave_see hb hg]) (by rw [seen_getD hb]; exact hr) (v:=v) (M':=deads M) ⟨rfl,rfl⟩) (GrowL.refl _) (.inl rfl) (.inr ⟨rfl,rfl,rfl⟩) (fun _ h => h) (.inr ⟨rfl,rfl⟩)
theorem QG2.bn (hb:badT ops (msOf ops) i = bad) (ho:ops[i]? = some ⟨some d,op,ty,pos,af,some (j,w)⟩) (hg:gaveL ops (getD bad n l) j = some y) (hy:(y == some w) = false) (hd:Nat.blt d n = true) (h:QG2 G ops id s0 (i + 1) (mkSt n ((d,undefV) :: l) M) lo Q):QG2 G ops id s0 i (mkSt n l M) lo Q:=by
 intro hq
 refine h ?_
 rw [← mk_put (v:=undefV) (M':=M) hd]
 refine hq.step ho (kM:=deads M) (R:=deads M) (T:=[]) (by simp [deads,mkSt]) (fun _ _ hk => .inl (deads_dead hk)) (AOpV.idle (s:=seen ops (msOf ops) i (mkSt n l M) (deads M)) ho (by simp [wants,gave_see hb hg,hy])) (GrowL.refl _) (.inl rfl) (.inr ⟨rfl,rfl,rfl⟩) (fun _ h => h) (.inr ⟨rfl,rfl⟩)
theorem QG2.qg (hG:GOK G) (hb:badT ops (msOf ops) i = bad) (hlo:(lo.all fun p => bf (msOf ops) p.1 i) = true) (ho:ops[i]? = some ⟨some d,op,ty,pos,af,some (j,w)⟩) (hg:gaveL ops (getD bad n l) j = some (some w)) (hr:astep noX tyF (getD bad n l) M op = some (.pure v)) (hd:Nat.blt d n = true) (h:QG2 G ops id s0 (i + 1) (mkSt n ((d,v) :: l) M) lo Q):QG2 G ops id s0 i (mkSt n l M) lo Q:=by
 intro hq
 refine h ?_
 rw [← mk_put (v:=v) (M':=M) hd]
 refine hq.step ho (kM:=M) (R:=M) (T:=[]) rfl (fun _ _ hk => .inr ⟨hk,fun p hp => .inl (List.all_eq_true.1 hlo p hp)⟩) (AOpV.step (r:=.pure v) hG noX_ok tyF_ok ho (by simp [wants,gave_see hb hg]) (by rw [seen_getD hb]; exact hr) (v:=v) (M':=M) ⟨rfl,rfl⟩) (GrowL.refl _) (.inl rfl) (.inl ⟨rfl,rfl⟩) (fun _ h => h) (.inr ⟨rfl,rfl⟩)
theorem QG2.cg {T:List Nat} {f:Nat} {al:List V} (hG:GOK G) (hb:badT ops (msOf ops) i = bad) (hlo:(lo.all fun p => bf (msOf ops) p.1 i) = true) (hT:T = [] ∨ ∀ j,j < i → bf (msOf ops) j i = true) (ho:ops[i]? = some ⟨some d,op,ty,pos,af,some (j,w)⟩) (hgv:gaveL ops (getD bad n l) j = some (some w)) (hr:astep noX tyF (getD bad n l) M op = some (.call f al)) (hc:ACall Tryz.prog G f al M v M') (hg:GrowL M M' T) (hd:Nat.blt d n = true) (h:QG2 G ops id s0 (i + 1) (mkSt n ((d,v) :: l) M') ((i,T,M.length) :: lo) Q):QG2 G ops id s0 i (mkSt n l M) lo Q:=by
 intro hq
 refine h ?_
 rw [← mk_put (v:=v) (M':=M') (M:=M) hd]
 exact hq.step ho (kM:=M) (R:=M') (T:=T) rfl (fun _ _ hk => .inr ⟨hk,fun p hp => .inl (List.all_eq_true.1 hlo p hp)⟩) (AOpV.step (r:=.call f al) hG noX_ok tyF_ok ho (by simp [wants,gave_see hb hgv]) (by rw [seen_getD hb]; exact hr) (v:=v) (M':=M') hc) hg hT (.inl ⟨rfl,rfl⟩) (fun _ h => List.mem_cons_of_mem _ h) (.inl ⟨_,List.mem_cons_self ..,rfl,rfl,rfl⟩)
end
def strOf (xs:List Int):ByteArray:=⟨(xs.map fun n => UInt8.ofNat n.toNat).toArray⟩
section
variable {ρ:Operand → Option V} {M:Mem} {x:Operand} {v:V} {xs ys:List Int} {d:Option Ty}
theorem u8s_u8:∀ xs:List Int,u8s (u8s' xs) = some (xs.map fun n => UInt8.ofNat n.toNat)
 | [] => rfl
 | a :: xs => by
  have:=u8s_u8 xs
  simp only [u8s',List.map_cons] at this ⊢
  simp only [u8s,this,Option.map_some]
theorem cv_S (h:IsR M v xs):convV noX tyF 22 9 M v = some (.str (strOf xs),none):=by
 obtain ⟨d1,d2,de,h1,h2,h3,h4,h5,h6⟩:∃ d1 d2 de,tyF 22 = some d1 ∧ tyF 9 = some d2 ∧ d1.kind = .slice 5 ∧ d2.kind = .str ∧ tyF 5 = some de ∧ de.kind = .int .u8:=⟨_,_,_,rfl,rfl,rfl,rfl,rfl,rfl⟩
 simp only [convV,h1,h2,Option.bind_some,h3,h4,h5,h6]
 rw [h.news]
 simp only [Option.bind_some,u8s_u8,Option.map_some]; rfl
theorem strOf_list (xs:List Int):(strOf xs).toList = xs.map fun n => UInt8.ofNat n.toNat:=ByteArray.toList_mk _
theorem u8_inj:∀ {xs ys:List Int},Bytes xs → Bytes ys → xs.map (fun n => UInt8.ofNat n.toNat) = ys.map (fun n => UInt8.ofNat n.toNat) → xs = ys
 | [],[],_,_,_ => rfl
 | [],_ :: _,_,_,h => by simp at h
 | _ :: _,[],_,_,h => by simp at h
 | a :: xs,b :: ys,hx,hy,h => by
  simp only [List.map_cons,List.cons.injEq] at h
  have h1:=congrArg UInt8.toNat h.1
  have ha:=hx a (by simp)
  have hb:=hy b (by simp)
  simp only [UInt8.toNat_ofNat'] at h1
  rw [u8_inj (fun m hm => hx m (List.mem_cons_of_mem _ hm)) (fun m hm => hy m (List.mem_cons_of_mem _ hm)) h.2]
  congr 1
  omega
theorem str_eq (hx:Bytes xs) (hy:Bytes ys):((strOf xs).toList == (strOf ys).toList) = decide (xs = ys):=by
 rw [strOf_list,strOf_list]
 by_cases h:xs = ys
 ·subst h; simp
 ·rw [decide_eq_false h]
  exact Bool.eq_false_iff.2 fun e => h (u8_inj hx hy (beq_iff_eq.1 e))
theorem b_eqlS (hx:Bytes xs) (hy:Bytes ys):abin noX d M .eql (.str (strOf xs)) (.str (strOf ys)) = some (.bool (decide (xs = ys)),none):=by
 show some (V.bool ((strOf xs).toList == (strOf ys).toList),none) = _
 rw [str_eq hx hy]
theorem b_neqS (hx:Bytes xs) (hy:Bytes ys):abin noX d M .neq (.str (strOf xs)) (.str (strOf ys)) = some (.bool (!decide (xs = ys)),none):=by
 show some (V.bool (!((strOf xs).toList == (strOf ys).toList)),none) = _
 rw [str_eq hx hy]
variable {G:GF} {v1 v2:V}
theorem eqs_call (hG:GOK G) (h1:IsR M v1 xs) (h2:IsR M v2 ys) (hx:Bytes xs) (hy:Bytes ys):ACall Tryz.prog G 69 [v1,v2] M (.bool (decide (xs = ys))) M:=by
 refine acall_mk (n:=10) (fv:=fnOf Tryz.f69) rfl rfl (by simp) (by decide) ?_
 refine AWX.seq (AWX.region (AOX.q hG rfl (st_as rfl) rfl (AOX.nil ?_)))
 refine AWX.seq (AWX.region (AOX.q hG rfl (st_mv rfl) rfl (AOX.q hG rfl (st_cv rfl (cv_S h1)) rfl (AOX.q hG rfl (st_mv rfl) rfl (AOX.q hG rfl (st_cv rfl (cv_S h2)) rfl (AOX.q hG rfl (st_bin rfl rfl (b_eqlS hx hy)) rfl (AOX.q hG rfl (st_as rfl) rfl (AOX.nil ?_))))))))
 refine AWX.fin rfl rfl
def lastI (c:Int) (xs:List Int):Nat → Int
 | 0 => -1
 | k + 1 => if xs[k]? = some c then k else lastI c xs k
theorem lastI_in {c:Int} {xs:List Int}:∀ k:Nat,-1 ≤ lastI c xs k ∧ lastI c xs k < k
 | 0 => by simp [lastI]
 | k + 1 => by
  have:=lastI_in (c:=c) (xs:=xs) k
  unfold lastI
  split <;> omega
def laLp:Code:=cAt [1,0,1,0,0] (fnOf Tryz.f102).body
theorem la_loop (hG:GOK G) {b o:Nat} {lim:Option Nat} {c:Int} {Q:AExit → St → Prop} (hr:rd M b o xs.length = some (u8s' xs)) (hn:xs.length ≤ 1000)
  (hQ:∀ l2:List (Nat × V),lastI c xs xs.length = -1 → Q (.exit 0) (mkSt 20 l2 M)) (hQ2:∀ l2:List (Nat × V),resL (getL 20 l2) [.tmp 4] = some [.int .i64 (lastI c xs xs.length)] → Q .ret (mkSt 20 l2 M)) :
  ∀ (k:Nat) (l:List (Nat × V)),k ≤ xs.length → lastI c xs xs.length = lastI c xs k → subL 20 l [(0,.sl b o xs.length lim),(1,.int .u8 c),(5,.int .i64 ((k:Int) - 1))] → LX G laLp (mkSt 20 l M) Q
 | 0,l,hk,he,hl => by
  refine LX.step (AWX.ff _ hl ?_)
  refine AWX.seq (AWX.seq (AWX.region (AOX.q hG rfl (st_mv rfl) rfl (AOX.q hG rfl (st_bin rfl rfl (b_geqF (by omega))) rfl (AOX.nil ?_)))))
  exact AWX.cf rfl (AWX.exit (hQ _ he))
 | k + 1,l,hk,he,hl => by
  have e0:(((k + 1:Nat):Int) - 1) = (k:Int):=by omega
  rw [e0] at hl
  obtain ⟨a,ha⟩:∃ a,xs[k]? = some a:=⟨_,List.getElem?_eq_getElem (by omega)⟩
  have hld:rd M b (o + k) 1 = some [.int .u8 a]:=rd_one hr (by simp [u8s',ha])
  refine LX.step (AWX.ff _ hl ?_)
  by_cases hc:a = c
  ·subst hc
   have e:lastI a xs (k + 1) = k:=by simp [lastI,ha]
   refine AWX.seq (AWX.seq (AWX.region (AOX.q hG rfl (st_mv rfl) rfl (AOX.q hG rfl (st_bin rfl rfl (b_geqT (by omega))) rfl (AOX.nil ?_)))))
   refine AWX.ct rfl (AWX.skip ?_)
   refine AWX.seq (AWX.block (AWX.seq (AWX.region (AOX.q hG rfl (st_mv rfl) rfl (AOX.q hG rfl (st_mv rfl) rfl (AOX.q hG rfl (st_ix sl22 rfl rfl (show k < xs.length by omega)) rfl (AOX.q hG rfl (st_ld one5 rfl hld) rfl (AOX.q hG rfl (st_mv rfl) rfl (AOX.q hG rfl (st_bin rfl rfl (b_eqlT rfl)) rfl (AOX.nil ?_))))))))))
   refine AWX.ct rfl (AWX.seq (AWX.region (AOX.q hG rfl (st_mv rfl) rfl (AOX.q hG rfl (st_as rfl) rfl (AOX.nil ?_)))))
   refine AWX.ret (hQ2 _ ?_)
   rw [he,e]; rfl
  ·have e:lastI c xs (k + 1) = lastI c xs k:=by simp [lastI,ha,hc]
   refine AWX.seq (AWX.seq (AWX.region (AOX.q hG rfl (st_mv rfl) rfl (AOX.q hG rfl (st_bin rfl rfl (b_geqT (by omega))) rfl (AOX.nil ?_)))))
   refine AWX.ct rfl (AWX.skip ?_)
   refine AWX.seq (AWX.block (AWX.seq (AWX.region (AOX.q hG rfl (st_mv rfl) rfl (AOX.q hG rfl (st_mv rfl) rfl (AOX.q hG rfl (st_ix sl22 rfl rfl (show k < xs.length by omega)) rfl (AOX.q hG rfl (st_ld one5 rfl hld) rfl (AOX.q hG rfl (st_mv rfl) rfl (AOX.q hG rfl (st_bin rfl rfl (b_eqlF hc)) rfl (AOX.nil ?_))))))))))
   refine AWX.cf rfl (AWX.skip ?_)
   refine AWX.region (AOX.q hG rfl (st_mv rfl) rfl (AOX.q hG rfl (st_bin rfl rfl (b_dec (by omega))) rfl (AOX.q hG rfl (st_as rfl) rfl (AOX.nil ?_))))
   exact la_loop hG hr hn hQ hQ2 k _ (by omega) (he.trans e) ⟨rfl,rfl,rfl,trivial⟩
theorem last_call (hG:GOK G) {b o:Nat} {lim:Option Nat} {c:Int} (hr:rd M b o xs.length = some (u8s' xs)) (hn:xs.length ≤ 1000):ACall Tryz.prog G 70 [.sl b o xs.length lim,.int .u8 c] M (.int .i64 (lastI c xs xs.length)) M:=by
 have h:ACall Tryz.prog G 102 [.sl b o xs.length lim,.int .u8 c] M (.int .i64 (lastI c xs xs.length)) M:=by
  refine acall_mk (n:=20) (fv:=fnOf Tryz.f102) rfl rfl (by simp) (by decide) ?_
  refine AWX.seq (AWX.region (AOX.q hG rfl (st_as rfl) rfl (AOX.nil ?_)))
  refine AWX.seq (AWX.seq (AWX.region (AOX.q hG rfl (st_mv rfl) rfl (AOX.q hG rfl (st_len sl22 rfl) rfl (AOX.q hG rfl (st_bin rfl rfl (b_dec hn)) rfl (AOX.q hG rfl (st_as rfl) rfl (AOX.nil ?_)))))))
  refine AWX.block (AWX.loop (la_loop hG (b:=b) (o:=o) (lim:=lim) (c:=c) hr hn (fun l2 e => ?_) (fun l2 e => ⟨.inr rfl,l2,_,rfl,e,rfl⟩) xs.length _ (Nat.le_refl _) rfl ⟨rfl,rfl,rfl,trivial⟩))
  show AWX G _ (mkSt 20 l2 M) _
  rw [e]
  refine AWX.seq (AWX.region (AOX.q hG rfl (st_as rfl) rfl (AOX.nil ?_)))
  exact AWX.fin rfl rfl
 refine acall_mk (n:=8) (fv:=fnOf Tryz.f70) rfl rfl (by simp) (by decide) ?_
 refine AWX.seq (AWX.region (AOX.q hG rfl (st_as rfl) rfl (AOX.nil ?_)))
 refine AWX.seq (AWX.region (AOX.q hG rfl (st_mv rfl) rfl (AOX.q hG rfl (st_mv rfl) rfl (AOX.qc hG rfl (st_call rfl rfl) h rfl (AOX.q hG rfl (st_as rfl) rfl (AOX.nil ?_))))))
 refine AWX.fin rfl rfl
end
end
end
section
open Go.Proofs
noncomputable section
section
variable {G:GF} {M:Mem} {s b o k:Nat} {lim:Option Nat} {xs:List Int}
theorem cv_u8i {m:Nat} (hm:m ≤ 255):convV noX tyF 5 3 M (.int .u8 m) = some (.int .i64 m,none):=by
 show some (V.int .i64 (kwrap .i64 m),none) = _
 rw [kw64 (by omega) (by omega)]
def lgC:Code:=cAt [1,0] (fnOf Tryz.f42).body
theorem long_call (hG:GOK G) (hk:k = 1 ∨ k = 2) (hs:s = 8 ∨ s = 16) (hx:xs.length = s) (hb:Bytes xs) (hr:rd M b o s = some (u8s' xs)) (hl:LimP M b o s lim) :
  ∃ (M2:Mem) (n:Nat),ACall Tryz.prog G 42 [.int .i64 k,.sl b o s lim] M (.int .i64 n) M2 ∧ GrowL M M2 [] ∧ (n = 0 ∨ (1 ≤ n ∧ n ≤ s ∧ xs.drop (s - n) = madeL k n)):=by
 obtain ⟨m,hm,hm2⟩:∃ m:Nat,xs[s - 1]? = some (m:Int) ∧ m ≤ 255:=by
  have h:=hb (xs[s - 1]'(by omega)) (List.getElem_mem _)
  exact ⟨(xs[s - 1]'(by omega)).toNat,by rw [List.getElem?_eq_getElem (by omega)]; congr 1; omega,by omega⟩
 have hld:rd M b (o + (s - 1)) 1 = some [.int .u8 m]:=rd_one hr (by simp [u8s',hm])
 have hcmp:∀ n:Nat,1 ≤ n → n ≤ s → IsS M (.sl b (o + (s - n)) (s - (s - n)) (lim.map (· - (s - n)))) (xs.drop (s - n)) ∧ ACall Tryz.prog G 69 [.sl b (o + (s - n)) (s - (s - n)) (lim.map (· - (s - n))),.sl M.length 0 n (some n)] (M ++ [.own (u8s' (madeL k n)) 0]) (.bool (decide (xs.drop (s - n) = madeL k n))) (M ++ [.own (u8s' (madeL k n)) 0]):=fun n h1 h2 => by
  have hmn:=made_len (n:=n) hk h1
  have h3:IsS M (.sl b (o + (s - n)) (s - (s - n)) (lim.map (· - (s - n)))) (xs.drop (s - n)):=by
   refine .inr ⟨b,o + (s - n),lim.map (· - (s - n)),by rw [List.length_drop,hx],?_,by rw [List.length_drop,hx]; exact hl.drop (by omega)⟩
   rw [List.length_drop,hx,rd_mid hr (by omega)]
   simp only [u8s',← List.map_drop,← List.map_take]
   rw [List.take_of_length_le (by rw [List.length_drop,hx]; omega)]
  refine ⟨h3,eqs_call hG (h3.grow (GrowL.one _ _ _)).r ?_ (fun a h => hb a (List.mem_of_mem_drop h)) (made_in (by omega))⟩
  exact .inr ⟨M.length,0,some n,by rw [hmn],by rw [hmn]; exact rd_own0 app_last (by rw [u8s'_len,hmn])⟩
 have hmade:∀ n:Nat,1 ≤ n → n ≤ s → ACall Tryz.prog G 37 [.int .i64 k,.int .i64 n] M (.sl M.length 0 n (some n)) (M ++ [.own (u8s' (madeL k n)) 0]):=fun n h1 h2 => pmade_call hG hk h1 (by omega)
 rcases hk with rfl | rfl
 ·by_cases h0:m < 1
  ·refine ⟨M,0,?_,GrowL.refl _,.inl rfl⟩
   refine acall_mk (n:=61) (fv:=fnOf Tryz.f42) rfl rfl (by simp) (by decide) ?_
   refine AWX.seq (AWX.region (AOX.q hG rfl (st_as rfl) rfl (AOX.nil ?_)))
   refine AWX.scope (JX.step (AWX.seq (AWX.region (AOX.q hG rfl (st_mv rfl) rfl (AOX.q hG rfl (st_len sl22 rfl) rfl (AOX.q hG rfl (st_as rfl) rfl (AOX.nil ?_)))))))
   refine AWX.seq (AWX.region (AOX.q hG rfl (st_mv rfl) rfl (AOX.q hG rfl (st_mv rfl) rfl (AOX.q hG rfl (st_bin rfl rfl (b_sub  (show (s - 1) + 1 = s by omega) (by omega))) rfl (AOX.q hG rfl (st_ix sl22 rfl rfl (show s - 1 < s by omega)) rfl (AOX.q hG rfl (st_ld one5 rfl hld) rfl (AOX.q hG rfl (st_cv rfl (cv_u8i hm2)) rfl (AOX.q hG rfl (st_as rfl) rfl (AOX.nil ?_)))))))))
   refine AWX.seq (AWX.seq (AWX.region (AOX.q hG rfl (st_mv rfl) rfl (AOX.q hG rfl (st_bin rfl rfl (b_eqlF (by omega))) rfl (AOX.nil ?_)))))
   refine AWX.cf rfl (AWX.skip ?_)
   refine AWX.seq (AWX.seq (AWX.draw ?_))
   refine QG2.b (bad:=[]) hG (by kernel_rfl) rfl (st_mv rfl) rfl ?_
   refine QG2.b (bad:=[]) hG (by kernel_rfl) rfl (st_bin rfl rfl (b_lssT (by omega))) rfl ?_
   refine QG2.b (bad:=[]) hG (by kernel_rfl) rfl (st_mv rfl) rfl ?_
   refine QG2.bn (bad:=[21]) (by kernel_rfl) rfl rfl rfl rfl ?_
   refine QG2.bn (bad:=[20]) (by kernel_rfl) rfl rfl rfl rfl ?_
   refine QG2.bn (bad:=[]) (by kernel_rfl) rfl rfl rfl rfl ?_
   refine QG2.b (bad:=[]) hG (by kernel_rfl) rfl (st_pickT rfl rfl) rfl ?_
   refine QG2.b (bad:=[]) hG (by kernel_rfl) rfl (st_mv rfl) rfl ?_
   refine QG2.bn (bad:=[]) (by kernel_rfl) rfl rfl rfl rfl ?_
   refine QG2.bn (bad:=[]) (by kernel_rfl) rfl rfl rfl rfl ?_
   refine QG2.bn (bad:=[]) (by kernel_rfl) rfl rfl rfl rfl ?_
   refine QG2.bn (bad:=[29,30,31,33,34,35]) (by kernel_rfl) rfl rfl rfl rfl ?_
   refine QG2.bn (bad:=[28,30,33,34,35]) (by kernel_rfl) rfl rfl rfl rfl ?_
   refine QG2.bn (bad:=[28,29,33,34,35]) (by kernel_rfl) rfl rfl rfl rfl ?_
   refine QG2.bn (bad:=[28,33,34,35]) (by kernel_rfl) rfl rfl rfl rfl ?_
   refine QG2.bn (bad:=[33,34,35]) (by kernel_rfl) rfl rfl rfl rfl ?_
   refine QG2.bn (bad:=[28,29,30,31,32,34]) (by kernel_rfl) rfl rfl rfl rfl ?_
   refine QG2.bn (bad:=[28,29,30,31,32,33]) (by kernel_rfl) rfl rfl rfl rfl ?_
   refine QG2.bn (bad:=[28,29,30,31,32]) (by kernel_rfl) rfl rfl rfl rfl ?_
   refine QG2.bn (bad:=[]) (by kernel_rfl) rfl rfl rfl rfl ?_
   refine QG2.bn (bad:=[]) (by kernel_rfl) rfl rfl rfl rfl ?_
   refine QG2.bn (bad:=[]) (by kernel_rfl) rfl rfl rfl rfl ?_
   refine QG2.b (bad:=[]) hG (by kernel_rfl) rfl (st_pickT rfl rfl) rfl ?_
   refine QG2.done (by kernel_rfl) rfl ?_
   refine AWX.ct rfl (AWX.seq (AWX.region (AOX.q hG rfl (st_as rfl) rfl (AOX.nil ?_))))
   refine AWX.ret ⟨.inr rfl,_,_,rfl,rfl,rfl⟩
  ·by_cases h1:s < m
   ·refine ⟨M,0,?_,GrowL.refl _,.inl rfl⟩
    refine acall_mk (n:=61) (fv:=fnOf Tryz.f42) rfl rfl (by simp) (by decide) ?_
    refine AWX.seq (AWX.region (AOX.q hG rfl (st_as rfl) rfl (AOX.nil ?_)))
    refine AWX.scope (JX.step (AWX.seq (AWX.region (AOX.q hG rfl (st_mv rfl) rfl (AOX.q hG rfl (st_len sl22 rfl) rfl (AOX.q hG rfl (st_as rfl) rfl (AOX.nil ?_)))))))
    refine AWX.seq (AWX.region (AOX.q hG rfl (st_mv rfl) rfl (AOX.q hG rfl (st_mv rfl) rfl (AOX.q hG rfl (st_bin rfl rfl (b_sub  (show (s - 1) + 1 = s by omega) (by omega))) rfl (AOX.q hG rfl (st_ix sl22 rfl rfl (show s - 1 < s by omega)) rfl (AOX.q hG rfl (st_ld one5 rfl hld) rfl (AOX.q hG rfl (st_cv rfl (cv_u8i hm2)) rfl (AOX.q hG rfl (st_as rfl) rfl (AOX.nil ?_)))))))))
    refine AWX.seq (AWX.seq (AWX.region (AOX.q hG rfl (st_mv rfl) rfl (AOX.q hG rfl (st_bin rfl rfl (b_eqlF (by omega))) rfl (AOX.nil ?_)))))
    refine AWX.cf rfl (AWX.skip ?_)
    refine AWX.seq (AWX.seq (AWX.draw ?_))
    refine QG2.b (bad:=[]) hG (by kernel_rfl) rfl (st_mv rfl) rfl ?_
    refine QG2.b (bad:=[]) hG (by kernel_rfl) rfl (st_bin rfl rfl (b_lssF (by omega))) rfl ?_
    refine QG2.b (bad:=[]) hG (by kernel_rfl) rfl (st_mv rfl) rfl ?_
    refine QG2.bg (bad:=[21]) hG (by kernel_rfl) rfl rfl (st_mv rfl) rfl ?_
    refine QG2.bg (bad:=[20]) hG (by kernel_rfl) rfl rfl (st_mv rfl) rfl ?_
    refine QG2.bg (bad:=[]) hG (by kernel_rfl) rfl rfl (st_bin rfl rfl (b_gtrT (by omega))) rfl ?_
    refine QG2.b (bad:=[]) hG (by kernel_rfl) rfl (st_pickF rfl rfl) rfl ?_
    refine QG2.b (bad:=[]) hG (by kernel_rfl) rfl (st_mv rfl) rfl ?_
    refine QG2.bn (bad:=[]) (by kernel_rfl) rfl rfl rfl rfl ?_
    refine QG2.bn (bad:=[]) (by kernel_rfl) rfl rfl rfl rfl ?_
    refine QG2.bn (bad:=[]) (by kernel_rfl) rfl rfl rfl rfl ?_
    refine QG2.bn (bad:=[29,30,31,33,34,35]) (by kernel_rfl) rfl rfl rfl rfl ?_
    refine QG2.bn (bad:=[28,30,33,34,35]) (by kernel_rfl) rfl rfl rfl rfl ?_
    refine QG2.bn (bad:=[28,29,33,34,35]) (by kernel_rfl) rfl rfl rfl rfl ?_
    refine QG2.bn (bad:=[28,33,34,35]) (by kernel_rfl) rfl rfl rfl rfl ?_
    refine QG2.bn (bad:=[33,34,35]) (by kernel_rfl) rfl rfl rfl rfl ?_
    refine QG2.bn (bad:=[28,29,30,31,32,34]) (by kernel_rfl) rfl rfl rfl rfl ?_
    refine QG2.bn (bad:=[28,29,30,31,32,33]) (by kernel_rfl) rfl rfl rfl rfl ?_
    refine QG2.bn (bad:=[28,29,30,31,32]) (by kernel_rfl) rfl rfl rfl rfl ?_
    refine QG2.bn (bad:=[]) (by kernel_rfl) rfl rfl rfl rfl ?_
    refine QG2.bn (bad:=[]) (by kernel_rfl) rfl rfl rfl rfl ?_
    refine QG2.bn (bad:=[]) (by kernel_rfl) rfl rfl rfl rfl ?_
    refine QG2.b (bad:=[]) hG (by kernel_rfl) rfl (st_pickT rfl rfl) rfl ?_
    refine QG2.done (by kernel_rfl) rfl ?_
    refine AWX.ct rfl (AWX.seq (AWX.region (AOX.q hG rfl (st_as rfl) rfl (AOX.nil ?_))))
    refine AWX.ret ⟨.inr rfl,_,_,rfl,rfl,rfl⟩
   ·obtain ⟨h3,hq⟩:=hcmp m (by omega) (by omega)
    have hmd:=hmade m (by omega) (by omega)
    by_cases heq:xs.drop (s - m) = madeL 1 m
    ·rw [decide_eq_true heq] at hq
     refine ⟨M ++ [.own (u8s' (madeL 1 m)) 0],m,?_,GrowL.one _ _ _,.inr ⟨by omega,by omega,heq⟩⟩
     refine acall_mk (n:=61) (fv:=fnOf Tryz.f42) rfl rfl (by simp) (by decide) ?_
     refine AWX.seq (AWX.region (AOX.q hG rfl (st_as rfl) rfl (AOX.nil ?_)))
     refine AWX.scope (JX.step (AWX.seq (AWX.region (AOX.q hG rfl (st_mv rfl) rfl (AOX.q hG rfl (st_len sl22 rfl) rfl (AOX.q hG rfl (st_as rfl) rfl (AOX.nil ?_)))))))
     refine AWX.seq (AWX.region (AOX.q hG rfl (st_mv rfl) rfl (AOX.q hG rfl (st_mv rfl) rfl (AOX.q hG rfl (st_bin rfl rfl (b_sub  (show (s - 1) + 1 = s by omega) (by omega))) rfl (AOX.q hG rfl (st_ix sl22 rfl rfl (show s - 1 < s by omega)) rfl (AOX.q hG rfl (st_ld one5 rfl hld) rfl (AOX.q hG rfl (st_cv rfl (cv_u8i hm2)) rfl (AOX.q hG rfl (st_as rfl) rfl (AOX.nil ?_)))))))))
     refine AWX.seq (AWX.seq (AWX.region (AOX.q hG rfl (st_mv rfl) rfl (AOX.q hG rfl (st_bin rfl rfl (b_eqlF (by omega))) rfl (AOX.nil ?_)))))
     refine AWX.cf rfl (AWX.skip ?_)
     refine AWX.seq (AWX.seq (AWX.draw ?_))
     refine QG2.b (bad:=[]) hG (by kernel_rfl) rfl (st_mv rfl) rfl ?_
     refine QG2.b (bad:=[]) hG (by kernel_rfl) rfl (st_bin rfl rfl (b_lssF (by omega))) rfl ?_
     refine QG2.b (bad:=[]) hG (by kernel_rfl) rfl (st_mv rfl) rfl ?_
     refine QG2.bg (bad:=[21]) hG (by kernel_rfl) rfl rfl (st_mv rfl) rfl ?_
     refine QG2.bg (bad:=[20]) hG (by kernel_rfl) rfl rfl (st_mv rfl) rfl ?_
     refine QG2.bg (bad:=[]) hG (by kernel_rfl) rfl rfl (st_bin rfl rfl (b_gtrF (by omega))) rfl ?_
     refine QG2.b (bad:=[]) hG (by kernel_rfl) rfl (st_pickF rfl rfl) rfl ?_
     refine QG2.b (bad:=[]) hG (by kernel_rfl) rfl (st_mv rfl) rfl ?_
     refine QG2.bg (bad:=[]) hG (by kernel_rfl) rfl rfl (st_mv rfl) rfl ?_
     refine QG2.bg (bad:=[]) hG (by kernel_rfl) rfl rfl (st_bin rfl rfl (b_eqlT rfl)) rfl ?_
     refine QG2.bg (bad:=[]) hG (by kernel_rfl) rfl rfl (st_mv rfl) rfl ?_
     refine QG2.bg (bad:=[29,30,31,33,34,35]) hG (by kernel_rfl) rfl rfl (st_mv rfl) rfl ?_
     refine QG2.bg (bad:=[28,30,33,34,35]) hG (by kernel_rfl) rfl rfl (st_mv rfl) rfl ?_
     refine QG2.bg (bad:=[28,29,33,34,35]) hG (by kernel_rfl) rfl rfl (st_mv rfl) rfl ?_
     refine QG2.bg (bad:=[28,33,34,35]) hG (by kernel_rfl) rfl rfl (st_bin rfl rfl (b_sub (r:=s - m) (by omega) (by omega))) rfl ?_
     refine QG2.qg (bad:=[33,34,35]) hG (by kernel_rfl) rfl rfl rfl (st_slD sl22 rfl rfl (by omega) hl) rfl ?_
     refine QG2.bg (bad:=[28,29,30,31,32,34]) hG (by kernel_rfl) rfl rfl (st_mv rfl) rfl ?_
     refine QG2.bg (bad:=[28,29,30,31,32,33]) hG (by kernel_rfl) rfl rfl (st_mv rfl) rfl ?_
     refine QG2.cg (T:=[]) (bad:=[28,29,30,31,32]) hG (by kernel_rfl) (by kernel_rfl) (.inl rfl) rfl rfl (st_call rfl rfl) (hmd) (GrowL.one _ _ _) rfl ?_
     refine QG2.cg (T:=[]) (bad:=[]) hG (by kernel_rfl) (by kernel_rfl) (.inl rfl) rfl rfl (st_call rfl rfl) (hq) (GrowL.refl _) rfl ?_
     refine QG2.bg (bad:=[]) hG (by kernel_rfl) rfl rfl (st_not rfl) rfl ?_
     refine QG2.bg (bad:=[]) hG (by kernel_rfl) rfl rfl (st_pickT rfl rfl) rfl ?_
     refine QG2.b (bad:=[]) hG (by kernel_rfl) rfl (st_pickF rfl rfl) rfl ?_
     refine QG2.done (by kernel_rfl) rfl ?_
     refine AWX.cf rfl (AWX.skip ?_)
     refine AWX.seq (AWX.seq (AWX.region (AOX.q hG rfl (st_mv rfl) rfl (AOX.q hG rfl (st_as rfl) rfl (AOX.nil ?_)))))
     refine AWX.ret ⟨.inr rfl,_,_,rfl,rfl,rfl⟩
    ·rw [decide_eq_false heq] at hq
     refine ⟨M ++ [.own (u8s' (madeL 1 m)) 0],0,?_,GrowL.one _ _ _,.inl rfl⟩
     refine acall_mk (n:=61) (fv:=fnOf Tryz.f42) rfl rfl (by simp) (by decide) ?_
     refine AWX.seq (AWX.region (AOX.q hG rfl (st_as rfl) rfl (AOX.nil ?_)))
     refine AWX.scope (JX.step (AWX.seq (AWX.region (AOX.q hG rfl (st_mv rfl) rfl (AOX.q hG rfl (st_len sl22 rfl) rfl (AOX.q hG rfl (st_as rfl) rfl (AOX.nil ?_)))))))
     refine AWX.seq (AWX.region (AOX.q hG rfl (st_mv rfl) rfl (AOX.q hG rfl (st_mv rfl) rfl (AOX.q hG rfl (st_bin rfl rfl (b_sub  (show (s - 1) + 1 = s by omega) (by omega))) rfl (AOX.q hG rfl (st_ix sl22 rfl rfl (show s - 1 < s by omega)) rfl (AOX.q hG rfl (st_ld one5 rfl hld) rfl (AOX.q hG rfl (st_cv rfl (cv_u8i hm2)) rfl (AOX.q hG rfl (st_as rfl) rfl (AOX.nil ?_)))))))))
     refine AWX.seq (AWX.seq (AWX.region (AOX.q hG rfl (st_mv rfl) rfl (AOX.q hG rfl (st_bin rfl rfl (b_eqlF (by omega))) rfl (AOX.nil ?_)))))
     refine AWX.cf rfl (AWX.skip ?_)
     refine AWX.seq (AWX.seq (AWX.draw ?_))
     refine QG2.b (bad:=[]) hG (by kernel_rfl) rfl (st_mv rfl) rfl ?_
     refine QG2.b (bad:=[]) hG (by kernel_rfl) rfl (st_bin rfl rfl (b_lssF (by omega))) rfl ?_
     refine QG2.b (bad:=[]) hG (by kernel_rfl) rfl (st_mv rfl) rfl ?_
     refine QG2.bg (bad:=[21]) hG (by kernel_rfl) rfl rfl (st_mv rfl) rfl ?_
     refine QG2.bg (bad:=[20]) hG (by kernel_rfl) rfl rfl (st_mv rfl) rfl ?_
     refine QG2.bg (bad:=[]) hG (by kernel_rfl) rfl rfl (st_bin rfl rfl (b_gtrF (by omega))) rfl ?_
     refine QG2.b (bad:=[]) hG (by kernel_rfl) rfl (st_pickF rfl rfl) rfl ?_
     refine QG2.b (bad:=[]) hG (by kernel_rfl) rfl (st_mv rfl) rfl ?_
     refine QG2.bg (bad:=[]) hG (by kernel_rfl) rfl rfl (st_mv rfl) rfl ?_
     refine QG2.bg (bad:=[]) hG (by kernel_rfl) rfl rfl (st_bin rfl rfl (b_eqlT rfl)) rfl ?_
     refine QG2.bg (bad:=[]) hG (by kernel_rfl) rfl rfl (st_mv rfl) rfl ?_
     refine QG2.bg (bad:=[29,30,31,33,34,35]) hG (by kernel_rfl) rfl rfl (st_mv rfl) rfl ?_
     refine QG2.bg (bad:=[28,30,33,34,35]) hG (by kernel_rfl) rfl rfl (st_mv rfl) rfl ?_
     refine QG2.bg (bad:=[28,29,33,34,35]) hG (by kernel_rfl) rfl rfl (st_mv rfl) rfl ?_
     refine QG2.bg (bad:=[28,33,34,35]) hG (by kernel_rfl) rfl rfl (st_bin rfl rfl (b_sub (r:=s - m) (by omega) (by omega))) rfl ?_
     refine QG2.qg (bad:=[33,34,35]) hG (by kernel_rfl) rfl rfl rfl (st_slD sl22 rfl rfl (by omega) hl) rfl ?_
     refine QG2.bg (bad:=[28,29,30,31,32,34]) hG (by kernel_rfl) rfl rfl (st_mv rfl) rfl ?_
     refine QG2.bg (bad:=[28,29,30,31,32,33]) hG (by kernel_rfl) rfl rfl (st_mv rfl) rfl ?_
     refine QG2.cg (T:=[]) (bad:=[28,29,30,31,32]) hG (by kernel_rfl) (by kernel_rfl) (.inl rfl) rfl rfl (st_call rfl rfl) (hmd) (GrowL.one _ _ _) rfl ?_
     refine QG2.cg (T:=[]) (bad:=[]) hG (by kernel_rfl) (by kernel_rfl) (.inl rfl) rfl rfl (st_call rfl rfl) (hq) (GrowL.refl _) rfl ?_
     refine QG2.bg (bad:=[]) hG (by kernel_rfl) rfl rfl (st_not rfl) rfl ?_
     refine QG2.bg (bad:=[]) hG (by kernel_rfl) rfl rfl (st_pickT rfl rfl) rfl ?_
     refine QG2.b (bad:=[]) hG (by kernel_rfl) rfl (st_pickF rfl rfl) rfl ?_
     refine QG2.done (by kernel_rfl) rfl ?_
     refine AWX.ct rfl (AWX.seq (AWX.region (AOX.q hG rfl (st_as rfl) rfl (AOX.nil ?_))))
     refine AWX.ret ⟨.inr rfl,_,_,rfl,rfl,rfl⟩
 ·have hi:=lastI_in (c:=128) (xs:=xs) s
  obtain ⟨n,hn,hn1,hn2⟩:∃ n:Nat,(s:Int) - lastI 128 xs s = n ∧ 1 ≤ n ∧ n ≤ s + 1:=⟨((s:Int) - lastI 128 xs s).toNat,by omega,by omega,by omega⟩
  have hlast:ACall Tryz.prog G 70 [.sl b o s lim,.int .u8 128] M (.int .i64 (lastI 128 xs s)) M:=by
   subst hx; exact last_call hG hr (by omega)
  have hsub:∀ {M:Mem},abin noX (tyF 3) M .sub (.int .i64 s) (.int .i64 (lastI 128 xs s)) = some (.int .i64 n,none):=fun {M} => by
   rw [← hn]; exact abin_sub (by omega) (by omega)
  by_cases h1:s < n
  ·refine ⟨M,0,?_,GrowL.refl _,.inl rfl⟩
   refine acall_mk (n:=61) (fv:=fnOf Tryz.f42) rfl rfl (by simp) (by decide) ?_
   refine AWX.seq (AWX.region (AOX.q hG rfl (st_as rfl) rfl (AOX.nil ?_)))
   refine AWX.scope (JX.step (AWX.seq (AWX.region (AOX.q hG rfl (st_mv rfl) rfl (AOX.q hG rfl (st_len sl22 rfl) rfl (AOX.q hG rfl (st_as rfl) rfl (AOX.nil ?_)))))))
   refine AWX.seq (AWX.region (AOX.q hG rfl (st_mv rfl) rfl (AOX.q hG rfl (st_mv rfl) rfl (AOX.q hG rfl (st_bin rfl rfl (b_sub  (show (s - 1) + 1 = s by omega) (by omega))) rfl (AOX.q hG rfl (st_ix sl22 rfl rfl (show s - 1 < s by omega)) rfl (AOX.q hG rfl (st_ld one5 rfl hld) rfl (AOX.q hG rfl (st_cv rfl (cv_u8i hm2)) rfl (AOX.q hG rfl (st_as rfl) rfl (AOX.nil ?_)))))))))
   refine AWX.seq (AWX.seq (AWX.region (AOX.q hG rfl (st_mv rfl) rfl (AOX.q hG rfl (st_bin rfl rfl (b_eqlT (by omega))) rfl (AOX.nil ?_)))))
   refine AWX.ct rfl (AWX.goto ?_)
   show jx G lgC _ (.goto 0) _
   refine jx_to (rest:=(findLabel lgC 0).getD .skip) rfl (JX.step (AWX.seq (AWX.skip ?_)))
   refine AWX.seq (AWX.region (AOX.q hG rfl (st_mv rfl) rfl (AOX.q hG rfl (st_mv rfl) rfl (AOX.qc hG rfl (st_call rfl rfl) (hlast) rfl (AOX.q hG rfl (st_bin rfl rfl hsub) rfl (AOX.q hG rfl (st_as rfl) rfl (AOX.nil ?_)))))))
   refine AWX.seq (AWX.seq (AWX.draw ?_))
   refine QG2.b (bad:=[46]) hG (by kernel_rfl) rfl (st_mv rfl) rfl ?_
   refine QG2.b (bad:=[45]) hG (by kernel_rfl) rfl (st_mv rfl) rfl ?_
   refine QG2.b (bad:=[]) hG (by kernel_rfl) rfl (st_bin rfl rfl (b_gtrT (by omega))) rfl ?_
   refine QG2.b (bad:=[]) hG (by kernel_rfl) rfl (st_mv rfl) rfl ?_
   refine QG2.bn (bad:=[50,51,52,54,55,56]) (by kernel_rfl) rfl rfl rfl rfl ?_
   refine QG2.bn (bad:=[49,51,54,55,56]) (by kernel_rfl) rfl rfl rfl rfl ?_
   refine QG2.bn (bad:=[49,50,54,55,56]) (by kernel_rfl) rfl rfl rfl rfl ?_
   refine QG2.bn (bad:=[49,54,55,56]) (by kernel_rfl) rfl rfl rfl rfl ?_
   refine QG2.bn (bad:=[54,55,56]) (by kernel_rfl) rfl rfl rfl rfl ?_
   refine QG2.bn (bad:=[49,50,51,52,53,55]) (by kernel_rfl) rfl rfl rfl rfl ?_
   refine QG2.bn (bad:=[49,50,51,52,53,54]) (by kernel_rfl) rfl rfl rfl rfl ?_
   refine QG2.bn (bad:=[49,50,51,52,53]) (by kernel_rfl) rfl rfl rfl rfl ?_
   refine QG2.bn (bad:=[]) (by kernel_rfl) rfl rfl rfl rfl ?_
   refine QG2.bn (bad:=[]) (by kernel_rfl) rfl rfl rfl rfl ?_
   refine QG2.b (bad:=[]) hG (by kernel_rfl) rfl (st_pickT rfl rfl) rfl ?_
   refine QG2.done (by kernel_rfl) rfl ?_
   refine AWX.ct rfl (AWX.seq (AWX.region (AOX.q hG rfl (st_as rfl) rfl (AOX.nil ?_))))
   refine AWX.ret ⟨.inr rfl,_,_,rfl,rfl,rfl⟩
  ·obtain ⟨h3,hq⟩:=hcmp n hn1 (by omega)
   have hmd:=hmade n hn1 (by omega)
   by_cases heq:xs.drop (s - n) = madeL 2 n
   ·rw [decide_eq_true heq] at hq
    refine ⟨M ++ [.own (u8s' (madeL 2 n)) 0],n,?_,GrowL.one _ _ _,.inr ⟨by omega,by omega,heq⟩⟩
    refine acall_mk (n:=61) (fv:=fnOf Tryz.f42) rfl rfl (by simp) (by decide) ?_
    refine AWX.seq (AWX.region (AOX.q hG rfl (st_as rfl) rfl (AOX.nil ?_)))
    refine AWX.scope (JX.step (AWX.seq (AWX.region (AOX.q hG rfl (st_mv rfl) rfl (AOX.q hG rfl (st_len sl22 rfl) rfl (AOX.q hG rfl (st_as rfl) rfl (AOX.nil ?_)))))))
    refine AWX.seq (AWX.region (AOX.q hG rfl (st_mv rfl) rfl (AOX.q hG rfl (st_mv rfl) rfl (AOX.q hG rfl (st_bin rfl rfl (b_sub  (show (s - 1) + 1 = s by omega) (by omega))) rfl (AOX.q hG rfl (st_ix sl22 rfl rfl (show s - 1 < s by omega)) rfl (AOX.q hG rfl (st_ld one5 rfl hld) rfl (AOX.q hG rfl (st_cv rfl (cv_u8i hm2)) rfl (AOX.q hG rfl (st_as rfl) rfl (AOX.nil ?_)))))))))
    refine AWX.seq (AWX.seq (AWX.region (AOX.q hG rfl (st_mv rfl) rfl (AOX.q hG rfl (st_bin rfl rfl (b_eqlT (by omega))) rfl (AOX.nil ?_)))))
    refine AWX.ct rfl (AWX.goto ?_)
    show jx G lgC _ (.goto 0) _
    refine jx_to (rest:=(findLabel lgC 0).getD .skip) rfl (JX.step (AWX.seq (AWX.skip ?_)))
    refine AWX.seq (AWX.region (AOX.q hG rfl (st_mv rfl) rfl (AOX.q hG rfl (st_mv rfl) rfl (AOX.qc hG rfl (st_call rfl rfl) (hlast) rfl (AOX.q hG rfl (st_bin rfl rfl hsub) rfl (AOX.q hG rfl (st_as rfl) rfl (AOX.nil ?_)))))))
    refine AWX.seq (AWX.seq (AWX.draw ?_))
    refine QG2.b (bad:=[46]) hG (by kernel_rfl) rfl (st_mv rfl) rfl ?_
    refine QG2.b (bad:=[45]) hG (by kernel_rfl) rfl (st_mv rfl) rfl ?_
    refine QG2.b (bad:=[]) hG (by kernel_rfl) rfl (st_bin rfl rfl (b_gtrF (by omega))) rfl ?_
    refine QG2.b (bad:=[]) hG (by kernel_rfl) rfl (st_mv rfl) rfl ?_
    refine QG2.bg (bad:=[50,51,52,54,55,56]) hG (by kernel_rfl) rfl rfl (st_mv rfl) rfl ?_
    refine QG2.bg (bad:=[49,51,54,55,56]) hG (by kernel_rfl) rfl rfl (st_mv rfl) rfl ?_
    refine QG2.bg (bad:=[49,50,54,55,56]) hG (by kernel_rfl) rfl rfl (st_mv rfl) rfl ?_
    refine QG2.bg (bad:=[49,54,55,56]) hG (by kernel_rfl) rfl rfl (st_bin rfl rfl (b_sub (r:=s - n) (by omega) (by omega))) rfl ?_
    refine QG2.qg (bad:=[54,55,56]) hG (by kernel_rfl) rfl rfl rfl (st_slD sl22 rfl rfl (by omega) hl) rfl ?_
    refine QG2.bg (bad:=[49,50,51,52,53,55]) hG (by kernel_rfl) rfl rfl (st_mv rfl) rfl ?_
    refine QG2.bg (bad:=[49,50,51,52,53,54]) hG (by kernel_rfl) rfl rfl (st_mv rfl) rfl ?_
    refine QG2.cg (T:=[]) (bad:=[49,50,51,52,53]) hG (by kernel_rfl) (by kernel_rfl) (.inl rfl) rfl rfl (st_call rfl rfl) (hmd) (GrowL.one _ _ _) rfl ?_
    refine QG2.cg (T:=[]) (bad:=[]) hG (by kernel_rfl) (by kernel_rfl) (.inl rfl) rfl rfl (st_call rfl rfl) (hq) (GrowL.refl _) rfl ?_
    refine QG2.bg (bad:=[]) hG (by kernel_rfl) rfl rfl (st_not rfl) rfl ?_
    refine QG2.b (bad:=[]) hG (by kernel_rfl) rfl (st_pickF rfl rfl) rfl ?_
    refine QG2.done (by kernel_rfl) rfl ?_
    refine AWX.cf rfl (AWX.skip ?_)
    refine AWX.seq (AWX.region (AOX.q hG rfl (st_mv rfl) rfl (AOX.q hG rfl (st_as rfl) rfl (AOX.nil ?_))))
    refine AWX.ret ⟨.inr rfl,_,_,rfl,rfl,rfl⟩
   ·rw [decide_eq_false heq] at hq
    refine ⟨M ++ [.own (u8s' (madeL 2 n)) 0],0,?_,GrowL.one _ _ _,.inl rfl⟩
    refine acall_mk (n:=61) (fv:=fnOf Tryz.f42) rfl rfl (by simp) (by decide) ?_
    refine AWX.seq (AWX.region (AOX.q hG rfl (st_as rfl) rfl (AOX.nil ?_)))
    refine AWX.scope (JX.step (AWX.seq (AWX.region (AOX.q hG rfl (st_mv rfl) rfl (AOX.q hG rfl (st_len sl22 rfl) rfl (AOX.q hG rfl (st_as rfl) rfl (AOX.nil ?_)))))))
    refine AWX.seq (AWX.region (AOX.q hG rfl (st_mv rfl) rfl (AOX.q hG rfl (st_mv rfl) rfl (AOX.q hG rfl (st_bin rfl rfl (b_sub  (show (s - 1) + 1 = s by omega) (by omega))) rfl (AOX.q hG rfl (st_ix sl22 rfl rfl (show s - 1 < s by omega)) rfl (AOX.q hG rfl (st_ld one5 rfl hld) rfl (AOX.q hG rfl (st_cv rfl (cv_u8i hm2)) rfl (AOX.q hG rfl (st_as rfl) rfl (AOX.nil ?_)))))))))
    refine AWX.seq (AWX.seq (AWX.region (AOX.q hG rfl (st_mv rfl) rfl (AOX.q hG rfl (st_bin rfl rfl (b_eqlT (by omega))) rfl (AOX.nil ?_)))))
    refine AWX.ct rfl (AWX.goto ?_)
    show jx G lgC _ (.goto 0) _
    refine jx_to (rest:=(findLabel lgC 0).getD .skip) rfl (JX.step (AWX.seq (AWX.skip ?_)))
    refine AWX.seq (AWX.region (AOX.q hG rfl (st_mv rfl) rfl (AOX.q hG rfl (st_mv rfl) rfl (AOX.qc hG rfl (st_call rfl rfl) (hlast) rfl (AOX.q hG rfl (st_bin rfl rfl hsub) rfl (AOX.q hG rfl (st_as rfl) rfl (AOX.nil ?_)))))))
    refine AWX.seq (AWX.seq (AWX.draw ?_))
    refine QG2.b (bad:=[46]) hG (by kernel_rfl) rfl (st_mv rfl) rfl ?_
    refine QG2.b (bad:=[45]) hG (by kernel_rfl) rfl (st_mv rfl) rfl ?_
    refine QG2.b (bad:=[]) hG (by kernel_rfl) rfl (st_bin rfl rfl (b_gtrF (by omega))) rfl ?_
    refine QG2.b (bad:=[]) hG (by kernel_rfl) rfl (st_mv rfl) rfl ?_
    refine QG2.bg (bad:=[50,51,52,54,55,56]) hG (by kernel_rfl) rfl rfl (st_mv rfl) rfl ?_
    refine QG2.bg (bad:=[49,51,54,55,56]) hG (by kernel_rfl) rfl rfl (st_mv rfl) rfl ?_
    refine QG2.bg (bad:=[49,50,54,55,56]) hG (by kernel_rfl) rfl rfl (st_mv rfl) rfl ?_
    refine QG2.bg (bad:=[49,54,55,56]) hG (by kernel_rfl) rfl rfl (st_bin rfl rfl (b_sub (r:=s - n) (by omega) (by omega))) rfl ?_
    refine QG2.qg (bad:=[54,55,56]) hG (by kernel_rfl) rfl rfl rfl (st_slD sl22 rfl rfl (by omega) hl) rfl ?_
    refine QG2.bg (bad:=[49,50,51,52,53,55]) hG (by kernel_rfl) rfl rfl (st_mv rfl) rfl ?_
    refine QG2.bg (bad:=[49,50,51,52,53,54]) hG (by kernel_rfl) rfl rfl (st_mv rfl) rfl ?_
    refine QG2.cg (T:=[]) (bad:=[49,50,51,52,53]) hG (by kernel_rfl) (by kernel_rfl) (.inl rfl) rfl rfl (st_call rfl rfl) (hmd) (GrowL.one _ _ _) rfl ?_
    refine QG2.cg (T:=[]) (bad:=[]) hG (by kernel_rfl) (by kernel_rfl) (.inl rfl) rfl rfl (st_call rfl rfl) (hq) (GrowL.refl _) rfl ?_
    refine QG2.bg (bad:=[]) hG (by kernel_rfl) rfl rfl (st_not rfl) rfl ?_
    refine QG2.b (bad:=[]) hG (by kernel_rfl) rfl (st_pickF rfl rfl) rfl ?_
    refine QG2.done (by kernel_rfl) rfl ?_
    refine AWX.ct rfl (AWX.seq (AWX.region (AOX.q hG rfl (st_as rfl) rfl (AOX.nil ?_))))
    refine AWX.ret ⟨.inr rfl,_,_,rfl,rfl,rfl⟩
end
end
end
section
open Go.Proofs
noncomputable section
def IsC (M:Mem) (v:V) (xs:List Int):Prop:=(v = .nilsl ∧ xs = []) ∨ ∃ b o c,v = .sl b o xs.length (some c) ∧ rd M b o xs.length = some (u8s' xs) ∧ xs.length ≤ c
theorem IsC.s {M:Mem} {v:V} {xs:List Int} (h:IsC M v xs):IsS M v xs:=h.imp id fun ⟨b,o,c,h1,h2,h3⟩ => ⟨b,o,some c,h1,h2,h3⟩
theorem IsC.grow {M M':Mem} {v:V} {xs:List Int} (h:IsC M v xs) (hM:GrowL M M' []):IsC M' v xs:=h.imp id fun ⟨b,o,c,h1,h2,h3⟩ => ⟨b,o,c,h1,rd_grow hM h2 (by simp),h3⟩
section
variable {M:Mem} {v:V} {xs:List Int} {t:TypeId} {i:Nat}
theorem rd_cut {b o n i:Nat} (hn:xs.length = n) (hr:rd M b o n = some (u8s' xs)) (hi:i ≤ n):rd M b (o + i) (n - i) = some (u8s' (xs.drop i)):=by
 rw [rd_mid hr (by omega)]
 simp only [u8s',← List.map_drop,← List.map_take]
 rw [List.take_of_length_le (by rw [List.length_drop,hn]; exact Nat.le_refl _)]
theorem rd_top {b o n i:Nat} (hr:rd M b o n = some (u8s' xs)) (hi:i ≤ n):rd M b o i = some (u8s' (xs.take i)):=by
 have:=rd_mid (i:=0) (k:=i) hr (by omega)
 simpa [u8s',List.map_take] using this
theorem dropC (ht:SlT t) (h:IsC M v xs) (hi:i ≤ xs.length):∃ v2,IsC M v2 (xs.drop i) ∧ ∀ {ρ:Operand → Option V} {x y:Operand} {M':Mem},ρ x = some v → ρ y = some (.int .i64 i) → astep noX tyF ρ M' (.slice t x (some y) none none) = some (.pure v2):=by
 obtain ⟨d,e,de,h1,h2,h3,h4⟩:=ht.h
 rcases h with ⟨rfl,rfl⟩ | ⟨b,o,c,rfl,hr,hc⟩
 ·have e0:i = 0:=by simpa using hi
  subst e0
  refine ⟨.nilsl,.inl ⟨rfl,rfl⟩,fun {ρ x y M'} hx hy => ?_⟩
  have h0:idxLe 0 (.int .i64 ((0:Nat):Int)) = some 0:=idxLe_n (Nat.le_refl 0)
  simp only [astep,aSlice,h1,Option.bind_some,hx,oo,hy,Option.map_some,sliceV,h2,h3,h4,mB,uB,h0,ne_eq,not_true_eq_false,if_false,and_self,if_true]
 ·have hl:(xs.drop i).length = xs.length - i:=List.length_drop ..
  by_cases hci:c = i
  ·refine ⟨.sl b o (xs.length - i) (some (c - i)),.inr ⟨b,o,c - i,by rw [hl],?_,by rw [hl]; omega⟩,fun {ρ x y M'} hx hy => ?_⟩
   ·have hd:xs.drop i = []:=List.drop_eq_nil_of_le (by omega)
    rw [hl,hd,show xs.length - i = 0 by omega]
    exact rd_top (xs:=xs) (i:=0) hr (by omega)
   ·simp only [astep,aSlice,h1,Option.bind_some,hx,oo,hy,Option.map_some,sliceV,h2,h3,h4,mB,uB,idxLe_n hi,ne_eq,not_true_eq_false,if_false]
    rw [if_pos hci]; rfl
  ·refine ⟨.sl b (o + i) (xs.length - i) (some (c - i)),.inr ⟨b,o + i,c - i,by rw [hl],by rw [hl]; exact rd_cut rfl hr hi,by rw [hl]; omega⟩,fun {ρ x y M'} hx hy => ?_⟩
   simp only [astep,aSlice,h1,Option.bind_some,hx,oo,hy,Option.map_some,sliceV,h2,h3,h4,mB,uB,idxLe_n hi,ne_eq,not_true_eq_false,if_false]
   rw [if_neg hci]; rfl
theorem takeC (ht:SlT t) (h:IsC M v xs) (hi:i ≤ xs.length):∃ v2,IsC M v2 (xs.take i) ∧ ∀ {ρ:Operand → Option V} {x y:Operand} {M':Mem},ρ x = some v → ρ y = some (.int .i64 i) → astep noX tyF ρ M' (.slice t x none (some y) none) = some (.pure v2):=by
 rcases h with ⟨rfl,rfl⟩ | ⟨b,o,c,rfl,hr,hc⟩
 ·have e0:i = 0:=by simpa using hi
  subst e0
  exact ⟨.nilsl,.inl ⟨rfl,by simp⟩,fun hx hy => st_slnil ht hx hy⟩
 ·have hl:(xs.take i).length = i:=by rw [List.length_take]; omega
  exact ⟨.sl b o i (some c),.inr ⟨b,o,c,by rw [hl],by rw [hl]; exact rd_top hr hi,by rw [hl]; omega⟩,fun hx hy => st_slT ht hx hy hi hc⟩
end
section
variable {G:GF} {M:Mem} {s b o k:Nat} {lim:Option Nat} {xs:List Int}
theorem strip_call (hG:GOK G) (hk:k = 1 ∨ k = 2) (hs:s = 8 ∨ s = 16) (hx:xs.length = s) (hb:Bytes xs) (hr:rd M b o s = some (u8s' xs)) (hl:LimP M b o s lim) :
  ∃ (M2:Mem) (v:V) (n:Nat),GrowL M M2 [] ∧ ((ACall Tryz.prog G 25 [.int .i64 k,.int .i64 s,.sl b o s lim] M (.tup [.nilsl,.int .i64 8]) M2) ∨
   (ACall Tryz.prog G 25 [.int .i64 k,.int .i64 s,.sl b o s lim] M (.tup [v,.int .i64 0]) M2 ∧ 1 ≤ n ∧ n ≤ s ∧ IsS M2 v (xs.take (s - n)) ∧ xs.drop (s - n) = madeL k n)):=by
 obtain ⟨M1,n,hc,hM1,h⟩:=long_call hG hk hs hx hb hr hl
 by_cases hn:n = 0
 ·subst hn
  refine ⟨M1,.nilsl,0,hM1,.inl ?_⟩
  refine acall_mk (n:=32) (fv:=fnOf Tryz.f25) rfl rfl (by simp) (by decide) ?_
  refine AWX.seq (AWX.region (AOX.q hG rfl (st_as rfl) rfl (AOX.q hG rfl (st_as rfl) rfl (AOX.nil ?_))))
  refine AWX.seq (AWX.block (AWX.seq (AWX.region (AOX.q hG rfl (st_mv rfl) rfl (AOX.qc hG rfl (st_call rfl rfl) (tell_call hG hk) rfl (AOX.q hG rfl (st_not rfl) rfl (AOX.q hG rfl (st_as rfl) rfl (AOX.nil ?_))))))))
  refine AWX.cf rfl (AWX.seq (AWX.seq (AWX.region (AOX.q hG rfl (st_mv rfl) rfl (AOX.qc hG rfl (st_call rfl rfl) (sized_call hG hs) rfl (AOX.q hG rfl (st_not rfl) rfl (AOX.q hG rfl (st_as rfl) rfl (AOX.nil ?_))))))))
  refine AWX.cf rfl (AWX.region (AOX.q hG rfl (st_mv rfl) rfl (AOX.q hG rfl (st_len sl22 rfl) rfl (AOX.q hG rfl (st_mv rfl) rfl (AOX.q hG rfl (st_bin rfl rfl (b_neqF (by omega))) rfl (AOX.q hG rfl (st_as rfl) rfl (AOX.nil ?_)))))))
  refine AWX.cf rfl (AWX.skip ?_)
  refine AWX.seq (AWX.region (AOX.q hG rfl (st_mv rfl) rfl (AOX.q hG rfl (st_mv rfl) rfl (AOX.qc hG rfl (st_call rfl rfl) (hc) rfl (AOX.q hG rfl (st_as rfl) rfl (AOX.nil ?_))))))
  refine AWX.seq (AWX.seq (AWX.region (AOX.q hG rfl (st_mv rfl) rfl (AOX.q hG rfl (st_bin rfl rfl (b_eqlT (by omega))) rfl (AOX.nil ?_)))))
  refine AWX.ct rfl (AWX.seq (AWX.region (AOX.q hG rfl (st_as rfl) rfl (AOX.q hG rfl (st_as rfl) rfl (AOX.nil ?_)))))
  refine AWX.ret ⟨.inr rfl,_,_,rfl,rfl,rfl⟩
 ·obtain ⟨h1,h2,h3⟩:=h.resolve_left hn
  have ht:(xs.take (s - n)).length = s - n:=by rw [List.length_take]; omega
  obtain ⟨M2,v,hcl,hM2,hv,_⟩:=clone_call (v:=.sl b o (s - n) lim) (xs:=xs.take (s - n)) hG (by omega) (.inr ⟨b,o,lim,by rw [ht],by rw [ht]; exact rd_top (rd_grow hM1 hr (by simp)) (by omega)⟩)
  have hl1:LimP M1 b o s lim:=by
   obtain ⟨k,hk,_⟩:=rd_row hr
   exact hl.grow hM1 (lt_of hk) (by simp)
  refine ⟨M2,v,n,hM1.tr hM2,.inr ⟨?_,h1,h2,hv,h3⟩⟩
  refine acall_mk (n:=32) (fv:=fnOf Tryz.f25) rfl rfl (by simp) (by decide) ?_
  refine AWX.seq (AWX.region (AOX.q hG rfl (st_as rfl) rfl (AOX.q hG rfl (st_as rfl) rfl (AOX.nil ?_))))
  refine AWX.seq (AWX.block (AWX.seq (AWX.region (AOX.q hG rfl (st_mv rfl) rfl (AOX.qc hG rfl (st_call rfl rfl) (tell_call hG hk) rfl (AOX.q hG rfl (st_not rfl) rfl (AOX.q hG rfl (st_as rfl) rfl (AOX.nil ?_))))))))
  refine AWX.cf rfl (AWX.seq (AWX.seq (AWX.region (AOX.q hG rfl (st_mv rfl) rfl (AOX.qc hG rfl (st_call rfl rfl) (sized_call hG hs) rfl (AOX.q hG rfl (st_not rfl) rfl (AOX.q hG rfl (st_as rfl) rfl (AOX.nil ?_))))))))
  refine AWX.cf rfl (AWX.region (AOX.q hG rfl (st_mv rfl) rfl (AOX.q hG rfl (st_len sl22 rfl) rfl (AOX.q hG rfl (st_mv rfl) rfl (AOX.q hG rfl (st_bin rfl rfl (b_neqF (by omega))) rfl (AOX.q hG rfl (st_as rfl) rfl (AOX.nil ?_)))))))
  refine AWX.cf rfl (AWX.skip ?_)
  refine AWX.seq (AWX.region (AOX.q hG rfl (st_mv rfl) rfl (AOX.q hG rfl (st_mv rfl) rfl (AOX.qc hG rfl (st_call rfl rfl) (hc) rfl (AOX.q hG rfl (st_as rfl) rfl (AOX.nil ?_))))))
  refine AWX.seq (AWX.seq (AWX.region (AOX.q hG rfl (st_mv rfl) rfl (AOX.q hG rfl (st_bin rfl rfl (b_eqlF (by omega))) rfl (AOX.nil ?_)))))
  refine AWX.cf rfl (AWX.skip ?_)
  refine AWX.seq (AWX.region (AOX.q hG rfl (st_mv rfl) rfl (AOX.q hG rfl (st_mv rfl) rfl (AOX.q hG rfl (st_mv rfl) rfl (AOX.q hG rfl (st_bin rfl rfl (b_sub (r:=s - n) (by omega) (by omega))) rfl (AOX.q hG rfl (st_slT sl22 rfl rfl (by omega) hl1) rfl (AOX.qc hG rfl (st_call rfl rfl) (hcl) rfl (AOX.q hG rfl (st_as rfl) rfl (AOX.q hG rfl (st_as rfl) rfl (AOX.nil ?_))))))))))
  refine AWX.fin rfl rfl
def CNew (G:GF) (t s L:Nat) (ns:List Int) (E D:List Int → List Int):Prop:=∀ (M:Mem) (b o cp:Nat),rd M b o L = some (u8s' ns) → L ≤ cp →
  ∃ (M2:Mem) (p:Nat),ACall Tryz.prog G 32 [.int .i64 t,.sl b o L (some cp)] M (.tup [.ptr p 0,.int .i64 0]) M2 ∧ GrowL M M2 [] ∧ CiP G t s E D p M2.length M2
def CfB (t mode k:Nat) (back:Bool):Blk:=.own [.int .i64 t,.int .i64 mode,.int .i64 k,.bool back] 0
def CfV (t mode k:Nat) (back:Bool):V:=.agg [.int .i64 t,.int .i64 mode,.int .i64 k,.bool back]
section
variable {q t mode:Nat} {back:Bool}
theorem CfB.r (h:M[q]? = some (CfB t mode k back)):rd M q 0 4 = some [.int .i64 t,.int .i64 mode,.int .i64 k,.bool back]:=rd_own0 h rfl
theorem CfB.r0 (h:M[q]? = some (CfB t mode k back)):rd M q (0 + 0) 1 = some [.int .i64 t]:=by rw [rd_own h (by simp)]; rfl
theorem CfB.r1 (h:M[q]? = some (CfB t mode k back)):rd M q (0 + 1) 1 = some [.int .i64 mode]:=by rw [rd_own h (by simp)]; rfl
theorem CfB.r2 (h:M[q]? = some (CfB t mode k back)):rd M q (0 + 2) 1 = some [.int .i64 k]:=by rw [rd_own h (by simp)]; rfl
theorem CfB.r3 (h:M[q]? = some (CfB t mode k back)):rd M q (0 + 3) 1 = some [.bool back]:=by rw [rd_own h (by simp)]; rfl
theorem row28:∃ d,tyF 28 = some d ∧ d.kind.row = true ∧ d.size = 4:=⟨_,rfl,rfl,rfl⟩
theorem open_call (hG:GOK G) {L cp:Nat} {ns ivs:List Int} {E D:List Int → List Int} {vi:V} (ht:1 ≤ t ∧ t ≤ 8) (hm:mode = 1 ∨ mode = 2) (hk:k = 1 ∨ k = 2) (hn:CNew G t (szOf t) L ns E D) (hr:rd M b o L = some (u8s' ns)) (hcp:L ≤ cp) (hi:IsS M vi ivs) (hil:ivs.length = if mode = 1 then 0 else szOf t) :
  ∃ (M2:Mem) (p:Nat),ACall Tryz.prog G 17 [CfV t mode k back,.sl b o L (some cp),vi] M (.tup [.ptr p 0,.int .i64 0]) M2 ∧ GrowL M M2 [] ∧ CiP G t (szOf t) E D p M2.length M2:=by
 have h1:(M ++ [CfB t mode k back])[M.length]? = some (CfB t mode k back):=app_last
 have g1:GrowL M (M ++ [CfB t mode k back]) []:=GrowL.one _ _ _
 obtain ⟨M2,p,hc,hM2,hci⟩:=hn (M ++ [CfB t mode k back]) b o cp (rd_grow g1 hr (by simp)) hcp
 have h2:=hM2.g0 h1
 obtain ⟨cs,g,htag⟩:=hci.tag
 refine ⟨M2,p,?_,g1.tr hM2,hci⟩
 refine acall_mk (n:=52) (fv:=fnOf Tryz.f17) rfl rfl (by simp) (by decide) ?_
 have hbox:∀ {ρ:Operand → Option V} {x:Operand},ρ x = some (CfV t mode k back) → astep noX tyF ρ M (.box 28 x) = some (.val (.ptr M.length 0) (M ++ [CfB t mode k back])):=fun h => st_box h
 rcases hm with rfl | rfl
 ·rw [if_pos rfl] at hil
  refine AWX.seq (AWX.region (AOX.qv hG rfl (hbox rfl) rfl (AOX.q hG rfl (st_as rfl) rfl (AOX.q hG rfl (st_as rfl) rfl (AOX.nil ?_)))))
  refine AWX.seq (AWX.region (AOX.q hG rfl (st_fa rfl rfl) rfl (AOX.q hG rfl (st_ld one3 rfl (CfB.r0 h1)) rfl (AOX.q hG rfl (st_mv rfl) rfl (AOX.qc hG rfl (st_call rfl rfl) (hc) rfl (AOX.q hG rfl (st_mv rfl) rfl (AOX.q hG rfl (st_ex rfl rfl) rfl (AOX.q hG rfl (st_ex rfl rfl) rfl (AOX.q hG rfl (st_as rfl) rfl (AOX.q hG rfl (st_as rfl) rfl (AOX.nil ?_)))))))))))
  refine AWX.seq (AWX.seq (AWX.region (AOX.q hG rfl (st_mv rfl) rfl (AOX.q hG rfl (st_bin rfl rfl (b_neqF (by omega))) rfl (AOX.nil ?_)))))
  refine AWX.cf rfl (AWX.skip ?_)
  refine AWX.seq (AWX.region (AOX.q hG rfl (st_fa rfl rfl) rfl (AOX.q hG rfl (st_ld one3 rfl (CfB.r1 h2)) rfl (AOX.qc hG rfl (st_call rfl rfl) (kind_call hG (.inl rfl) M2) rfl (AOX.q hG rfl (st_mv rfl) rfl (AOX.qc hG rfl (st_call rfl rfl) (csize_call hG ht htag) rfl (AOX.q hG rfl (st_as rfl) rfl (AOX.q hG rfl (st_as rfl) rfl (AOX.nil ?_)))))))))
  refine AWX.seq (AWX.seq (AWX.region (AOX.q hG rfl (st_fa rfl rfl) rfl (AOX.q hG rfl (st_ld one3 rfl (CfB.r1 h2)) rfl (AOX.q hG rfl (st_bin rfl rfl (b_eqlT (by omega))) rfl (AOX.nil ?_))))))
  refine AWX.ct rfl (AWX.region (AOX.q hG rfl (st_as rfl) rfl (AOX.nil ?_)))
  refine AWX.seq (AWX.block (AWX.seq (AWX.seq (AWX.region (AOX.q hG rfl (st_mv rfl) rfl (AOX.q hG rfl (st_bin rfl rfl (b_eqlF (by omega))) rfl (AOX.q hG rfl (st_as rfl) rfl (AOX.nil ?_))))))))
  refine AWX.cf rfl (AWX.seq (AWX.region (AOX.q hG rfl (st_fa rfl rfl) rfl (AOX.q hG rfl (st_ld one3 rfl (CfB.r2 h2)) rfl (AOX.q hG rfl (st_bin rfl rfl (b_lssF (by omega))) rfl (AOX.q hG rfl (st_as rfl) rfl (AOX.nil ?_)))))))
  refine AWX.cf rfl (AWX.seq (AWX.region (AOX.q hG rfl (st_fa rfl rfl) rfl (AOX.q hG rfl (st_ld one3 rfl (CfB.r2 h2)) rfl (AOX.q hG rfl (st_bin rfl rfl (b_gtrF (by omega))) rfl (AOX.q hG rfl (st_as rfl) rfl (AOX.nil ?_)))))))
  refine AWX.cf rfl (AWX.region (AOX.q hG rfl (st_fa rfl rfl) rfl (AOX.q hG rfl (st_ld one3 rfl (CfB.r2 h2)) rfl (AOX.q hG rfl (st_bin rfl rfl (b_neqT (by omega))) rfl (AOX.q hG rfl (st_mv rfl) rfl (AOX.qg hG rfl rfl (st_mv rfl) rfl (AOX.qg hG rfl rfl (st_bin rfl rfl (b_neqF rfl)) rfl (AOX.q hG rfl (st_pickT rfl rfl) rfl (AOX.q hG rfl (st_as rfl) rfl (AOX.nil ?_))))))))))
  refine AWX.cf rfl (AWX.seq (AWX.region (AOX.q hG rfl (st_mv rfl) rfl (AOX.q hG rfl (st_lenS sl22 hi rfl) rfl (AOX.q hG rfl (st_mv rfl) rfl (AOX.q hG rfl (st_bin rfl rfl (b_neqF (by omega))) rfl (AOX.q hG rfl (st_as rfl) rfl (AOX.nil ?_))))))))
  refine AWX.cf rfl (AWX.skip ?_)
  refine AWX.seq (AWX.region (AOX.q hG rfl (st_mv rfl) rfl (AOX.q hG rfl (st_as rfl) rfl (AOX.q hG rfl (st_as rfl) rfl (AOX.nil ?_)))))
  refine AWX.fin rfl rfl
 ·rw [if_neg (by omega)] at hil
  refine AWX.seq (AWX.region (AOX.qv hG rfl (hbox rfl) rfl (AOX.q hG rfl (st_as rfl) rfl (AOX.q hG rfl (st_as rfl) rfl (AOX.nil ?_)))))
  refine AWX.seq (AWX.region (AOX.q hG rfl (st_fa rfl rfl) rfl (AOX.q hG rfl (st_ld one3 rfl (CfB.r0 h1)) rfl (AOX.q hG rfl (st_mv rfl) rfl (AOX.qc hG rfl (st_call rfl rfl) (hc) rfl (AOX.q hG rfl (st_mv rfl) rfl (AOX.q hG rfl (st_ex rfl rfl) rfl (AOX.q hG rfl (st_ex rfl rfl) rfl (AOX.q hG rfl (st_as rfl) rfl (AOX.q hG rfl (st_as rfl) rfl (AOX.nil ?_)))))))))))
  refine AWX.seq (AWX.seq (AWX.region (AOX.q hG rfl (st_mv rfl) rfl (AOX.q hG rfl (st_bin rfl rfl (b_neqF (by omega))) rfl (AOX.nil ?_)))))
  refine AWX.cf rfl (AWX.skip ?_)
  refine AWX.seq (AWX.region (AOX.q hG rfl (st_fa rfl rfl) rfl (AOX.q hG rfl (st_ld one3 rfl (CfB.r1 h2)) rfl (AOX.qc hG rfl (st_call rfl rfl) (kind_call hG (.inr rfl) M2) rfl (AOX.q hG rfl (st_mv rfl) rfl (AOX.qc hG rfl (st_call rfl rfl) (csize_call hG ht htag) rfl (AOX.q hG rfl (st_as rfl) rfl (AOX.q hG rfl (st_as rfl) rfl (AOX.nil ?_)))))))))
  refine AWX.seq (AWX.seq (AWX.region (AOX.q hG rfl (st_fa rfl rfl) rfl (AOX.q hG rfl (st_ld one3 rfl (CfB.r1 h2)) rfl (AOX.q hG rfl (st_bin rfl rfl (b_eqlF (by omega))) rfl (AOX.nil ?_))))))
  refine AWX.cf rfl (AWX.skip ?_)
  refine AWX.seq (AWX.block (AWX.seq (AWX.seq (AWX.region (AOX.q hG rfl (st_mv rfl) rfl (AOX.q hG rfl (st_bin rfl rfl (b_eqlF (by omega))) rfl (AOX.q hG rfl (st_as rfl) rfl (AOX.nil ?_))))))))
  refine AWX.cf rfl (AWX.seq (AWX.region (AOX.q hG rfl (st_fa rfl rfl) rfl (AOX.q hG rfl (st_ld one3 rfl (CfB.r2 h2)) rfl (AOX.q hG rfl (st_bin rfl rfl (b_lssF (by omega))) rfl (AOX.q hG rfl (st_as rfl) rfl (AOX.nil ?_)))))))
  refine AWX.cf rfl (AWX.seq (AWX.region (AOX.q hG rfl (st_fa rfl rfl) rfl (AOX.q hG rfl (st_ld one3 rfl (CfB.r2 h2)) rfl (AOX.q hG rfl (st_bin rfl rfl (b_gtrF (by omega))) rfl (AOX.q hG rfl (st_as rfl) rfl (AOX.nil ?_)))))))
  refine AWX.cf rfl (AWX.region (AOX.q hG rfl (st_fa rfl rfl) rfl (AOX.q hG rfl (st_ld one3 rfl (CfB.r2 h2)) rfl (AOX.q hG rfl (st_bin rfl rfl (b_neqT (by omega))) rfl (AOX.q hG rfl (st_mv rfl) rfl (AOX.qg hG rfl rfl (st_mv rfl) rfl (AOX.qg hG rfl rfl (st_bin rfl rfl (b_neqF rfl)) rfl (AOX.q hG rfl (st_pickT rfl rfl) rfl (AOX.q hG rfl (st_as rfl) rfl (AOX.nil ?_))))))))))
  refine AWX.cf rfl (AWX.seq (AWX.region (AOX.q hG rfl (st_mv rfl) rfl (AOX.q hG rfl (st_lenS sl22 hi rfl) rfl (AOX.q hG rfl (st_mv rfl) rfl (AOX.q hG rfl (st_bin rfl rfl (b_neqF (by omega))) rfl (AOX.q hG rfl (st_as rfl) rfl (AOX.nil ?_))))))))
  refine AWX.cf rfl (AWX.skip ?_)
  refine AWX.seq (AWX.region (AOX.q hG rfl (st_mv rfl) rfl (AOX.q hG rfl (st_as rfl) rfl (AOX.q hG rfl (st_as rfl) rfl (AOX.nil ?_)))))
  refine AWX.fin rfl rfl
end
end
end
end
section
open Go.Proofs
noncomputable section
theorem GrowL.un {M M1 M2:Mem} {q:Nat} (h:GrowL M M1 []) (h':GrowL M1 M2 [q]) (hq:M.length ≤ q):GrowL M M2 []:=by
 refine ⟨Nat.le_trans h.le h'.le,fun b hb hne => ?_,fun b cs hb => h.ro b cs (h'.ro b cs hb),fun b cs hb => h'.keep b cs (h.keep b cs hb),fun _ h => by cases h⟩
 by_cases e:M1[b]? = M[b]?
 ·have:=h'.same b (Nat.lt_of_lt_of_le hb h.le) (by rw [e]; exact hne)
  simp only [List.mem_singleton] at this; omega
 ·exact h.same b hb e
def padL (k s:Nat) (xs:List Int):List Int:=xs ++ madeL k (s - xs.length % s)
theorem padL_len {k s:Nat} {xs:List Int} (hk:k = 1 ∨ k = 2) (hs:s = 8 ∨ s = 16):(padL k s xs).length = (xs.length / s + 1) * s:=by
 have h1:xs.length % s < s:=Nat.mod_lt _ (by omega)
 have h2:xs.length / s * s + xs.length % s = xs.length:=by rw [Nat.mul_comm]; exact Nat.div_add_mod ..
 rw [padL,List.length_append,made_len hk (by omega),Nat.succ_mul]
 omega
theorem padL_in {k s:Nat} {xs:List Int} (hs:s = 8 ∨ s = 16) (hb:Bytes xs):Bytes (padL k s xs):=fun m h => by
 rcases List.mem_append.1 h with h | h
 ·exact hb m h
 ·exact made_in (by omega) m h
section
variable {G:GF} {M:Mem} {t mode k L b o cp:Nat} {ns ivs xs:List Int} {E D:List Int → List Int} {vi vm:V}
theorem shot_fwd (hG:GOK G) (ht:1 ≤ t ∧ t ≤ 8) (hm:mode = 1 ∨ mode = 2) (hk:k = 1 ∨ k = 2) (hE:EDok (szOf t) E D) (hn:CNew G t (szOf t) L ns E D) (hr:rd M b o L = some (u8s' ns)) (hcp:L ≤ cp)
  (hi:IsS M vi ivs) (hil:ivs.length = if mode = 1 then 0 else szOf t) (hib:Bytes ivs) (hx:IsC M vm xs) (hxb:Bytes xs) (hxl:xs.length ≤ 1000) :
  ∃ (M2:Mem) (ob N:Nat),ACall Tryz.prog G 8 [CfV t mode k false,.sl b o L (some cp),vi,vm] M (.tup [.sl ob 0 N (some N),.int .i64 0]) M2 ∧ GrowL M M2 [] ∧ M.length ≤ ob ∧ N = (padL k (szOf t) xs).length ∧
   M2[ob]? = some (.own (u8s' (stepL mode false E D (szOf t) (xs.length / szOf t + 1) ivs (padL k (szOf t) xs))) 0):=by
 have hs:=szOf_in t
 generalize hsz:szOf t = s at *
 have h1:(M ++ [CfB t mode k false])[M.length]? = some (CfB t mode k false):=app_last
 have g1:GrowL M (M ++ [CfB t mode k false]) []:=GrowL.one _ _ _
 have hbox:∀ {ρ:Operand → Option V} {x:Operand},ρ x = some (CfV t mode k false) → astep noX tyF ρ M (.box 28 x) = some (.val (.ptr M.length 0) (M ++ [CfB t mode k false])):=fun h => st_box h
 generalize M ++ [CfB t mode k false] = M1 at h1 g1 hbox
 obtain ⟨M2,p,hc2,hM2,hci⟩:=open_call (M:=M1) (k:=k) (back:=false) hG ht hm hk (hsz ▸ hn) (rd_grow g1 hr (by simp)) hcp (hi.grow g1) (by rw [hsz]; exact hil)
 rw [hsz] at hci
 have h2:=hM2.g0 h1
 have g2:=g1.tr hM2
 obtain ⟨cs,gg,htag⟩:=hci.tag
 obtain ⟨M3,qm,vch,hc3,hM3,hqm,hmo,hch⟩:=mnew_call (mode:=mode) (back:=false) hG ht htag hm (hi.grow g2) (by rw [hsz]; exact hil)
 have h3:=hM3.g0 h2
 have g3:=g2.tr hM3
 have htag3:=hM3.g0 htag
 have hmod:xs.length % s < s:=Nat.mod_lt _ (by omega)
 have hml:xs.length % s ≤ xs.length:=Nat.mod_le _ _
 obtain ⟨vt,hvt,hst⟩:=dropC (i:=xs.length - xs.length % s) sl22 (hx.grow g3) (by omega)
 obtain ⟨vf,hvf,hsf⟩:=takeC (i:=xs.length - xs.length % s) sl22 (hx.grow g3) (by omega)
 have htl:(xs.drop (xs.length - xs.length % s)).length = xs.length % s:=by rw [List.length_drop]; omega
 obtain ⟨M4,vp,hc4,hM4,hvp⟩:=padd_call (k:=k) (s:=s) hG hk hs hvt.s (by omega)
 rw [htl] at hvp
 have h4:=hM4.g0 h3
 have hsl:∀ {ρ:Operand → Option V} {x y:Operand},ρ x = some vf → ρ y = some vp → astep noX tyF ρ M4 (.buildSlice 36 2 #[(0,x),(1,y)]) = some (.val (.sl M4.length 0 2 (some 2)) (M4 ++ [.own [vf,vp] 0])):=fun hx hy => st_bs2 el36 hx hy hvf.s.cells.1 hvp.cells.1
 have g5:GrowL M4 (M4 ++ [.own [vf,vp] 0]) []:=GrowL.one _ _ _
 obtain ⟨M6,vc,hc6,hM6,hvc,_⟩:=concat_call (b:=M4.length) (lim:=some 2) (v1:=vf) (v2:=vp) hG (rd_own0 app_last rfl) ((hvf.s.grow hM4).grow g5) (hvp.grow g5) (by
  have:=made_len (n:=s - xs.length % s) hk (by omega)
  simp only [List.length_append,List.length_take,List.length_drop,this]; omega)
 have e:xs.take (xs.length - xs.length % s) ++ (xs.drop (xs.length - xs.length % s) ++ madeL k (s - xs.length % s)) = padL k s xs:=by
  rw [← List.append_assoc,List.take_append_drop]; rfl
 rw [e] at hvc
 have g36:=(hM4.tr g5).tr hM6
 have hpl:=padL_len (xs:=xs) hk hs
 obtain ⟨M7,ob,hc7,hM7,hob,hout⟩:=step_call (k:=xs.length / s + 1) (n:=M2.length) (mode:=mode) (back:=false) hG hE ht hsz (g36.g0 htag3) hm (hci.grow (hM3.tr g36) (by simp)) hqm (g36.g0 hmo) (hch.grow g36) (fun e => ⟨by rw [hil,if_neg (by omega)],hib⟩) hvc hpl (padL_in hs hxb) (by
  have:xs.length / s ≤ xs.length / 8:=Nat.div_le_div_left (by omega) (by omega)
  omega)
 refine ⟨M7,ob,_,?_,(g3.tr g36).un hM7 (Nat.le_trans g2.le hqm),Nat.le_trans (g3.tr g36).le hob,rfl,hout⟩
 have h6:=g36.g0 h3
 have h7:M7[M.length]? = some (CfB t mode k false):=hM7.g h6 (by
  have:=Nat.le_trans g1.le (Nat.le_trans hM2.le hqm)
  have:=lt_of h1
  have:M1.length ≤ M2.length:=hM2.le
  simp only [List.mem_singleton]; omega)
 have hsz4:=csize_call hG ht htag3
 rw [hsz] at hsz4
 refine acall_mk (n:=128) (fv:=fnOf Tryz.f8) rfl rfl (by simp) (by decide) ?_
 refine AWX.seq (AWX.region (AOX.qv hG rfl (hbox rfl) rfl (AOX.q hG rfl (st_as rfl) rfl (AOX.q hG rfl (st_as rfl) rfl (AOX.nil ?_)))))
 refine AWX.scope (JX.step (AWX.seq (AWX.region (AOX.q hG rfl (st_lda row28 rfl (CfB.r h1)) rfl (AOX.q hG rfl (st_mv rfl) rfl (AOX.q hG rfl (st_mv rfl) rfl (AOX.qc hG rfl (st_call rfl rfl) (hc2) rfl (AOX.q hG rfl (st_mv rfl) rfl (AOX.q hG rfl (st_ex rfl rfl) rfl (AOX.q hG rfl (st_ex rfl rfl) rfl (AOX.q hG rfl (st_as rfl) rfl (AOX.q hG rfl (st_as rfl) rfl (AOX.nil ?_)))))))))))))
 refine AWX.seq (AWX.seq (AWX.region (AOX.q hG rfl (st_mv rfl) rfl (AOX.q hG rfl (st_bin rfl rfl (b_neqF (by omega))) rfl (AOX.nil ?_)))))
 refine AWX.cf rfl (AWX.skip ?_)
 refine AWX.seq (AWX.seq (AWX.region (AOX.q hG rfl (st_fa rfl rfl) rfl (AOX.q hG rfl (st_ld one3 rfl (CfB.r1 h2)) rfl (AOX.qc hG rfl (st_call rfl rfl) (kind_call hG hm M2) rfl (AOX.q hG rfl (st_bin rfl rfl (b_eqlF (by omega))) rfl (AOX.nil ?_)))))))
 refine AWX.cf rfl (AWX.skip ?_)
 refine AWX.seq (AWX.region (AOX.q hG rfl (st_mv rfl) rfl (AOX.q hG rfl (st_fa rfl rfl) rfl (AOX.q hG rfl (st_ld one3 rfl (CfB.r1 h2)) rfl (AOX.q hG rfl (st_fa rfl rfl) rfl (AOX.q hG rfl (st_ld one4 rfl (CfB.r3 h2)) rfl (AOX.q hG rfl (st_mv rfl) rfl (AOX.qc hG rfl (st_call rfl rfl) (hc3) rfl (AOX.q hG rfl (st_mv rfl) rfl (AOX.q hG rfl (st_ex rfl rfl) rfl (AOX.q hG rfl (st_ex rfl rfl) rfl (AOX.q hG rfl (st_as rfl) rfl (AOX.q hG rfl (st_as rfl) rfl (AOX.nil ?_))))))))))))))
 refine AWX.seq (AWX.region (AOX.q hG rfl (st_mv rfl) rfl (AOX.qc hG rfl (st_call rfl rfl) (hsz4) rfl (AOX.q hG rfl (st_as rfl) rfl (AOX.nil ?_)))))
 refine AWX.seq (AWX.label ?_)
 refine AWX.seq (AWX.block (AWX.loop (LX.step (AWX.seq (AWX.seq (AWX.region (AOX.q hG rfl (st_fa rfl rfl) rfl (AOX.q hG rfl (st_ld one3 rfl (CfB.r2 h3)) rfl (AOX.q hG rfl (st_bin rfl rfl (b_neqT (by omega))) rfl (AOX.nil ?_))))))))))
 refine AWX.ct rfl (AWX.skip ?_)
 refine AWX.block (AWX.seq (AWX.seq (AWX.region (AOX.q hG rfl (st_fa rfl rfl) rfl (AOX.q hG rfl (st_ld one4 rfl (CfB.r3 h3)) rfl (AOX.nil ?_))))))
 refine AWX.cf rfl (AWX.skip ?_)
 refine AWX.seq (AWX.region (AOX.q hG rfl (st_mv rfl) rfl (AOX.q hG rfl (st_lenS sl22 hx.s rfl) rfl (AOX.q hG rfl (st_mv rfl) rfl (AOX.q hG rfl (st_lenS sl22 hx.s rfl) rfl (AOX.q hG rfl (st_mv rfl) rfl (AOX.q hG rfl (st_bin rfl rfl (b_rm (n:=s) (by omega))) rfl (AOX.q hG rfl (st_bin rfl rfl (b_sub (r:=xs.length - xs.length % s) (by omega) (by omega))) rfl (AOX.q hG rfl (st_as rfl) rfl (AOX.nil ?_))))))))))
 refine AWX.seq (AWX.draw ?_)
 refine QG2.b (bad:=[72,73,74,75]) hG (by kernel_rfl) rfl (st_fa rfl rfl) rfl ?_
 refine QG2.q (bad:=[72,73,74,75]) hG (by kernel_rfl) rfl rfl (st_ld one3 rfl (CfB.r2 h3)) rfl ?_
 refine QG2.b (bad:=[70,71,73,74,75]) hG (by kernel_rfl) rfl (st_mv rfl) rfl ?_
 refine QG2.b (bad:=[70,71,72,74]) hG (by kernel_rfl) rfl (st_mv rfl) rfl ?_
 refine QG2.b (bad:=[70,71,72,73]) hG (by kernel_rfl) rfl (st_mv rfl) rfl ?_
 refine QG2.q (bad:=[70,71,72]) hG (by kernel_rfl) rfl rfl (hst rfl rfl) rfl ?_
 refine QG2.c (T:=[]) (bad:=[]) hG (by kernel_rfl) (by kernel_rfl) (.inl rfl) rfl (st_call rfl rfl) (hc4) hM4 rfl ?_
 refine QG2.b (bad:=[]) hG (by kernel_rfl) rfl (st_mv rfl) rfl ?_
 refine QG2.b (bad:=[78]) hG (by kernel_rfl) rfl (st_ex rfl rfl) rfl ?_
 refine QG2.b (bad:=[77,16]) hG (by kernel_rfl) rfl (st_ex rfl rfl) rfl ?_
 refine QG2.b (bad:=[78]) hG (by kernel_rfl) rfl (st_as rfl) rfl ?_
 refine QG2.b (bad:=[]) hG (by kernel_rfl) rfl (st_as rfl) rfl ?_
 refine QG2.done (by kernel_rfl) rfl ?_
 refine AWX.seq (AWX.region (AOX.q hG rfl (st_mv rfl) rfl (AOX.q hG rfl (st_mv rfl) rfl (AOX.q hG rfl (hsf rfl rfl) rfl (AOX.q hG rfl (st_mv rfl) rfl (AOX.qv hG rfl (hsl rfl rfl) rfl (AOX.qc hG rfl (st_call rfl rfl) (hc6) rfl (AOX.q hG rfl (st_as rfl) rfl (AOX.nil ?_)))))))))
 refine AWX.exit ?_
 refine AWX.seq (AWX.region (AOX.q hG rfl (st_mv rfl) rfl (AOX.q hG rfl (st_mv rfl) rfl (AOX.qc hG rfl (st_call rfl rfl) (hc7) rfl (AOX.q hG rfl (st_mv rfl) rfl (AOX.q hG rfl (st_ex rfl rfl) rfl (AOX.q hG rfl (st_ex rfl rfl) rfl (AOX.q hG rfl (st_as rfl) rfl (AOX.q hG rfl (st_as rfl) rfl (AOX.nil ?_))))))))))
 refine AWX.seq (AWX.seq (AWX.region (AOX.q hG rfl (st_mv rfl) rfl (AOX.q hG rfl (st_bin rfl rfl (b_neqF rfl)) rfl (AOX.q hG rfl (st_mv rfl) rfl (AOX.qg hG rfl rfl (st_fa rfl rfl) rfl (AOX.qg hG rfl rfl (st_ld one3 rfl (CfB.r2 h7)) rfl (AOX.qg hG rfl rfl (st_bin rfl rfl (b_eqlF (by omega))) rfl (AOX.q hG rfl (st_pickF rfl rfl) rfl (AOX.q hG rfl (st_mv rfl) rfl (AOX.qg hG rfl rfl (st_fa rfl rfl) rfl (AOX.qg hG rfl rfl (st_ld one4 rfl (CfB.r3 h7)) rfl (AOX.qg hG rfl rfl (st_not rfl) rfl (AOX.q hG rfl (st_pickF rfl rfl) rfl (AOX.nil ?_)))))))))))))))
 refine AWX.ct rfl (AWX.seq (AWX.region (AOX.q hG rfl (st_mv rfl) rfl (AOX.q hG rfl (st_mv rfl) rfl (AOX.q hG rfl (st_as rfl) rfl (AOX.q hG rfl (st_as rfl) rfl (AOX.nil ?_)))))))
 refine AWX.ret ⟨.inr rfl,_,_,rfl,rfl,rfl⟩
theorem shot_back (hG:GOK G) (ht:1 ≤ t ∧ t ≤ 8) (hm:mode = 1 ∨ mode = 2) (hk:k = 1 ∨ k = 2) (hE:EDok (szOf t) E D) (hn:CNew G t (szOf t) L ns E D) (hr:rd M b o L = some (u8s' ns)) (hcp:L ≤ cp)
  (hi:IsS M vi ivs) (hil:ivs.length = if mode = 1 then 0 else szOf t) (hib:Bytes ivs) (hx:IsC M vm xs) (hxb:Bytes xs) {K:Nat} (hxl:xs.length = (K + 1) * szOf t) (hK:K ≤ 200) :
  ∃ (M2:Mem) (v:V) (e:Int),ACall Tryz.prog G 8 [CfV t mode k true,.sl b o L (some cp),vi,vm] M (.tup [v,.int .i64 e]) M2 ∧ GrowL M M2 [] ∧ ((e = 8 ∧ v = .nilsl) ∨ (e = 0 ∧ ∃ (ys:List Int) (n:Nat),IsS M2 v ys ∧ 1 ≤ n ∧ n ≤ szOf t ∧ stepL mode true E D (szOf t) (K + 1) ivs xs = ys ++ madeL k n)):=by
 have hs:=szOf_in t
 generalize hsz:szOf t = s at *
 have hKs:(K + 1) * s = K * s + s:=Nat.succ_mul K s
 have hxl2:xs.length ≤ 201 * 16:=by rw [hxl]; exact Nat.mul_le_mul (by omega) (by omega)
 have h1:(M ++ [CfB t mode k true])[M.length]? = some (CfB t mode k true):=app_last
 have g1:GrowL M (M ++ [CfB t mode k true]) []:=GrowL.one _ _ _
 have hbox:∀ {ρ:Operand → Option V} {x:Operand},ρ x = some (CfV t mode k true) → astep noX tyF ρ M (.box 28 x) = some (.val (.ptr M.length 0) (M ++ [CfB t mode k true])):=fun h => st_box h
 generalize M ++ [CfB t mode k true] = M1 at h1 g1 hbox
 obtain ⟨M2,p,hc2,hM2,hci⟩:=open_call (M:=M1) (k:=k) (back:=true) hG ht hm hk (hsz ▸ hn) (rd_grow g1 hr (by simp)) hcp (hi.grow g1) (by rw [hsz]; exact hil)
 rw [hsz] at hci
 have h2:=hM2.g0 h1
 have g2:=g1.tr hM2
 obtain ⟨cs,gg,htag⟩:=hci.tag
 obtain ⟨M3,qm,vch,hc3,hM3,hqm,hmo,hch⟩:=mnew_call (mode:=mode) (back:=true) hG ht htag hm (hi.grow g2) (by rw [hsz]; exact hil)
 have h3:=hM3.g0 h2
 have g3:=g2.tr hM3
 have htag3:=hM3.g0 htag
 obtain ⟨M7,ob,hc7,hM7,hob,hout⟩:=step_call (k:=K + 1) (n:=M2.length) (mode:=mode) (back:=true) hG hE ht hsz htag3 hm (hci.grow hM3 (by simp)) hqm hmo hch (fun e => ⟨by rw [hil,if_neg (by omega)],hib⟩) (hx.grow g3).s hxl hxb (by omega)
 have hok:=stepL_ok (back:=true) hE hm (K + 1) ivs xs (fun e => ⟨by rw [hil,if_neg (by omega)],hib⟩) hxl hxb
 generalize hO:stepL mode true E D s (K + 1) ivs xs = out at *
 have h7:M7[M.length]? = some (CfB t mode k true):=hM7.g h3 (by
  have:=Nat.le_trans g1.le (Nat.le_trans hM2.le hqm)
  have:=lt_of h1
  have:M1.length ≤ M2.length:=hM2.le
  simp only [List.mem_singleton]; omega)
 have hsz4:=csize_call hG ht htag3
 rw [hsz] at hsz4
 have hol:out.length = xs.length:=by rw [hok.1,hxl]
 have hro:rd M7 ob 0 xs.length = some (u8s' out):=rd_own0 hout (by rw [u8s'_len,hol])
 have hoC:IsC M7 (.sl ob 0 xs.length (some xs.length)) out:=.inr ⟨ob,0,xs.length,by rw [hol],by rw [hol]; exact hro,by rw [hol]; exact Nat.le_refl _⟩
 have hM37:=(g3.un hM7 (Nat.le_trans g2.le hqm))
 have hdl:(out.drop (xs.length - s)).length = s:=by rw [List.length_drop]; omega
 have hrl:rd M7 ob (0 + (xs.length - s)) s = some (u8s' (out.drop (xs.length - s))):=by
  have:=rd_cut (i:=xs.length - s) hol hro (by omega)
  rwa [show xs.length - (xs.length - s) = s by omega] at this
 have hcut:∀ {ρ:Operand → Option V} {x y:Operand} {M':Mem},ρ x = some (.sl ob 0 xs.length (some xs.length)) → ρ y = some (.int .i64 (xs.length - s:Nat)) → astep noX tyF ρ M' (.slice 22 x (some y) none none) = some (.pure (.sl ob (0 + (xs.length - s)) s (some s))):=fun {ρ x y M'} hx hy => by
  have:=st_slD (M:=M') (t:=22) sl22 hx hy (by omega) (show LimP M' ob 0 xs.length (some xs.length) from Nat.le_refl _)
  simpa only [Option.map_some,show xs.length - (xs.length - s) = s by omega] using this
 obtain ⟨M8,vy,n,hM8,hst⟩:=strip_call (k:=k) hG hk hs hdl (fun m h => hok.2 m (List.mem_of_mem_drop h)) hrl (show LimP M7 ob (0 + (xs.length - s)) s (some s) from Nat.le_refl s)
 rcases hst with hst | ⟨hst,hn1,hn2,hvy,hmd⟩
 ·refine ⟨M8,.nilsl,8,?_,hM37.tr hM8,.inl ⟨rfl,rfl⟩⟩
  refine acall_mk (n:=128) (fv:=fnOf Tryz.f8) rfl rfl (by simp) (by decide) ?_
  refine AWX.seq (AWX.region (AOX.qv hG rfl (hbox rfl) rfl (AOX.q hG rfl (st_as rfl) rfl (AOX.q hG rfl (st_as rfl) rfl (AOX.nil ?_)))))
  refine AWX.scope (JX.step (AWX.seq (AWX.region (AOX.q hG rfl (st_lda row28 rfl (CfB.r h1)) rfl (AOX.q hG rfl (st_mv rfl) rfl (AOX.q hG rfl (st_mv rfl) rfl (AOX.qc hG rfl (st_call rfl rfl) (hc2) rfl (AOX.q hG rfl (st_mv rfl) rfl (AOX.q hG rfl (st_ex rfl rfl) rfl (AOX.q hG rfl (st_ex rfl rfl) rfl (AOX.q hG rfl (st_as rfl) rfl (AOX.q hG rfl (st_as rfl) rfl (AOX.nil ?_)))))))))))))
  refine AWX.seq (AWX.seq (AWX.region (AOX.q hG rfl (st_mv rfl) rfl (AOX.q hG rfl (st_bin rfl rfl (b_neqF (by omega))) rfl (AOX.nil ?_)))))
  refine AWX.cf rfl (AWX.skip ?_)
  refine AWX.seq (AWX.seq (AWX.region (AOX.q hG rfl (st_fa rfl rfl) rfl (AOX.q hG rfl (st_ld one3 rfl (CfB.r1 h2)) rfl (AOX.qc hG rfl (st_call rfl rfl) (kind_call hG hm M2) rfl (AOX.q hG rfl (st_bin rfl rfl (b_eqlF (by omega))) rfl (AOX.nil ?_)))))))
  refine AWX.cf rfl (AWX.skip ?_)
  refine AWX.seq (AWX.region (AOX.q hG rfl (st_mv rfl) rfl (AOX.q hG rfl (st_fa rfl rfl) rfl (AOX.q hG rfl (st_ld one3 rfl (CfB.r1 h2)) rfl (AOX.q hG rfl (st_fa rfl rfl) rfl (AOX.q hG rfl (st_ld one4 rfl (CfB.r3 h2)) rfl (AOX.q hG rfl (st_mv rfl) rfl (AOX.qc hG rfl (st_call rfl rfl) (hc3) rfl (AOX.q hG rfl (st_mv rfl) rfl (AOX.q hG rfl (st_ex rfl rfl) rfl (AOX.q hG rfl (st_ex rfl rfl) rfl (AOX.q hG rfl (st_as rfl) rfl (AOX.q hG rfl (st_as rfl) rfl (AOX.nil ?_))))))))))))))
  refine AWX.seq (AWX.region (AOX.q hG rfl (st_mv rfl) rfl (AOX.qc hG rfl (st_call rfl rfl) (hsz4) rfl (AOX.q hG rfl (st_as rfl) rfl (AOX.nil ?_)))))
  refine AWX.seq (AWX.label ?_)
  refine AWX.seq (AWX.block (AWX.loop (LX.step (AWX.seq (AWX.seq (AWX.region (AOX.q hG rfl (st_fa rfl rfl) rfl (AOX.q hG rfl (st_ld one3 rfl (CfB.r2 h3)) rfl (AOX.q hG rfl (st_bin rfl rfl (b_neqT (by omega))) rfl (AOX.nil ?_))))))))))
  refine AWX.ct rfl (AWX.skip ?_)
  refine AWX.block (AWX.seq (AWX.seq (AWX.region (AOX.q hG rfl (st_fa rfl rfl) rfl (AOX.q hG rfl (st_ld one4 rfl (CfB.r3 h3)) rfl (AOX.nil ?_))))))
  refine AWX.ct rfl (AWX.seq (AWX.seq (AWX.region (AOX.q hG rfl (st_mv rfl) rfl (AOX.q hG rfl (st_lenS sl22 hx.s rfl) rfl (AOX.q hG rfl (st_bin rfl rfl (b_eqlF (by omega))) rfl (AOX.nil ?_)))))))
  refine AWX.cf rfl (AWX.skip ?_)
  refine AWX.exit ?_
  refine AWX.seq (AWX.region (AOX.q hG rfl (st_mv rfl) rfl (AOX.q hG rfl (st_mv rfl) rfl (AOX.qc hG rfl (st_call rfl rfl) (hc7) rfl (AOX.q hG rfl (st_mv rfl) rfl (AOX.q hG rfl (st_ex rfl rfl) rfl (AOX.q hG rfl (st_ex rfl rfl) rfl (AOX.q hG rfl (st_as rfl) rfl (AOX.q hG rfl (st_as rfl) rfl (AOX.nil ?_))))))))))
  refine AWX.seq (AWX.seq (AWX.region (AOX.q hG rfl (st_mv rfl) rfl (AOX.q hG rfl (st_bin rfl rfl (b_neqF rfl)) rfl (AOX.q hG rfl (st_mv rfl) rfl (AOX.qg hG rfl rfl (st_fa rfl rfl) rfl (AOX.qg hG rfl rfl (st_ld one3 rfl (CfB.r2 h7)) rfl (AOX.qg hG rfl rfl (st_bin rfl rfl (b_eqlF (by omega))) rfl (AOX.q hG rfl (st_pickF rfl rfl) rfl (AOX.q hG rfl (st_mv rfl) rfl (AOX.qg hG rfl rfl (st_fa rfl rfl) rfl (AOX.qg hG rfl rfl (st_ld one4 rfl (CfB.r3 h7)) rfl (AOX.qg hG rfl rfl (st_not rfl) rfl (AOX.q hG rfl (st_pickF rfl rfl) rfl (AOX.nil ?_)))))))))))))))
  refine AWX.cf rfl (AWX.skip ?_)
  refine AWX.seq (AWX.region (AOX.q hG rfl (st_mv rfl) rfl (AOX.q hG rfl (st_len sl22 rfl) rfl (AOX.q hG rfl (st_mv rfl) rfl (AOX.q hG rfl (st_bin rfl rfl (b_sub (r:=xs.length - s) (by omega) (by omega))) rfl (AOX.q hG rfl (st_as rfl) rfl (AOX.nil ?_)))))))
  refine AWX.seq (AWX.draw ?_)
  refine QG2.b (bad:=[112,113,114,115]) hG (by kernel_rfl) rfl (st_fa rfl rfl) rfl ?_
  refine QG2.q (bad:=[112,113,114,115]) hG (by kernel_rfl) rfl rfl (st_ld one3 rfl (CfB.r2 h7)) rfl ?_
  refine QG2.b (bad:=[110,111,113,114,115]) hG (by kernel_rfl) rfl (st_mv rfl) rfl ?_
  refine QG2.b (bad:=[110,111,112,114]) hG (by kernel_rfl) rfl (st_mv rfl) rfl ?_
  refine QG2.b (bad:=[110,111,112,113]) hG (by kernel_rfl) rfl (st_mv rfl) rfl ?_
  refine QG2.q (bad:=[110,111,112]) hG (by kernel_rfl) rfl rfl (hcut rfl rfl) rfl ?_
  refine QG2.c (T:=[]) (bad:=[]) hG (by kernel_rfl) (by kernel_rfl) (.inl rfl) rfl (st_call rfl rfl) (hst) hM8 rfl ?_
  refine QG2.b (bad:=[]) hG (by kernel_rfl) rfl (st_mv rfl) rfl ?_
  refine QG2.b (bad:=[118]) hG (by kernel_rfl) rfl (st_ex rfl rfl) rfl ?_
  refine QG2.b (bad:=[117,20]) hG (by kernel_rfl) rfl (st_ex rfl rfl) rfl ?_
  refine QG2.b (bad:=[118]) hG (by kernel_rfl) rfl (st_as rfl) rfl ?_
  refine QG2.b (bad:=[]) hG (by kernel_rfl) rfl (st_as rfl) rfl ?_
  refine QG2.done (by kernel_rfl) rfl ?_
  refine AWX.seq (AWX.seq (AWX.region (AOX.q hG rfl (st_mv rfl) rfl (AOX.q hG rfl (st_bin rfl rfl (b_neqT (by omega))) rfl (AOX.nil ?_)))))
  refine AWX.ct rfl (AWX.seq (AWX.region (AOX.q hG rfl (st_mv rfl) rfl (AOX.q hG rfl (st_as rfl) rfl (AOX.q hG rfl (st_as rfl) rfl (AOX.nil ?_))))))
  refine AWX.ret ⟨.inr rfl,_,_,rfl,rfl,rfl⟩
 ·obtain ⟨vf,hvf,hsf⟩:=takeC (i:=xs.length - s) sl22 (hoC.grow hM8) (by omega)
  have hsl:∀ {ρ:Operand → Option V} {x y:Operand},ρ x = some vf → ρ y = some vy → astep noX tyF ρ M8 (.buildSlice 36 2 #[(0,x),(1,y)]) = some (.val (.sl M8.length 0 2 (some 2)) (M8 ++ [.own [vf,vy] 0])):=fun hx hy => st_bs2 el36 hx hy hvf.s.cells.1 hvy.cells.1
  have g9:GrowL M8 (M8 ++ [.own [vf,vy] 0]) []:=GrowL.one _ _ _
  obtain ⟨M9,vc,hc9,hM9,hvc,_⟩:=concat_call (b:=M8.length) (lim:=some 2) (v1:=vf) (v2:=vy) hG (rd_own0 app_last rfl) (hvf.s.grow g9) (hvy.grow g9) (by
   simp only [List.length_take,List.length_drop]; omega)
  refine ⟨M9,vc,0,?_,hM37.tr ((hM8.tr g9).tr hM9),.inr ⟨rfl,_,n,hvc,hn1,hn2,?_⟩⟩
  ·refine acall_mk (n:=128) (fv:=fnOf Tryz.f8) rfl rfl (by simp) (by decide) ?_
   refine AWX.seq (AWX.region (AOX.qv hG rfl (hbox rfl) rfl (AOX.q hG rfl (st_as rfl) rfl (AOX.q hG rfl (st_as rfl) rfl (AOX.nil ?_)))))
   refine AWX.scope (JX.step (AWX.seq (AWX.region (AOX.q hG rfl (st_lda row28 rfl (CfB.r h1)) rfl (AOX.q hG rfl (st_mv rfl) rfl (AOX.q hG rfl (st_mv rfl) rfl (AOX.qc hG rfl (st_call rfl rfl) (hc2) rfl (AOX.q hG rfl (st_mv rfl) rfl (AOX.q hG rfl (st_ex rfl rfl) rfl (AOX.q hG rfl (st_ex rfl rfl) rfl (AOX.q hG rfl (st_as rfl) rfl (AOX.q hG rfl (st_as rfl) rfl (AOX.nil ?_)))))))))))))
   refine AWX.seq (AWX.seq (AWX.region (AOX.q hG rfl (st_mv rfl) rfl (AOX.q hG rfl (st_bin rfl rfl (b_neqF (by omega))) rfl (AOX.nil ?_)))))
   refine AWX.cf rfl (AWX.skip ?_)
   refine AWX.seq (AWX.seq (AWX.region (AOX.q hG rfl (st_fa rfl rfl) rfl (AOX.q hG rfl (st_ld one3 rfl (CfB.r1 h2)) rfl (AOX.qc hG rfl (st_call rfl rfl) (kind_call hG hm M2) rfl (AOX.q hG rfl (st_bin rfl rfl (b_eqlF (by omega))) rfl (AOX.nil ?_)))))))
   refine AWX.cf rfl (AWX.skip ?_)
   refine AWX.seq (AWX.region (AOX.q hG rfl (st_mv rfl) rfl (AOX.q hG rfl (st_fa rfl rfl) rfl (AOX.q hG rfl (st_ld one3 rfl (CfB.r1 h2)) rfl (AOX.q hG rfl (st_fa rfl rfl) rfl (AOX.q hG rfl (st_ld one4 rfl (CfB.r3 h2)) rfl (AOX.q hG rfl (st_mv rfl) rfl (AOX.qc hG rfl (st_call rfl rfl) (hc3) rfl (AOX.q hG rfl (st_mv rfl) rfl (AOX.q hG rfl (st_ex rfl rfl) rfl (AOX.q hG rfl (st_ex rfl rfl) rfl (AOX.q hG rfl (st_as rfl) rfl (AOX.q hG rfl (st_as rfl) rfl (AOX.nil ?_))))))))))))))
   refine AWX.seq (AWX.region (AOX.q hG rfl (st_mv rfl) rfl (AOX.qc hG rfl (st_call rfl rfl) (hsz4) rfl (AOX.q hG rfl (st_as rfl) rfl (AOX.nil ?_)))))
   refine AWX.seq (AWX.label ?_)
   refine AWX.seq (AWX.block (AWX.loop (LX.step (AWX.seq (AWX.seq (AWX.region (AOX.q hG rfl (st_fa rfl rfl) rfl (AOX.q hG rfl (st_ld one3 rfl (CfB.r2 h3)) rfl (AOX.q hG rfl (st_bin rfl rfl (b_neqT (by omega))) rfl (AOX.nil ?_))))))))))
   refine AWX.ct rfl (AWX.skip ?_)
   refine AWX.block (AWX.seq (AWX.seq (AWX.region (AOX.q hG rfl (st_fa rfl rfl) rfl (AOX.q hG rfl (st_ld one4 rfl (CfB.r3 h3)) rfl (AOX.nil ?_))))))
   refine AWX.ct rfl (AWX.seq (AWX.seq (AWX.region (AOX.q hG rfl (st_mv rfl) rfl (AOX.q hG rfl (st_lenS sl22 hx.s rfl) rfl (AOX.q hG rfl (st_bin rfl rfl (b_eqlF (by omega))) rfl (AOX.nil ?_)))))))
   refine AWX.cf rfl (AWX.skip ?_)
   refine AWX.exit ?_
   refine AWX.seq (AWX.region (AOX.q hG rfl (st_mv rfl) rfl (AOX.q hG rfl (st_mv rfl) rfl (AOX.qc hG rfl (st_call rfl rfl) (hc7) rfl (AOX.q hG rfl (st_mv rfl) rfl (AOX.q hG rfl (st_ex rfl rfl) rfl (AOX.q hG rfl (st_ex rfl rfl) rfl (AOX.q hG rfl (st_as rfl) rfl (AOX.q hG rfl (st_as rfl) rfl (AOX.nil ?_))))))))))
   refine AWX.seq (AWX.seq (AWX.region (AOX.q hG rfl (st_mv rfl) rfl (AOX.q hG rfl (st_bin rfl rfl (b_neqF rfl)) rfl (AOX.q hG rfl (st_mv rfl) rfl (AOX.qg hG rfl rfl (st_fa rfl rfl) rfl (AOX.qg hG rfl rfl (st_ld one3 rfl (CfB.r2 h7)) rfl (AOX.qg hG rfl rfl (st_bin rfl rfl (b_eqlF (by omega))) rfl (AOX.q hG rfl (st_pickF rfl rfl) rfl (AOX.q hG rfl (st_mv rfl) rfl (AOX.qg hG rfl rfl (st_fa rfl rfl) rfl (AOX.qg hG rfl rfl (st_ld one4 rfl (CfB.r3 h7)) rfl (AOX.qg hG rfl rfl (st_not rfl) rfl (AOX.q hG rfl (st_pickF rfl rfl) rfl (AOX.nil ?_)))))))))))))))
   refine AWX.cf rfl (AWX.skip ?_)
   refine AWX.seq (AWX.region (AOX.q hG rfl (st_mv rfl) rfl (AOX.q hG rfl (st_len sl22 rfl) rfl (AOX.q hG rfl (st_mv rfl) rfl (AOX.q hG rfl (st_bin rfl rfl (b_sub (r:=xs.length - s) (by omega) (by omega))) rfl (AOX.q hG rfl (st_as rfl) rfl (AOX.nil ?_)))))))
   refine AWX.seq (AWX.draw ?_)
   refine QG2.b (bad:=[112,113,114,115]) hG (by kernel_rfl) rfl (st_fa rfl rfl) rfl ?_
   refine QG2.q (bad:=[112,113,114,115]) hG (by kernel_rfl) rfl rfl (st_ld one3 rfl (CfB.r2 h7)) rfl ?_
   refine QG2.b (bad:=[110,111,113,114,115]) hG (by kernel_rfl) rfl (st_mv rfl) rfl ?_
   refine QG2.b (bad:=[110,111,112,114]) hG (by kernel_rfl) rfl (st_mv rfl) rfl ?_
   refine QG2.b (bad:=[110,111,112,113]) hG (by kernel_rfl) rfl (st_mv rfl) rfl ?_
   refine QG2.q (bad:=[110,111,112]) hG (by kernel_rfl) rfl rfl (hcut rfl rfl) rfl ?_
   refine QG2.c (T:=[]) (bad:=[]) hG (by kernel_rfl) (by kernel_rfl) (.inl rfl) rfl (st_call rfl rfl) (hst) hM8 rfl ?_
   refine QG2.b (bad:=[]) hG (by kernel_rfl) rfl (st_mv rfl) rfl ?_
   refine QG2.b (bad:=[118]) hG (by kernel_rfl) rfl (st_ex rfl rfl) rfl ?_
   refine QG2.b (bad:=[117,20]) hG (by kernel_rfl) rfl (st_ex rfl rfl) rfl ?_
   refine QG2.b (bad:=[118]) hG (by kernel_rfl) rfl (st_as rfl) rfl ?_
   refine QG2.b (bad:=[]) hG (by kernel_rfl) rfl (st_as rfl) rfl ?_
   refine QG2.done (by kernel_rfl) rfl ?_
   refine AWX.seq (AWX.seq (AWX.region (AOX.q hG rfl (st_mv rfl) rfl (AOX.q hG rfl (st_bin rfl rfl (b_neqF (by omega))) rfl (AOX.nil ?_)))))
   refine AWX.cf rfl (AWX.skip ?_)
   refine AWX.seq (AWX.region (AOX.q hG rfl (st_mv rfl) rfl (AOX.q hG rfl (st_mv rfl) rfl (AOX.q hG rfl (hsf rfl rfl) rfl (AOX.q hG rfl (st_mv rfl) rfl (AOX.qv hG rfl (hsl rfl rfl) rfl (AOX.qc hG rfl (st_call rfl rfl) (hc9) rfl (AOX.q hG rfl (st_as rfl) rfl (AOX.q hG rfl (st_as rfl) rfl (AOX.nil ?_))))))))))
   refine AWX.ret ⟨.inr rfl,_,_,rfl,rfl,rfl⟩
  ·rw [← hmd,List.append_assoc,List.take_append_drop,List.take_append_drop]
end
end
end
section
open Go.Proofs
noncomputable section
def lensOf (t:Nat):List Nat:=if t = 1 then [8] else if t = 2 then [16,24] else if t = 5 then [32] else if t = 6 ∨ t = 7 then [16,24,32] else [16]
def nRow' (l:List Nat):List V:=l.map fun n => .int .i64 (n:Nat)
section
variable {G:GF} {M:Mem} {t:Nat} {vk vb:V} {ks bs:List Int}
theorem lens30 (hG:GOK G) (ht:1 ≤ t ∧ t ≤ 8) (M:Mem):ACall Tryz.prog G 30 [.int .i64 t] M (.sl M.length 0 (lensOf t).length (some (lensOf t).length)) (M ++ [.own (nRow' (lensOf t)) 0]):=by
 have h:∀ t:Nat,1 ≤ t ∧ t ≤ 8 → FN noX tyF fn noS 4 30 [.int .i64 t] [] = some (.sl 0 0 (lensOf t).length (some (lensOf t).length),[.own (nRow' (lensOf t)) 0],[]):=fun t ht => by
  obtain rfl | rfl | rfl | rfl | rfl | rfl | rfl | rfl:t = 1 ∨ t = 2 ∨ t = 3 ∨ t = 4 ∨ t = 5 ∨ t = 6 ∨ t = 7 ∨ t = 8:=by omega
  all_goals kernel_rfl
 exact lit_calln hG (bl:=[0]) (h t ht) (by simp [Bd.subs,Bd.sub]) (fun i j b hi hj => by
  have h1:=(List.getElem?_eq_some_iff.1 hi).1
  have h2:=(List.getElem?_eq_some_iff.1 hj).1
  simp only [List.length_singleton] at h1 h2
  omega) (by simp [rep,idxOf]) (by
  have hr:∀ l:List Nat,reps [] [0] M.length (nRow' l) = some (nRow' l):=fun l => by
   induction l with
   | nil => rfl
   | cons a l ih => simp only [nRow',List.map_cons] at ih ⊢; simp [reps,rep,ih]
  simp only [news,List.getElem?_cons_zero,hr,Option.map_some])
theorem lensOf_in (ht:1 ≤ t ∧ t ≤ 8):0 < (lensOf t).length ∧ (lensOf t).length ≤ 3 ∧ ∀ L ∈ lensOf t,L ≤ 32:=by
 obtain rfl | rfl | rfl | rfl | rfl | rfl | rfl | rfl:t = 1 ∨ t = 2 ∨ t = 3 ∨ t = 4 ∨ t = 5 ∨ t = 6 ∨ t = 7 ∨ t = 8:=by omega
 all_goals decide
theorem key_call (hG:GOK G) (ht:1 ≤ t ∧ t ≤ 8) (n:Int) (hk:IsS M vk ks) (hl:ks.length ≤ 1000) :
  ∃ (M2:Mem) (b L:Nat),L ∈ lensOf t ∧ ACall Tryz.prog G 14 [.int .i64 t,.int .i64 n,vk] M (.sl b 0 L (some L)) M2 ∧ GrowL M M2 [] ∧ M2[b]? = some (.own (u8s' (byL L ks)) 0) ∧ M.length ≤ b:=by
 obtain ⟨h0,h3,hL⟩:=lensOf_in ht
 have hi:=wiI_in n h0
 obtain ⟨i,hi2⟩:∃ i:Nat,wiI n (lensOf t).length = i:=⟨(wiI n (lensOf t).length).toNat,by omega⟩
 have hlt:i < (lensOf t).length:=by omega
 have hmem:(lensOf t)[i] ∈ lensOf t:=List.getElem_mem hlt
 generalize hLd:(lensOf t)[i] = L at hmem
 have g1:GrowL M (M ++ [.own (nRow' (lensOf t)) 0]) []:=GrowL.one _ _ _
 have hlc:=lens30 hG ht M
 have hld:rd (M ++ [.own (nRow' (lensOf t)) 0]) M.length (0 + i) 1 = some [.int .i64 L]:=rd_one (rd_own0 app_last (show (nRow' (lensOf t)).length = (lensOf t).length by simp [nRow'])) (by simp [nRow',hlt,hLd])
 have hk1:=hk.grow g1
 generalize M ++ [Blk.own (nRow' (lensOf t)) 0] = M1 at g1 hlc hld hk1
 have hb:=bytes_call (n:=L) hG (by have:=hL L hmem; omega) hl hk1
 have hw:=within29 (M:=M1) (a:=n) hG h0 (by omega)
 rw [hi2] at hw
 refine ⟨_,M1.length,L,hmem,?_,g1.tr (GrowL.one M1 (u8s' (byL L ks)) 0),app_last,g1.le⟩
 refine acall_mk (n:=19) (fv:=fnOf Tryz.f14) rfl rfl (by simp) (by decide) ?_
 refine AWX.seq (AWX.region (AOX.q hG rfl (st_as rfl) rfl (AOX.nil ?_)))
 refine AWX.seq (AWX.region (AOX.q hG rfl (st_mv rfl) rfl (AOX.qc hG rfl (st_call rfl rfl) (hlc) rfl (AOX.q hG rfl (st_as rfl) rfl (AOX.nil ?_)))))
 refine AWX.seq (AWX.region (AOX.q hG rfl (st_mv rfl) rfl (AOX.q hG rfl (st_mv rfl) rfl (AOX.q hG rfl (st_mv rfl) rfl (AOX.q hG rfl (st_len sl56 rfl) rfl (AOX.qc hG rfl (st_call rfl rfl) (hw) rfl (AOX.q hG rfl (st_ix sl56 rfl rfl (show i < (lensOf t).length by omega)) rfl (AOX.q hG rfl (st_ld one3 rfl hld) rfl (AOX.q hG rfl (st_mv rfl) rfl (AOX.qc hG rfl (st_call rfl rfl) (hb) rfl (AOX.q hG rfl (st_as rfl) rfl (AOX.nil ?_))))))))))))
 refine AWX.fin rfl rfl
theorem iv_call (hG:GOK G) {mode s:Nat} (hm:mode = 1 ∨ mode = 2) (hs:s ≤ 1000) (hk:IsS M vb bs) (hl:bs.length ≤ 1000) :
  ∃ (M2:Mem) (v:V),ACall Tryz.prog G 15 [.int .i64 mode,.int .i64 s,vb] M v M2 ∧ GrowL M M2 [] ∧ IsS M2 v (if mode = 1 then [] else byL s bs) ∧ ∀ b o n lim,v = .sl b o n lim → M.length ≤ b:=by
 rcases hm with rfl | rfl
 ·refine ⟨M,.nilsl,?_,GrowL.refl _,.inl ⟨rfl,rfl⟩,fun b o n lim e => by cases e⟩
  refine acall_mk (n:=12) (fv:=fnOf Tryz.f15) rfl rfl (by simp) (by decide) ?_
  refine AWX.seq (AWX.region (AOX.q hG rfl (st_as rfl) rfl (AOX.nil ?_)))
  refine AWX.seq (AWX.seq (AWX.region (AOX.q hG rfl (st_mv rfl) rfl (AOX.q hG rfl (st_bin rfl rfl (b_eqlT (by omega))) rfl (AOX.nil ?_)))))
  refine AWX.ct rfl (AWX.seq (AWX.region (AOX.q hG rfl (st_as rfl) rfl (AOX.nil ?_))))
  refine AWX.ret ⟨.inr rfl,_,_,rfl,rfl,rfl⟩
 ·have hb:=bytes_call (n:=s) hG hs hl hk
  have hz:=byL_len s bs
  have hI:IsS (M ++ [.own (u8s' (byL s bs)) 0]) (.sl M.length 0 s (some s)) (if 2 = 1 then [] else byL s bs):=by
   rw [if_neg (by omega)]
   have:=IsS.own (M:=M ++ [.own (u8s' (byL s bs)) 0]) (b:=M.length) (c:=s) app_last (by omega)
   rwa [hz] at this
  refine ⟨_,.sl M.length 0 s (some s),?_,GrowL.one M (u8s' (byL s bs)) 0,hI,fun b o n lim e => by injection e with e; omega⟩
  refine acall_mk (n:=12) (fv:=fnOf Tryz.f15) rfl rfl (by simp) (by decide) ?_
  refine AWX.seq (AWX.region (AOX.q hG rfl (st_as rfl) rfl (AOX.nil ?_)))
  refine AWX.seq (AWX.seq (AWX.region (AOX.q hG rfl (st_mv rfl) rfl (AOX.q hG rfl (st_bin rfl rfl (b_eqlF (by omega))) rfl (AOX.nil ?_)))))
  refine AWX.cf rfl (AWX.skip ?_)
  refine AWX.seq (AWX.region (AOX.q hG rfl (st_mv rfl) rfl (AOX.q hG rfl (st_mv rfl) rfl (AOX.qc hG rfl (st_call rfl rfl) (hb) rfl (AOX.q hG rfl (st_as rfl) rfl (AOX.nil ?_))))))
  refine AWX.fin rfl rfl
theorem tag_call (hG:GOK G) (n:Int):∃ t:Nat,(1 ≤ t ∧ t ≤ 8) ∧ ∀ M:Mem,ACall Tryz.prog G 12 [.int .i64 n] M (.int .i64 t) M:=by
 have hi:=wiI_in n (n:=8) (by omega)
 obtain ⟨i,hi2⟩:∃ i:Nat,wiI n 8 = i:=⟨(wiI n 8).toNat,by omega⟩
 refine ⟨i + 1,by omega,fun M => ?_⟩
 have hw:=within29 (M:=M) (a:=n) (n:=8) hG (by omega) (by omega)
 rw [hi2] at hw
 refine acall_mk (n:=6) (fv:=fnOf Tryz.f12) rfl rfl (by simp) (by decide) ?_
 refine AWX.seq (AWX.region (AOX.q hG rfl (st_as rfl) rfl (AOX.nil ?_)))
 refine AWX.seq (AWX.region (AOX.q hG rfl (st_mv rfl) rfl (AOX.qc hG rfl (st_call rfl rfl) (hw) rfl (AOX.q hG rfl (st_bin rfl rfl (b_add (m:=1) (n:=i) (r:=i + 1) (by omega) (by omega))) rfl (AOX.q hG rfl (st_as rfl) rfl (AOX.nil ?_))))))
 refine AWX.fin rfl rfl
def AskC (tag n mode pad:Int) (back:Bool) (vk vb:V):List V:=[.int .i64 tag,.int .i64 n,.int .i64 mode,.int .i64 pad,.bool back,vk,vb]
section
variable {tag n mode pad:Int} {back:Bool} {q:Nat}
theorem AskC.r0 (h:M[q]? = some (.own (AskC tag n mode pad back vk vb) 0)):rd M q (0 + 0) 1 = some [.int .i64 tag]:=by rw [rd_own h (by simp [AskC])]; rfl
theorem AskC.r1 (h:M[q]? = some (.own (AskC tag n mode pad back vk vb) 0)):rd M q (0 + 1) 1 = some [.int .i64 n]:=by rw [rd_own h (by simp [AskC])]; rfl
theorem AskC.r2 (h:M[q]? = some (.own (AskC tag n mode pad back vk vb) 0)):rd M q (0 + 2) 1 = some [.int .i64 mode]:=by rw [rd_own h (by simp [AskC])]; rfl
theorem AskC.r3 (h:M[q]? = some (.own (AskC tag n mode pad back vk vb) 0)):rd M q (0 + 3) 1 = some [.int .i64 pad]:=by rw [rd_own h (by simp [AskC])]; rfl
theorem AskC.r4 (h:M[q]? = some (.own (AskC tag n mode pad back vk vb) 0)):rd M q (0 + 4) 1 = some [.bool back]:=by rw [rd_own h (by simp [AskC])]; rfl
theorem AskC.r5 (h:M[q]? = some (.own (AskC tag n mode pad back vk vb) 0)):rd M q (0 + 5) 1 = some [vk]:=by rw [rd_own h (by simp [AskC])]; rfl
theorem AskC.r6 (h:M[q]? = some (.own (AskC tag n mode pad back vk vb) 0)):rd M q (0 + 6) 1 = some [vb]:=by rw [rd_own h (by simp [AskC])]; rfl
theorem few_call (hG:GOK G) (hk:IsS M vk ks) (hb:IsS M vb bs):∃ M2,ACall Tryz.prog G 5 [.agg (AskC tag n mode pad back vk vb)] M (.bool (decide (ks.length ≤ 100 ∧ bs.length ≤ 100))) M2 ∧ GrowL M M2 []:=by
 have h1:(M ++ [Blk.own (AskC tag n mode pad back vk vb) 0])[M.length]? = some (.own (AskC tag n mode pad back vk vb) 0):=app_last
 refine ⟨_,?_,GrowL.one M (AskC tag n mode pad back vk vb) 0⟩
 refine acall_mk (n:=13) (fv:=fnOf Tryz.f5) rfl rfl (by simp) (by decide) ?_
 have hbox:∀ {ρ:Operand → Option V} {x:Operand},ρ x = some (.agg (AskC tag n mode pad back vk vb)) → astep noX tyF ρ M (.box 24 x) = some (.val (.ptr M.length 0) (M ++ [Blk.own (AskC tag n mode pad back vk vb) 0])):=fun h => st_box h
 generalize M ++ [Blk.own (AskC tag n mode pad back vk vb) 0] = M1 at h1 hbox
 by_cases hk1:ks.length ≤ 100
 ·by_cases hb1:bs.length ≤ 100
  ·rw [decide_eq_true ⟨hk1,hb1⟩]
   refine AWX.seq (AWX.region (AOX.qv hG rfl (hbox rfl) rfl (AOX.q hG rfl (st_as rfl) rfl (AOX.nil ?_))))
   refine AWX.seq (AWX.region (AOX.q hG rfl (st_fa rfl rfl) rfl (AOX.q hG rfl (st_ld one22 rfl (AskC.r5 h1)) rfl (AOX.q hG rfl (st_lenS sl22 hk rfl) rfl (AOX.q hG rfl (st_bin rfl rfl (b_leqT (by omega))) rfl (AOX.q hG rfl (st_mv rfl) rfl (AOX.qg hG rfl rfl (st_fa rfl rfl) rfl (AOX.qg hG rfl rfl (st_ld one22 rfl (AskC.r6 h1)) rfl (AOX.qg hG rfl rfl (st_lenS sl22 hb rfl) rfl (AOX.qg hG rfl rfl (st_bin rfl rfl (b_leqT (by omega))) rfl (AOX.q hG rfl (st_pickT rfl rfl) rfl (AOX.q hG rfl (st_as rfl) rfl (AOX.nil ?_)))))))))))))
   refine AWX.fin rfl rfl
  ·rw [decide_eq_false (fun h => hb1 h.2)]
   refine AWX.seq (AWX.region (AOX.qv hG rfl (hbox rfl) rfl (AOX.q hG rfl (st_as rfl) rfl (AOX.nil ?_))))
   refine AWX.seq (AWX.region (AOX.q hG rfl (st_fa rfl rfl) rfl (AOX.q hG rfl (st_ld one22 rfl (AskC.r5 h1)) rfl (AOX.q hG rfl (st_lenS sl22 hk rfl) rfl (AOX.q hG rfl (st_bin rfl rfl (b_leqT (by omega))) rfl (AOX.q hG rfl (st_mv rfl) rfl (AOX.qg hG rfl rfl (st_fa rfl rfl) rfl (AOX.qg hG rfl rfl (st_ld one22 rfl (AskC.r6 h1)) rfl (AOX.qg hG rfl rfl (st_lenS sl22 hb rfl) rfl (AOX.qg hG rfl rfl (st_bin rfl rfl (b_leqF (by omega))) rfl (AOX.q hG rfl (st_pickT rfl rfl) rfl (AOX.q hG rfl (st_as rfl) rfl (AOX.nil ?_)))))))))))))
   refine AWX.fin rfl rfl
 ·rw [decide_eq_false (fun h => hk1 h.1)]
  refine AWX.seq (AWX.region (AOX.qv hG rfl (hbox rfl) rfl (AOX.q hG rfl (st_as rfl) rfl (AOX.nil ?_))))
  refine AWX.seq (AWX.region (AOX.q hG rfl (st_fa rfl rfl) rfl (AOX.q hG rfl (st_ld one22 rfl (AskC.r5 h1)) rfl (AOX.q hG rfl (st_lenS sl22 hk rfl) rfl (AOX.q hG rfl (st_bin rfl rfl (b_leqF (by omega))) rfl (AOX.q hG rfl (st_mv rfl) rfl (AOX.qn rfl rfl rfl rfl (AOX.qn rfl rfl rfl rfl (AOX.qn rfl rfl rfl rfl (AOX.qn rfl rfl rfl rfl (AOX.q hG rfl (st_pickF rfl rfl) rfl (AOX.q hG rfl (st_as rfl) rfl (AOX.nil ?_)))))))))))))
  refine AWX.fin rfl rfl
end
end
end
end
section
open Go.Proofs
noncomputable section
theorem cell_rows {t u m b o n:Nat} {l:List (Nat × V)} {M:Mem} {cs vs:List V} {rs:List ResultVar} (ht:∃ d,tyF u = some d ∧ d.kind.row = true ∧ d.size = m) (hg:getL n l (.tmp t) = some (.ptr b o)) (hr:rd M b o m = some cs) (h:resL (getL n l) rs = some vs):resS tyF (mkSt n l M) (.cell t u :: rs) = some (.agg cs :: vs):=by
 have hrs:resS tyF (mkSt n l M) rs = some vs:=resL_ok (by rw [mk_get]; exact h)
 obtain ⟨d,h1,h2,rfl⟩:=ht
 have:(mkSt n l M).get (.tmp t) = some (.ptr b o):=by rw [mk_get]; exact hg
 simp only [resS,this,Option.bind_some,h1,resCell,h2,if_true,hrs]
 show ((rd M b o d.size).map V.agg).bind _ = _
 rw [hr]; rfl
theorem QG2.cq {G:GF} {ops:Array Oper} {i d id n f:Nat} {s0:St} {lo:Lo} {Q:AExit → St → Prop} {op:Op} {ty:TypeId} {pos:String} {af:Array Edge} {bad:List Nat} {l:List (Nat × V)} {M:Mem} {v:V} {al:List V} (hG:GOK G) (hb:badT ops (msOf ops) i = bad) (hlo:(lo.all fun p => bf (msOf ops) p.1 i) = true) (ho:ops[i]? = some ⟨some d,op,ty,pos,af,none⟩) (hr:astep noX tyF (getD bad n l) M op = some (.call f al)) (hc:ACall Tryz.prog G f al M v M) (hd:Nat.blt d n = true) (h:QG2 G ops id s0 (i + 1) (mkSt n ((d,v) :: l) M) lo Q):QG2 G ops id s0 i (mkSt n l M) lo Q:=by
 intro hq
 refine h ?_
 rw [← mk_put (v:=v) (M':=M) hd]
 refine hq.step ho (kM:=M) (R:=M) (T:=[]) rfl (fun _ _ hk => .inr ⟨hk,fun p hp => .inl (List.all_eq_true.1 hlo p hp)⟩) (AOpV.step (r:=.call f al) hG noX_ok tyF_ok ho rfl (by rw [seen_getD hb]; exact hr) (v:=v) (M':=M) hc) (GrowL.refl _) (.inl rfl) (.inl ⟨rfl,rfl⟩) (fun _ h => h) (.inr ⟨rfl,rfl⟩)
theorem z28:(tyF 28).map Ty.zero = some [.int .i64 0,.int .i64 0,.int .i64 0,.bool false]:=by kernel_rfl
section
variable {G:GF} {M:Mem} {vk vb:V} {ks bs:List Int} {tag n:Int}
theorem st_bu28 {ρ:Operand → Option V} {M:Mem} {a b c:Operand} {x y z:Int} {bo:Bool} {w:Operand} (ha:ρ a = some (.int .i64 x)) (hb:ρ b = some (.int .i64 y)) (hc:ρ c = some (.int .i64 z)) (hw:ρ w = some (.bool bo)):astep noX tyF ρ M (.build 28 #[(0,a),(1,b),(2,c),(3,w)]) = some (.pure (.agg [.int .i64 x,.int .i64 y,.int .i64 z,.bool bo])):=by
 simp only [astep,aBuild,evp,ha,hb,hc,hw,Option.bind_some,Option.map_some]
 kernel_rfl
theorem amake_call (hG:GOK G) {mode pad:Nat} (hm:mode ≤ 1) (hp:pad ≤ 1) (hk:IsS M vk ks) (hkl:ks.length ≤ 1000) (hb:IsS M vb bs) (hbl:bs.length ≤ 1000) :
  ∃ (M2:Mem) (t kb L:Nat) (vi:V),ACall Tryz.prog G 7 [.agg (AskC tag n mode pad false vk vb)] M (.tup [CfV t (mode + 1) (pad + 1) false,.sl kb 0 L (some L),vi]) M2 ∧ GrowL M M2 [] ∧ (1 ≤ t ∧ t ≤ 8) ∧ L ∈ lensOf t ∧
   M2[kb]? = some (.own (u8s' (byL L ks)) 0) ∧ IsS M2 vi (if mode + 1 = 1 then [] else byL (szOf t) bs):=by
 obtain ⟨t,ht,htag⟩:=tag_call (G:=G) hG tag
 have hs:=szOf_in t
 have hbox:∀ {ρ:Operand → Option V} {x:Operand},ρ x = some (.agg (AskC tag n mode pad false vk vb)) → astep noX tyF ρ M (.box 24 x) = some (.val (.ptr M.length 0) (M ++ [Blk.own (AskC tag n mode pad false vk vb) 0])):=fun h => st_box h
 have g1:GrowL M (M ++ [Blk.own (AskC tag n mode pad false vk vb) 0]) []:=GrowL.one _ _ _
 have h1:(M ++ [Blk.own (AskC tag n mode pad false vk vb) 0])[M.length]? = some (.own (AskC tag n mode pad false vk vb) 0):=app_last
 generalize M ++ [Blk.own (AskC tag n mode pad false vk vb) 0] = M1 at hbox g1 h1
 have gr:GrowL M1 (M1 ++ [.own [.int .i64 0,.int .i64 0,.int .i64 0,.bool false] 0]) []:=GrowL.one _ _ _
 have hr2:(M1 ++ [Blk.own [.int .i64 0,.int .i64 0,.int .i64 0,.bool false] 0])[M1.length]? = some (.own [.int .i64 0,.int .i64 0,.int .i64 0,.bool false] 0):=app_last
 have hal:∀ {ρ:Operand → Option V},astep noX tyF ρ M1 (.alloc 28) = some (.val (.ptr M1.length 0) (M1 ++ [.own [.int .i64 0,.int .i64 0,.int .i64 0,.bool false] 0])):=fun {ρ} => st_al z28
 generalize M1 ++ [Blk.own [.int .i64 0,.int .i64 0,.int .i64 0,.bool false] 0] = M2 at gr hr2 hal
 have h2:=gr.g0 h1
 have gc:GrowL M2 (M2 ++ [.own [.int .i64 0,.int .i64 0,.int .i64 0,.bool false] 0]) []:=GrowL.one _ _ _
 have hc2:(M2 ++ [Blk.own [.int .i64 0,.int .i64 0,.int .i64 0,.bool false] 0])[M2.length]? = some (.own [.int .i64 0,.int .i64 0,.int .i64 0,.bool false] 0):=app_last
 have hal2:∀ {ρ:Operand → Option V},astep noX tyF ρ M2 (.alloc 28) = some (.val (.ptr M2.length 0) (M2 ++ [.own [.int .i64 0,.int .i64 0,.int .i64 0,.bool false] 0])):=fun {ρ} => st_al z28
 generalize M2 ++ [Blk.own [.int .i64 0,.int .i64 0,.int .i64 0,.bool false] 0] = M3 at gc hc2 hal2
 have h3:=gc.g0 h2
 have hr3:=gc.g0 hr2
 have hw3:wr M3 M2.length 0 [.int .i64 t,.int .i64 (mode + 1:Nat),.int .i64 4,.bool false] = some (M3.set M2.length (.own [.int .i64 t,.int .i64 (mode + 1:Nat),.int .i64 4,.bool false] 0)):=wr_whole hc2 rfl rfl
 have hlt12:M1.length < M2.length:=lt_of hr2
 have hlt01:M.length < M1.length:=lt_of h1
 have hc4:=set_get (k:=Blk.own [.int .i64 t,.int .i64 (mode + 1:Nat),.int .i64 4,.bool false] 0) hc2
 have h4:(M3.set M2.length (.own [.int .i64 t,.int .i64 (mode + 1:Nat),.int .i64 4,.bool false] 0))[M.length]? = _:=(set_ne (by omega)).trans h3
 have hr4:(M3.set M2.length (.own [.int .i64 t,.int .i64 (mode + 1:Nat),.int .i64 4,.bool false] 0))[M1.length]? = _:=(set_ne (by omega)).trans hr3
 have g4:GrowL M (M3.set M2.length (.own [.int .i64 t,.int .i64 (mode + 1:Nat),.int .i64 4,.bool false] 0)) []:=((g1.tr gr).tr gc).st (by omega) hc2 (by simp)
 have gw3:GrowL M3 (M3.set M2.length (.own [.int .i64 t,.int .i64 (mode + 1:Nat),.int .i64 4,.bool false] 0)) [M2.length]:=GrowL.ch hc2 (by simp) (by simp)
 generalize M3.set M2.length (.own [.int .i64 t,.int .i64 (mode + 1:Nat),.int .i64 4,.bool false] 0) = M4 at hw3 hc4 h4 hr4 g4 gw3
 have hw4:wr M4 M2.length (0 + 2) [.int .i64 (pad + 1:Nat)] = some (M4.set M2.length (CfB t (mode + 1) (pad + 1) false)):=wr_own hc4 (by simp) rfl
 have hc5:=set_get (k:=CfB t (mode + 1) (pad + 1) false) hc4
 have h5:(M4.set M2.length (CfB t (mode + 1) (pad + 1) false))[M.length]? = _:=(set_ne (by omega)).trans h4
 have hr5:(M4.set M2.length (CfB t (mode + 1) (pad + 1) false))[M1.length]? = _:=(set_ne (by omega)).trans hr4
 have g5:GrowL M (M4.set M2.length (CfB t (mode + 1) (pad + 1) false)) []:=g4.st (by omega) hc4 (by simp [CfB])
 generalize M4.set M2.length (CfB t (mode + 1) (pad + 1) false) = M5 at hw4 hc5 h5 hr5 g5
 obtain ⟨M6,kb,L,hL,hkc,hM6,hkb,hkf⟩:=key_call (M:=M5) hG ht n (hk.grow g5) hkl
 have h6:=hM6.g0 h5
 have hr6:=hM6.g0 hr5
 have hc6:=hM6.g0 hc5
 obtain ⟨M7,vi,hic,hM7,hvi,hvf⟩:=iv_call (M:=M6) (mode:=mode + 1) (s:=szOf t) hG (by omega) (by omega) (hb.grow (g5.tr hM6)) hbl
 have hr7:=hM7.g0 hr6
 have hkb7:=hM7.g0 hkb
 have hw7:wr M7 M1.length 0 [.int .i64 t,.int .i64 (mode + 1:Nat),.int .i64 (pad + 1:Nat),.bool false] = some (M7.set M1.length (CfB t (mode + 1) (pad + 1) false)):=wr_whole hr7 rfl rfl
 have g7:GrowL M7 (M7.set M1.length (CfB t (mode + 1) (pad + 1) false)) [M1.length]:=GrowL.ch hr7 (by simp) (by simp [CfB])
 have hmw:∀ M,ACall Tryz.prog G 13 [.int .i64 mode,.int .i64 9] M (.int .i64 mode) M:=fun M => by
  have h:=within13 (M:=M) (a:=mode) (n:=9) hG (by omega) (by omega)
  have e:wiI (mode:Int) 9 = mode:=by
   have:mode = 0 ∨ mode = 1:=by omega
   rcases this with rfl | rfl <;> decide
  rwa [e] at h
 have hpw:∀ M,ACall Tryz.prog G 13 [.int .i64 pad,.int .i64 4] M (.int .i64 pad) M:=fun M => by
  have h:=within13 (M:=M) (a:=pad) (n:=4) hG (by omega) (by omega)
  have e:wiI (pad:Int) 4 = pad:=by
   have:pad = 0 ∨ pad = 1:=by omega
   rcases this with rfl | rfl <;> decide
  rwa [e] at h
 have hfar:∀ b,M.length ≤ b → b < M5.length → ∀ c ∈ [b],c ∉ ([]:List Nat) ∧ c < M5.length:=fun b _ hb c hc => by simp only [List.mem_singleton] at hc; subst hc; exact ⟨by simp,hb⟩
 have hl5:=lt_of h5
 have hlc5:=lt_of hc5
 refine ⟨M7.set M1.length (CfB t (mode + 1) (pad + 1) false),t,kb,L,vi,?_,?_,ht,hL,?_,?_⟩
 ·refine acall_mkc (n:=40) (fv:=fnOf Tryz.f7) rfl rfl (by simp) (by decide) ?_
  refine AWX.seq (AWX.region (AOX.qv hG rfl (hbox rfl) rfl (AOX.qv hG rfl hal rfl (AOX.q hG rfl (st_as rfl) rfl (AOX.q hG rfl (st_as rfl) rfl (AOX.nil ?_))))))
  refine AWX.seq (AWX.region (AOX.q hG rfl (st_fa rfl rfl) rfl (AOX.q hG rfl (st_ld one3 rfl (AskC.r0 h2)) rfl (AOX.qc hG rfl (st_call rfl rfl) (htag M2) rfl (AOX.q hG rfl (st_as rfl) rfl (AOX.nil ?_))))))
  refine AWX.seq (AWX.draw ?_)
  refine QG2.b (bad:=[11,12,13,14,15,16,6]) hG (by kernel_rfl) rfl (st_mv rfl) rfl ?_
  refine QG2.b (bad:=[10,15,16,6]) hG (by kernel_rfl) rfl (st_fa rfl rfl) rfl ?_
  refine QG2.q (bad:=[10,15,16,6]) hG (by kernel_rfl) rfl rfl (st_ld one3 rfl (AskC.r2 h2)) rfl ?_
  refine QG2.cq (bad:=[10,15,16,6]) hG (by kernel_rfl) (by kernel_rfl) rfl (st_call rfl rfl) (hmw M2) rfl ?_
  refine QG2.b (bad:=[10,15,16,6]) hG (by kernel_rfl) rfl (st_bin rfl rfl (b_add (m:=1) (n:=mode) (r:=mode + 1) (by omega) (by omega))) rfl ?_
  refine QG2.b (bad:=[10,11,12,13,14,6]) hG (by kernel_rfl) rfl (st_fa rfl rfl) rfl ?_
  refine QG2.q (bad:=[10,11,12,13,14,6]) hG (by kernel_rfl) rfl rfl (st_ld one4 rfl (AskC.r4 h2)) rfl ?_
  refine QG2.b (bad:=[6]) hG (by kernel_rfl) rfl (st_bu28 rfl rfl rfl rfl) rfl ?_
  refine QG2.av (T:=[]) (bad:=[10,11,12,13,14,15,16,17]) hG (by kernel_rfl) (by kernel_rfl) (.inl rfl) rfl hal2 gc rfl ?_
  refine QG2.st (T:=[M2.length]) (bad:=[]) hG (by kernel_rfl) (by kernel_rfl) (.inr (all_lt (by kernel_rfl))) rfl (st_sta (n:=4) row28 rfl rfl rfl hw3) gw3 ?_
  refine QG2.done (by kernel_rfl) rfl ?_
  refine AWX.seq (AWX.seq (AWX.region (AOX.q hG rfl (st_fa rfl rfl) rfl (AOX.q hG rfl (st_ld one3 rfl (by rw [rd_own hc4 (by simp)]; rfl)) rfl (AOX.q hG rfl (st_bin rfl rfl (b_leqT (by omega))) rfl (AOX.nil ?_))))))
  refine AWX.ct rfl (AWX.region (AOX.q hG rfl (st_fa rfl rfl) rfl (AOX.q hG rfl (st_ld one3 rfl (AskC.r3 h4)) rfl (AOX.qc hG rfl (st_call rfl rfl) (hpw M4) rfl (AOX.q hG rfl (st_bin rfl rfl (b_add (m:=1) (n:=pad) (r:=pad + 1) (by omega) (by omega))) rfl (AOX.q hG rfl (st_fa rfl rfl) rfl (AOX.qs hG rfl (st_st one3 rfl rfl rfl hw4) (AOX.nil ?_))))))))
  refine AWX.seq (AWX.draw ?_)
  refine QG2.q (bad:=[27,28,29,30,31,32,33,34,35,36,37,38,39]) hG (by kernel_rfl) rfl rfl (st_lda row28 rfl (CfB.r hc5)) rfl ?_
  refine QG2.b (bad:=[26,28,29,30,31,33,34,35,37,38]) hG (by kernel_rfl) rfl (st_mv rfl) rfl ?_
  refine QG2.b (bad:=[26,27,30,31,33,34,35,37,38]) hG (by kernel_rfl) rfl (st_fa rfl rfl) rfl ?_
  refine QG2.q (bad:=[26,27,30,31,33,34,35,37,38]) hG (by kernel_rfl) rfl rfl (st_ld one3 rfl (AskC.r1 h5)) rfl ?_
  refine QG2.b (bad:=[26,27,28,29,33,34,35,37,38]) hG (by kernel_rfl) rfl (st_fa rfl rfl) rfl ?_
  refine QG2.q (bad:=[26,27,28,29,33,34,35,37,38]) hG (by kernel_rfl) rfl rfl (st_ld one22 rfl (AskC.r5 h5)) rfl ?_
  refine QG2.c (T:=[]) (bad:=[26,33,34,35,37,38]) hG (by kernel_rfl) (by kernel_rfl) (.inl rfl) rfl (st_call rfl rfl) (hkc) hM6 rfl ?_
  refine QG2.b (bad:=[26,27,28,29,30,31,32,35,36,37,38]) hG (by kernel_rfl) rfl (st_fa rfl rfl) rfl ?_
  refine QG2.k [M2.length] (bad:=[26,27,28,29,30,31,32,35,36,37,38]) hG (by kernel_rfl) ⟨.inr (hfar _ (by omega) (by omega)),trivial⟩ rfl (st_ld one3 rfl (by rw [maskK_rd (by simp)]; exact CfB.r1 hc6)) rfl ?_
  refine QG2.b (bad:=[26,27,28,29,30,31,32,33,34,37,38]) hG (by kernel_rfl) rfl (st_mv rfl) rfl ?_
  refine QG2.cq (bad:=[26,33,34,37,38]) hG (by kernel_rfl) (by kernel_rfl) rfl (st_call rfl rfl) (size16 hG ht M6) rfl ?_
  refine QG2.b (bad:=[26,27,28,29,30,31,32,33,34,35,36]) hG (by kernel_rfl) rfl (st_fa rfl rfl) rfl ?_
  refine QG2.k [M.length] (bad:=[26,27,28,29,30,31,32,33,34,35,36]) hG (by kernel_rfl) ⟨.inr (hfar _ (by omega) (by omega)),trivial⟩ rfl (st_ld one22 rfl (by rw [maskK_rd (by simp)]; exact AskC.r6 h6)) rfl ?_
  refine QG2.c (T:=[]) (bad:=[26]) hG (by kernel_rfl) (by kernel_rfl) (.inl rfl) rfl (st_call rfl rfl) (hic) hM7 rfl ?_
  refine QG2.st (T:=[M1.length]) (bad:=[]) hG (by kernel_rfl) (by kernel_rfl) (.inr (all_lt (by kernel_rfl))) rfl (st_sta (n:=4) row28 rfl rfl rfl hw7) g7 ?_
  refine QG2.b (bad:=[]) hG (by kernel_rfl) rfl (st_as rfl) rfl ?_
  refine QG2.b (bad:=[]) hG (by kernel_rfl) rfl (st_as rfl) rfl ?_
  refine QG2.done (by kernel_rfl) rfl ?_
  exact AWX.ret ⟨.inr rfl,_,_,rfl,cell_rows row28 rfl (CfB.r (set_get hr7)) rfl,rfl⟩
 ·exact GrowL.un ((g5.tr hM6).tr hM7) g7 (by omega)
 ·rw [set_ne (by omega)]; exact hkb7
 ·exact hvi.ne (fun b o n lim e => by have:=hvf b o n lim e; have:=hM6.le; omega)
end
end
end
section
open Go.Proofs
noncomputable section
section
variable {P:Program} {G:GF} {prot:Pr} {W0 w:World} {φ:Pl} {M:Mem}
theorem freeze_heap (w:World) (a:Addr):(w.freeze a 1).heap.size = w.heap.size ∧ (∀ k,k ≠ a.block → (w.freeze a 1).heap[k]? = w.heap[k]?) ∧
  ∀ cur e fr,w.heap[a.block]? = some (.cells cur e fr) → (w.freeze a 1).heap[a.block]? = some (.cells cur e (if fr.1 == fr.2 then (a.off,a.off + 1) else (min fr.1 a.off,max fr.2 (a.off + 1)))):=by
 have e:w.freeze a 1 = { w with heap:=w.heap.modify a.block fun
   | .cells c elem (lo,hi) => .cells c elem (if lo == hi then (a.off,a.off + 1) else (min lo a.off,max hi (a.off + 1)))
   | o => o }:=if_neg (by decide)
 rw [e]
 refine ⟨by simp,fun k hk => ?_,fun cur el fr h => ?_⟩
 ·simp [Array.getElem?_modify,Ne.symm hk]
 ·simp [Array.getElem?_modify,h]
theorem MR.freeze (h:MR G prot W0 φ M w) {b:Nat} {cs:List V} {g:Nat} {p:Place} (hb:M[b]? = some (.own cs g)) (hp:φ b = some p) {cur:Array Value} {e:TypeId} (hr:RowAt w p.1 cur e):MR G prot W0 φ M (w.freeze ⟨p.1,cur.size,none⟩ 1):=by
 obtain ⟨hsz,hoth,hat⟩:=freeze_heap w ⟨p.1,cur.size,none⟩
 have hos:(w.freeze ⟨p.1,cur.size,none⟩ 1).os = w.os ∧ (w.freeze ⟨p.1,cur.size,none⟩ 1).tape = w.tape ∧ (w.freeze ⟨p.1,cur.size,none⟩ 1).output = w.output:=by
  unfold World.freeze; rw [if_neg (by decide)]; exact ⟨rfl,rfl,rfl⟩
 have hsame:RowAt (w.freeze ⟨p.1,cur.size,none⟩ 1) p.1 cur e:=by
  obtain ⟨fr,h1,h2⟩:=hr
  refine ⟨_,hat cur e fr h1,?_⟩
  obtain ⟨lo,hi⟩:=fr
  right
  split
  ·exact Nat.le_refl _
  ·rcases h2 with h2 | h2
   ·injection h2 with e1 e2; subst e1 e2; simp at *
   ·simp only at h2 ⊢; omega
 generalize w.freeze ⟨p.1,cur.size,none⟩ 1 = w' at *
 obtain ⟨p',us,cur',e',h0,hnp,h1,h2,h3,h4⟩:=h.own b cs g hb
 obtain rfl:p' = p:=Option.some.inj (h0.symm.trans hp)
 refine ⟨hos.1.trans h.os,hos.2.1.trans h.tape,hos.2.2.trans h.output,by rw [hsz]; exact h.size,h.lt,fun k hk => ?_,h.laid,h.fresh,h.nbl,h.base,fun i ds gs hi => ?_,h.sep,fun i ds hi => ?_,h.eqn⟩
 ·rw [hoth k (fun e => hnp (by have e:k = p'.1:=e; rw [← e]; exact hk))]; exact h.kept k hk
 ·by_cases hib:i = b
  ·subst hib
   rw [hb] at hi; injection hi with hi; injection hi with e1 e2; subst e1 e2
   obtain ⟨rfl,rfl⟩:=hr.inj h2
   exact ⟨p',us,cur',e',h0,hnp,h1,hsame,h3,h4⟩
  ·obtain ⟨q,xs,cx,ex,a0,a1,a3,a4,a5⟩:=h.own i ds gs hi
   refine ⟨q,xs,cx,ex,a0,a1,a3,?_,a5⟩
   have hne:=h.sep b i cs g _ p' q hb hi rfl (Ne.symm hib) hp a0
   exact a4.imp fun fr hf => ⟨(hoth q.1 (Ne.symm hne)).trans hf.1,hf.2⟩
 ·obtain ⟨q,xs,cx,ex,fr,a0,a1,a2,a3⟩:=h.ro i ds hi
  have hib:b ≠ i:=fun e => by subst e; rw [hb] at hi; cases hi
  have hne:=h.sep b i cs g _ p' q hb hi rfl hib hp a0
  exact ⟨q,xs,cx,ex,fr,a0,a1,(hoth q.1 (Ne.symm hne)).trans a2,a3⟩
end
section
variable {G:GF} {ops:Array Oper} {i d b n c g:Nat} {s:St} {x:Operand} {ty:TypeId} {pos:String} {af:Array Edge} {cs:List V}
theorem aopv_cv22 (ho:ops[i]? = some ⟨some d,.convert 22 22 x,ty,pos,af,none⟩) (hx:s.get x = some (.sl b 0 n (some c))) (hb:s.M[b]? = some (.own cs g)):AOpV Tryz.prog G ops i s (some d) (.sl b 0 n (some c)) s.M:=by
 intro prot W0 φ a w Q K hs hk
 have h1:=hs.get x _ hx
 have hmr:=hs.mr
 have hown:=hmr.own b cs g hb
 obtain ⟨p,us,cur,e,h0,hnp,h2,h3,h4,h5⟩:=hown
 have hv:V.conc φ (.sl b 0 n (some c)) = some (.slice (some ⟨p.1,p.2.1 + 0,none⟩) n c):=by simp [V.conc,h0]
 rw [hv] at h1
 injection h1 with h1
 have hsh:w.shape? p.1 = some (e,cur.size):=by
  obtain ⟨fr,h6,_⟩:=h3
  unfold World.shape?; rw [h6]
 have hrun:(execOp a.eval ⟨some d,.convert 22 22 x,ty,pos,af,none⟩).run Tryz.prog w = .ok (.value (.slice (some ⟨p.1,p.2.1 + 0,none⟩) n c)) (w.freeze ⟨p.1,cur.size,none⟩ 1):=by
  simp only [execOp,← h1]
  simp [convert,run_underlying (P:=Tryz.prog) Tryz.underlying22,run_underlying (P:=Tryz.prog) Tryz.underlying5,markStringish,hsh]
 unfold wpOp
 have hw:wants ops s ⟨some d,.convert 22 22 x,ty,pos,af,none⟩ = some true:=by simp [wants]
 simp only [ho,hs.wants hw,if_true]
 left
 unfold Oper.wp
 rw [hrun]
 exact hk φ _ _ (Pl.le_refl _) hv (hmr.freeze hb h0 h3)
variable {l:List (Nat × V)} {M:Mem} {G:GF} {id nt:Nat} {s0:St} {lo:Lo} {Q:AExit → St → Prop} {bad:List Nat}
theorem QG2.cap {s:St} {lo lo':Lo} (hc:∀ p ∈ lo,∃ q ∈ lo',q.1 = p.1 ∧ ∀ b,b < s.M.length → b ∈ p.2.1 ∨ p.2.2 ≤ b → b ∈ q.2.1 ∨ q.2.2 ≤ b) (h:QG2 G ops id s0 i s lo' Q):QG2 G ops id s0 i s lo Q:=by
 rintro ⟨e,st,h0,h1,h2,h3,h4⟩
 refine h ⟨e,st,h0,h1,h2,fun j hj b hb => ?_,h4⟩
 obtain ⟨p,hp,e1,h5⟩:=h3 j hj b hb
 obtain ⟨q,hq,e2,h6⟩:=hc p hp
 have hl:=h4 j hj
 have hlt:b < s.M.length:=by
  rw [tch_iff] at hb
  rcases hb with ⟨h,_⟩ | ⟨_,h⟩ <;> omega
 exact ⟨q,hq,e2.trans e1,h6 b hlt h5⟩
theorem QG2.cv22 (hb:badT ops (msOf ops) i = bad) (hlo:LoK ops i [b] lo) (ho:ops[i]? = some ⟨some d,.convert 22 22 x,ty,pos,af,none⟩) (hx:getD bad nt l x = some (.sl b 0 n (some c))) (hM:M[b]? = some (.own cs g)) (hd:Nat.blt d nt = true) (h:QG2 G ops id s0 (i + 1) (mkSt nt ((d,.sl b 0 n (some c)) :: l) M) lo Q):QG2 G ops id s0 i (mkSt nt l M) lo Q:=by
 intro hq
 refine h ?_
 rw [← mk_put (v:=.sl b 0 n (some c)) (M':=M) hd]
 refine hq.step ho (kM:=maskK [b] M) (R:=maskK [b] M) (T:=[]) maskK_len (fun b' k hk => ?_) (aopv_cv22 (s:=seen ops (msOf ops) i (mkSt nt l M) (maskK [b] M)) ho (by rw [seen_getD hb]; exact hx) (by
  show (maskK [b] M)[b]? = _
  rw [maskK_get (by simp)]; exact hM)) (GrowL.refl _) (.inl rfl) (.inr ⟨rfl,rfl,rfl⟩) (fun _ h => h) (.inr ⟨rfl,rfl⟩)
 rcases maskK_cases hk with h1 | ⟨h1,h2⟩
 ·exact .inl h1
 ·exact .inr ⟨h2,LoK.all h1 hlo⟩
end
end
end
section
open Go.Proofs
noncomputable section
section
variable {mode s k:Nat} {E D:List Int → List Int}
theorem stepB_back {c x:List Int} (hE:EDok s E D) (hm:mode = 1 ∨ mode = 2) (hc:ChOK mode s c) (hx:x.length = s) (hb:Bytes x):stepB mode false E D c (stepB mode true E D c x).1 = (x,(stepB mode true E D c x).2):=by
 have h:=hE x hx hb
 rcases hm with rfl | rfl
 ·simp [stepB,h.2.2]
 ·obtain ⟨h1,h2⟩:=hc rfl
  rw [stepB_T,stepB_F]
  simp only
  rw [xorL_back (h.2.1.1.trans h1.symm) h.2.1.2,h.2.2]
theorem stepL_back (hE:EDok s E D) (hm:mode = 1 ∨ mode = 2):∀ (k:Nat) (c xs:List Int),ChOK mode s c → xs.length = k * s → Bytes xs → stepL mode false E D s k c (stepL mode true E D s k c xs) = xs
 | 0,c,xs,hc,hx,hb => by
  have:xs = []:=List.eq_nil_of_length_eq_zero (by simpa using hx)
  subst this; rfl
 | k + 1,c,xs,hc,hx,hb => by
  have e:(k + 1) * s = k * s + s:=Nat.succ_mul k s
  have htl:(xs.take s).length = s:=by rw [List.length_take]; omega
  have htb:Bytes (xs.take s):=fun m h => hb m (List.mem_of_mem_take h)
  have h1:=stepB_ok (back:=true) hE hm hc htl htb
  have h2:=stepB_back hE hm hc htl htb
  have h3:=stepL_back hE hm k (stepB mode true E D c (xs.take s)).2 (xs.drop s) h1.2.2 (by rw [List.length_drop]; omega) (fun m h => hb m (List.mem_of_mem_drop h))
  simp only [stepL]
  rw [List.take_left' h1.1,List.drop_left' h1.1,h2]
  simp only
  rw [h3,List.take_append_drop]
theorem xor_ne {a b:Nat} (hb:b ≠ 0):Nat.xor a b ≠ a:=fun h => by
 have h1:a ^^^ b = a:=h
 have h2:=congrArg (a ^^^ ·) h1
 simp only [← Nat.xor_assoc,Nat.xor_self,Nat.zero_xor] at h2
 exact hb h2
theorem spoilt {c m x' ys:List Int} {n:Nat} (hE:EDok s E D) (hm:mode = 1 ∨ mode = 2) (_hs:s = 8 ∨ s = 16) (hk:k = 1 ∨ k = 2) (hc:ChOK mode s c) (hx:x'.length = (m.length / s + 1) * s) (hb:Bytes x')
  (hne:x' ≠ stepL mode false E D s (m.length / s + 1) c (padL k s m)) (hn:1 ≤ n ∧ n ≤ s) (ho:stepL mode true E D s (m.length / s + 1) c x' = ys ++ madeL k n):ys ≠ m:=by
 rintro rfl
 have h1:=stepL_back hE hm _ c x' hc hx hb
 have h2:=(stepL_ok (back:=true) hE hm _ c x' hc hx hb).1
 rw [ho,List.length_append,made_len hk hn.1] at h2
 have h3:ys.length % s < s:=Nat.mod_lt _ (by omega)
 have h4:ys.length / s * s + ys.length % s = ys.length:=by rw [Nat.mul_comm]; exact Nat.div_add_mod ..
 rw [Nat.succ_mul] at h2
 have h5:n = s - ys.length % s:=by omega
 rw [ho,h5] at h1
 exact hne h1.symm
end
end
end
section
open Go.Proofs
noncomputable section
theorem caught_idle (p q:Value) (w:World):CallsD Tryz.prog 45 #[p,q] .returning w fun e u' w' => e = .returned (.tuple #[]) ∧ u' = .returning ∧ w' = w:=by
 refine callsD_of_wpS Tryz.func45 rfl fun c₀ cs hu => ?_
 apply wpS_seq
 apply wpS_region
 simp [wpOpsS,go_sem,recoverD,hu,Tryz.ntmps45,Exit.thenS]
 refine wpS_of_wp (wp_block (wp_seq (wp_region ?_)))
 have he:∀ n:Nat,(Op.equalIn (n + 1) 20 .nilIface .nilIface).run Tryz.prog w = .ok true w:=fun n => by
  simp [Op.equalIn,run_underlying (P:=Tryz.prog) Tryz.underlying20]
 have hq:(Op.equal 20 .nilIface .nilIface).run Tryz.prog w = .ok true w:=by
  have:=he 9999
  unfold Op.equal
  rw [show Op.maxDepth = 9999 + 1 from rfl]
  exact this
 simp [wpOps,go_sem,eqGuard,Exit.then,hq,binOp]
 left
 refine wp_cond_true (by simp [Act.eval,Array.replicate]) (wp_region ?_)
 simp [wpOps,go_sem,Exit.inBlock,bodyPostS,results,Tryz.results45]
 left
 cases c₀
 simp_all
def dfTail (fv:FnV):Code:=match cAt [1] fv.body with
 | .scope c => c
 | c => c
def dfRun (call:Known) (fv:FnV) (p q:Nat) (args:List V) (M:Mem):Option (V × Mem × List Nat) :=
 if 320 < (start fv args).length then none else kSpine (chunk 40 (start fv args)) fun rs => kNat M.length fun L =>
 match EV noX tyF call 100000 .plain (cAt [0] fv.body) ⟨rs,[],M,L,[]⟩ with
 | some (.normal,s1) => match s1.ds,kGet s1 (.tmp p),kGet s1 (.tmp q) with
  | [],some vp,some vq => match EV noX tyF call 100000 .plain (cAt [1] (dfTail fv)) { s1 with ds:=[(45,[vp,vq])] } with
   | some (.ret,s2) => match s2.ds with
    | [(45,[_,_])] => (resV tyF s2 fv.results).map fun l => (retV l,s2.M,s2.ch)
    | _ => none
   | _ => none
  | _,_,_ => none
 | _ => none
structure DfShape (fv:FnV) (p q:Nat):Prop where
 h:∃ (id:Nat) (o:Oper),(fv.body = .seq (cAt [0] fv.body) (dfTail fv) ∨ fv.body = .seq (cAt [0] fv.body) (.scope (dfTail fv))) ∧ dfTail fv = .seq (.region id #[o] false) (cAt [1] (dfTail fv)) ∧ o.guard = none ∧ o.dst = none ∧ o.op = .defer ⟨.value (.func 45),#[.tmp p,.tmp q],#[73,74]⟩
section
variable {G:GF} {f p q:Nat} {fv:FnV} {args:List V} {M M':Mem} {v:V} {ch:List Nat} {call:Known}
theorem dfRun_ok (hG:GOK G) (hc:CallOK Tryz.prog G call) (hf:fn f = some fv) (hsh:DfShape fv p q) (h:dfRun call fv p q args M = some (v,M',ch)):ACall Tryz.prog G f args M v M' ∧ GrowL M M' ch:=by
 have hJ:∀ n,EVOK Tryz.prog G (EV noX tyF call n):=EV_sound hG noX_ok tyF_ok hc (dr_ok hG noX_ok tyF_ok mixed hc)
 obtain ⟨id,o,hwh,hbody,ho1,ho2,ho3⟩:=hsh.h
 unfold dfRun at h
 split at h
 ·cases h
 ·rename_i hlen
  rw [kSpine_eq,kNat_eq] at h
  split at h
  ·rename_i s1 hs1
   split at h
   ·rename_i vp vq hds1 hvp hvq
    split at h
    ·rename_i s2 hs2
     split at h
     ·rename_i v1 v2 hds2
      simp only [Option.map_eq_some_iff,Prod.mk.injEq] at h
      obtain ⟨l,hl,rfl,rfl,rfl⟩:=h
      obtain ⟨g,g1,g2,g3,g4,g5⟩:=fok f fv hf
      have hg0:Good M ⟨chunk 40 (start fv args),[],M,M.length,[]⟩ ⟨start fv args,[],M⟩:=⟨⟨chunk_ch 40 _ (by omega),rfl,rfl⟩,rfl,GrowL.refl M⟩
      obtain ⟨t1,k1,a1⟩:=hJ _ M .plain (cAt [0] fv.body) _ _ _ (by intro b hb; cases hb) hg0 hs1
      have hp1:t1.get (.tmp p) = some vp:=by rw [← kGet_eq k1.same]; exact hvp
      have hq1:t1.get (.tmp q) = some vq:=by rw [← kGet_eq k1.same]; exact hvq
      have hd1:t1.ds = []:=k1.same.ds.symm.trans hds1
      have hdef:AW Tryz.prog G (.region id #[o] false) t1 .normal { t1 with ds:=[(45,[vp,vq])] }:=by
       have h1:AOp Tryz.prog G #[o] 0 t1 ({ t1 with ds:=(45,[] ++ [vp,vq]) :: t1.ds }.put o.dst undefV t1.M) :=
        AOp.defer (o:=o) (c:=⟨.value (.func 45),#[.tmp p,.tmp q],#[73,74]⟩) rfl (by simp [wants,ho1]) ho3 rfl rfl (by simp [evs,hp1,hq1])
       rw [ho2,hd1] at h1
       exact AW.region (AOps.cons h1 AOps.nil)
      have k1':Good M { s1 with ds:=[(45,[vp,vq])] } { t1 with ds:=[(45,[vp,vq])] }:=⟨⟨k1.same.ch,rfl,k1.same.M⟩,k1.base,k1.grow⟩
      obtain ⟨t2,k2,a2⟩:=hJ _ M .plain (cAt [1] (dfTail fv)) _ _ _ (by intro b hb; cases hb) k1' hs2
      have hX:AWX G fv.body ⟨start fv args,[],M⟩ (fun x s' => x = .ret ∧ s' = t2):=by
       have hY:AWX G (dfTail fv) t1 (fun x s' => x = .ret ∧ s' = t2):=by
        rw [hbody]
        exact AWX.seq ⟨_,_,hdef,⟨_,_,a2,rfl,rfl⟩⟩
       rcases hwh with hwh | hwh
       ·rw [hwh]
        exact AWX.seq ⟨_,_,a1,hY⟩
       ·rw [hwh]
        refine AWX.seq ⟨_,_,a1,AWX.scope (JX.step (AWX.mono hY ?_))⟩
        rintro x s' ⟨rfl,rfl⟩
        exact ⟨rfl,rfl⟩
      obtain ⟨x,s',haw,rfl,rfl⟩:=hX
      refine ⟨⟨⟨g,fv.body,g1,g2,g3⟩,fun prot W0 φ w us hM hus => ?_⟩,by rw [k2.same.M]; exact k2.grow⟩
      refine calls_of_wp_defers g1 g3 ?_
      rw [g4]
      refine haw prot W0 φ _ w _ (start_sr hM hus fv) ?_
      intro φ' a' w' hle hsr
      rw [← g5] at hl
      obtain ⟨u,hu1,hu2⟩:=results_sound tyF_ok k2.same hsr hl
      have hd:=hsr.ds
      rw [← k2.same.ds,hds2] at hd
      simp only [defsC,defC,Option.bind_eq_some_iff,Option.map_eq_some_iff] at hd
      obtain ⟨d,⟨us2,hus2,rfl⟩,l2,hl2,hd⟩:=hd
      injection hl2 with hl2
      subst hl2
      obtain ⟨u1,us3,b1,b2,rfl⟩:=concs_cons.1 hus2
      obtain ⟨u2,us4,b3,b4,rfl⟩:=concs_cons.1 b2
      simp only [concs,Option.some.injEq] at b4
      subst b4
      show Leaves Tryz.prog g a'.tmps _ a'.defers .returning w'
      rw [← hd]
      obtain ⟨gc,c1,c2,c3,c4,c5⟩:=fok 45 (fnOf Tryz.f45) rfl
      refine ⟨by simp,.func 45,#[],45,#[u1,u2],rfl,?_,CallsD.mono (caught_idle u1 u2 w') ?_⟩
      ·exact Plain.run (P:=Tryz.prog) (f:=45) ⟨gc,_,c1,c2,c3⟩ #[u1,u2] w'
      ·rintro e u' w'' ⟨rfl,rfl,rfl⟩
       exact ⟨u,hu2,φ',hle,hu1,by rw [k2.same.M]; exact hsr.mr⟩
     ·cases h
    ·cases h
   ·cases h
  ·cases h
end
end
end
section
open Go.Proofs
noncomputable section
theorem row24:∃ d,tyF 24 = some d ∧ d.kind.row = true ∧ d.size = 7:=⟨_,rfl,rfl,rfl⟩
def KnownOK (G:GF):Prop:=∀ M:Mem,∃ M2,ACall Tryz.prog G 4 [] M (.bool true) M2 ∧ GrowL M M2 []
def CiphAll (G:GF):Prop:=∀ t L:Nat,1 ≤ t ∧ t ≤ 8 → L ∈ lensOf t → Ciph G t L (szOf t)
theorem IsS.lt {M:Mem} {v:V} {xs:List Int} (h:IsS M v xs):∀ b o n lim,v = .sl b o n lim → b < M.length:=fun b o n lim e => by
 rcases h with ⟨rfl,_⟩ | ⟨b2,o2,lim2,rfl,h2,_⟩
 ·cases e
 ·injection e with e
  subst e
  obtain ⟨k,hk,_⟩:=rd_row h2
  exact lt_of hk
theorem IsC.ne {M:Mem} {v:V} {xs:List Int} {c:Nat} {k:Blk} (h:IsC M v xs) (hf:∀ b o n lim,v = .sl b o n lim → b ≠ c):IsC (M.set c k) v xs:=by
 rcases h with h | ⟨b,o,lim,rfl,h2,h3⟩
 ·exact .inl h
 ·exact .inr ⟨b,o,lim,rfl,by rw [rd_ne (Ne.symm (hf b o _ _ rfl))]; exact h2,h3⟩
section
variable {G:GF} {M:Mem} {vk vb vm:V} {ks bs xs:List Int} {tag n mode pad at':Int} {back:Bool}
theorem nat_of {a:Int} {n:Nat} (h:0 ≤ a ∧ a < n):∃ m:Nat,a = m ∧ m < n:=⟨a.toNat,by omega,by omega⟩
theorem top_few (hG:GOK G) (hkn:KnownOK G) {by':Nat} (hk:IsS M vk ks) (hb:IsS M vb bs) (hm:IsS M vm xs) (h:¬ (xs.length ≤ 100 ∧ ks.length ≤ 100 ∧ bs.length ≤ 100 ∧ by' ≠ 0)) :
  ∃ M2,ACall Tryz.prog G 3 [.agg (AskC tag n mode pad back vk vb),vm,.int .i64 at',.int .u8 by'] M (.bool true) M2 ∧ GrowL M M2 []:=by
 have hbox:∀ {ρ:Operand → Option V} {x:Operand},ρ x = some (.agg (AskC tag n mode pad back vk vb)) → astep noX tyF ρ M (.box 24 x) = some (.val (.ptr M.length 0) (M ++ [Blk.own (AskC tag n mode pad back vk vb) 0])):=fun h => st_box h
 have g1:GrowL M (M ++ [Blk.own (AskC tag n mode pad back vk vb) 0]) []:=GrowL.one _ _ _
 have h1:(M ++ [Blk.own (AskC tag n mode pad back vk vb) 0])[M.length]? = some (.own (AskC tag n mode pad back vk vb) 0):=app_last
 generalize M ++ [Blk.own (AskC tag n mode pad back vk vb) 0] = M1 at hbox g1 h1
 obtain ⟨M2,hc2,hM2⟩:=hkn M1
 have h2:=hM2.g0 h1
 have hr2:rd M2 M.length 0 7 = some (AskC tag n mode pad back vk vb):=rd_own0 h2 rfl
 obtain ⟨M3,hc3,hM3⟩:=few_call (M:=M2) (tag:=tag) (n:=n) (mode:=mode) (pad:=pad) (back:=back) hG (hk.grow (g1.tr hM2)) (hb.grow (g1.tr hM2))
 by_cases hx:100 < xs.length
 ·refine ⟨M2,?_,g1.tr hM2⟩
  refine acall_mk (n:=97) (fv:=fnOf Tryz.f3) rfl rfl (by simp) (by decide) ?_
  refine AWX.seq (AWX.region (AOX.qv hG rfl (hbox rfl) rfl (AOX.q hG rfl (st_as rfl) rfl (AOX.nil ?_))))
  refine AWX.seq (AWX.seq (AWX.region (AOX.qc hG rfl (st_call rfl rfl) (hc2) rfl (AOX.q hG rfl (st_not rfl) rfl (AOX.nil ?_)))))
  refine AWX.cf rfl (AWX.skip ?_)
  refine AWX.seq (AWX.seq (AWX.region (AOX.q hG rfl (st_mv rfl) rfl (AOX.q hG rfl (st_lenS sl22 hm rfl) rfl (AOX.q hG rfl (st_bin rfl rfl (b_gtrT (by omega))) rfl (AOX.q hG rfl (st_mv rfl) rfl (AOX.qn rfl rfl rfl rfl (AOX.qn rfl rfl rfl rfl (AOX.qn rfl rfl rfl rfl (AOX.q hG rfl (st_pickT rfl rfl) rfl (AOX.q hG rfl (st_mv rfl) rfl (AOX.qn rfl rfl rfl rfl (AOX.qn rfl rfl rfl rfl (AOX.q hG rfl (st_pickT rfl rfl) rfl (AOX.nil ?_)))))))))))))))
  refine AWX.ct rfl (AWX.seq (AWX.region (AOX.q hG rfl (st_as rfl) rfl (AOX.nil ?_))))
  refine AWX.ret ⟨.inr rfl,_,_,rfl,rfl,rfl⟩
 ·refine ⟨M3,?_,(g1.tr hM2).tr hM3⟩
  refine acall_mk (n:=97) (fv:=fnOf Tryz.f3) rfl rfl (by simp) (by decide) ?_
  by_cases hf:ks.length ≤ 100 ∧ bs.length ≤ 100
  ·rw [decide_eq_true hf] at hc3
   have h0:by' = 0:=Decidable.byContradiction fun h0 => h ⟨by omega,hf.1,hf.2,h0⟩
   subst h0
   refine AWX.seq (AWX.region (AOX.qv hG rfl (hbox rfl) rfl (AOX.q hG rfl (st_as rfl) rfl (AOX.nil ?_))))
   refine AWX.seq (AWX.seq (AWX.region (AOX.qc hG rfl (st_call rfl rfl) (hc2) rfl (AOX.q hG rfl (st_not rfl) rfl (AOX.nil ?_)))))
   refine AWX.cf rfl (AWX.skip ?_)
   refine AWX.seq (AWX.seq (AWX.region (AOX.q hG rfl (st_mv rfl) rfl (AOX.q hG rfl (st_lenS sl22 hm rfl) rfl (AOX.q hG rfl (st_bin rfl rfl (b_gtrF (by omega))) rfl (AOX.q hG rfl (st_mv rfl) rfl (AOX.qg hG rfl rfl (st_lda row24 rfl hr2) rfl (AOX.qgc hG rfl rfl (st_call rfl rfl) (hc3) rfl (AOX.qg hG rfl rfl (st_not rfl) rfl (AOX.q hG rfl (st_pickF rfl rfl) rfl (AOX.q hG rfl (st_mv rfl) rfl (AOX.qg hG rfl rfl (st_mv rfl) rfl (AOX.qg hG rfl rfl (st_bin rfl rfl (b_eqlT rfl)) rfl (AOX.q hG rfl (st_pickF rfl rfl) rfl (AOX.nil ?_)))))))))))))))
   refine AWX.ct rfl (AWX.seq (AWX.region (AOX.q hG rfl (st_as rfl) rfl (AOX.nil ?_))))
   refine AWX.ret ⟨.inr rfl,_,_,rfl,rfl,rfl⟩
  ·rw [decide_eq_false hf] at hc3
   refine AWX.seq (AWX.region (AOX.qv hG rfl (hbox rfl) rfl (AOX.q hG rfl (st_as rfl) rfl (AOX.nil ?_))))
   refine AWX.seq (AWX.seq (AWX.region (AOX.qc hG rfl (st_call rfl rfl) (hc2) rfl (AOX.q hG rfl (st_not rfl) rfl (AOX.nil ?_)))))
   refine AWX.cf rfl (AWX.skip ?_)
   refine AWX.seq (AWX.seq (AWX.region (AOX.q hG rfl (st_mv rfl) rfl (AOX.q hG rfl (st_lenS sl22 hm rfl) rfl (AOX.q hG rfl (st_bin rfl rfl (b_gtrF (by omega))) rfl (AOX.q hG rfl (st_mv rfl) rfl (AOX.qg hG rfl rfl (st_lda row24 rfl hr2) rfl (AOX.qgc hG rfl rfl (st_call rfl rfl) (hc3) rfl (AOX.qg hG rfl rfl (st_not rfl) rfl (AOX.q hG rfl (st_pickF rfl rfl) rfl (AOX.q hG rfl (st_mv rfl) rfl (AOX.qn rfl rfl rfl rfl (AOX.qn rfl rfl rfl rfl (AOX.q hG rfl (st_pickT rfl rfl) rfl (AOX.nil ?_)))))))))))))))
   refine AWX.ct rfl (AWX.seq (AWX.region (AOX.q hG rfl (st_as rfl) rfl (AOX.nil ?_))))
   refine AWX.ret ⟨.inr rfl,_,_,rfl,rfl,rfl⟩
theorem top_main (hG:GOK G) (hkn:KnownOK G) (hca:CiphAll G) {by':Nat} (hk:IsS M vk ks) (hkb:Bytes ks) (hb:IsS M vb bs) (hbb:Bytes bs) (hm:IsC M vm xs) (hmb:Bytes xs) (hby:by' < 256) (hxl:xs.length ≤ 100) (hkl:ks.length ≤ 100) (hbl:bs.length ≤ 100) (h0:by' ≠ 0) :
  ∃ M2,ACall Tryz.prog G 3 [.agg (AskC tag n mode pad back vk vb),vm,.int .i64 at',.int .u8 by'] M (.bool true) M2 ∧ GrowL M M2 []:=by
 have hbox:∀ {ρ:Operand → Option V} {x:Operand},ρ x = some (.agg (AskC tag n mode pad back vk vb)) → astep noX tyF ρ M (.box 24 x) = some (.val (.ptr M.length 0) (M ++ [Blk.own (AskC tag n mode pad back vk vb) 0])):=fun h => st_box h
 have g1:GrowL M (M ++ [Blk.own (AskC tag n mode pad back vk vb) 0]) []:=GrowL.one _ _ _
 have h1:(M ++ [Blk.own (AskC tag n mode pad back vk vb) 0])[M.length]? = some (.own (AskC tag n mode pad back vk vb) 0):=app_last
 generalize M ++ [Blk.own (AskC tag n mode pad back vk vb) 0] = M1 at hbox g1 h1
 obtain ⟨M2,hc2,hM2⟩:=hkn M1
 have h2:=hM2.g0 h1
 have hr2:rd M2 M.length 0 7 = some (AskC tag n mode pad back vk vb):=rd_own0 h2 rfl
 obtain ⟨M3,hc3,hM3⟩:=few_call (M:=M2) (tag:=tag) (n:=n) (mode:=mode) (pad:=pad) (back:=back) hG (hk.grow (g1.tr hM2)) (hb.grow (g1.tr hM2))
 rw [decide_eq_true ⟨hkl,hbl⟩] at hc3
 have h3:=hM3.g0 h2
 have g3:=(g1.tr hM2).tr hM3
 obtain ⟨mo,hmo,hmo2⟩:=nat_of (wiI_in mode (n:=2) (by omega))
 obtain ⟨pa,hpa,hpa2⟩:=nat_of (wiI_in pad (n:=2) (by omega))
 have hwm:=within6 (M:=M3) (a:=mode) (n:=2) hG (by omega) (by omega)
 have hwp:=within6 (M:=M3) (a:=pad) (n:=2) hG (by omega) (by omega)
 rw [hmo] at hwm
 rw [hpa] at hwp
 have hw4:wr M3 M.length (0 + 2) [.int .i64 mo] = some (M3.set M.length (.own (AskC tag n mo pad back vk vb) 0)):=wr_own h3 (by simp [AskC]) rfl
 have h4:=set_get (k:=Blk.own (AskC tag n mo pad back vk vb) 0) h3
 have g4:GrowL M (M3.set M.length (.own (AskC tag n mo pad back vk vb) 0)) []:=g3.st (Nat.le_refl _) h3 (by simp)
 have gw4:=GrowL.wr hw4
 generalize M3.set M.length (.own (AskC tag n mo pad back vk vb) 0) = M4 at hw4 h4 g4 gw4
 have hw5:wr M4 M.length (0 + 3) [.int .i64 pa] = some (M4.set M.length (.own (AskC tag n mo pa back vk vb) 0)):=wr_own h4 (by simp [AskC]) rfl
 have h5:=set_get (k:=Blk.own (AskC tag n mo pa back vk vb) 0) h4
 have g5:GrowL M (M4.set M.length (.own (AskC tag n mo pa back vk vb) 0)) []:=g4.st (Nat.le_refl _) h4 (by simp)
 have gw5:=GrowL.wr hw5
 generalize M4.set M.length (.own (AskC tag n mo pa back vk vb) 0) = M5 at hw5 h5 g5 gw5
 have hw6:wr M5 M.length (0 + 4) [.bool false] = some (M5.set M.length (.own (AskC tag n mo pa false vk vb) 0)):=wr_own h5 (by simp [AskC]) rfl
 have h6:=set_get (k:=Blk.own (AskC tag n mo pa false vk vb) 0) h5
 have g6:GrowL M (M5.set M.length (.own (AskC tag n mo pa false vk vb) 0)) []:=g5.st (Nat.le_refl _) h5 (by simp)
 have gw6:=GrowL.wr hw6
 generalize M5.set M.length (.own (AskC tag n mo pa false vk vb) 0) = M6 at hw6 h6 g6 gw6
 have hr6:rd M6 M.length 0 7 = some (AskC tag n mo pa false vk vb):=rd_own0 h6 rfl
 obtain ⟨M7,t,kb,L,vi,hc7,hM7,ht,hL,hkey,hiv⟩:=amake_call (M:=M6) (tag:=tag) (n:=n) (mode:=mo) (pad:=pa) hG (by omega) (by omega) (hk.grow g6) (by omega) (hb.grow g6) (by omega)
 have hL32:=(lensOf_in ht).2.2 L hL
 have hs:=szOf_in t
 have hklen:(byL L ks).length = L:=byL_len L ks
 have hkby:Bytes (byL L ks):=byL_in hkb
 obtain ⟨E,D,hE,hnew⟩:=(hca t L ht hL).h (byL L ks) hklen hkby
 have hrk:rd M7 kb 0 L = some (u8s' (byL L ks)):=rd_own0 hkey (by rw [u8s'_len,hklen])
 generalize hivs:(if mo + 1 = 1 then [] else byL (szOf t) bs) = ivs at hiv
 have hil:ivs.length = if mo + 1 = 1 then 0 else szOf t:=by
  rw [← hivs]; split
  ·rfl
  ·exact byL_len _ _
 have hib:Bytes ivs:=by
  rw [← hivs]; split
  ·intro m hm; cases hm
  ·exact byL_in hbb
 have gc:GrowL M7 (M7 ++ [.own [.int .i64 0,.int .i64 0,.int .i64 0,.bool false] 0]) []:=GrowL.one _ _ _
 have hcf:(M7 ++ [Blk.own [.int .i64 0,.int .i64 0,.int .i64 0,.bool false] 0])[M7.length]? = some (.own [.int .i64 0,.int .i64 0,.int .i64 0,.bool false] 0):=app_last
 have hal:∀ {ρ:Operand → Option V},astep noX tyF ρ M7 (.alloc 28) = some (.val (.ptr M7.length 0) (M7 ++ [.own [.int .i64 0,.int .i64 0,.int .i64 0,.bool false] 0])):=fun {ρ} => st_al z28
 generalize M7 ++ [Blk.own [.int .i64 0,.int .i64 0,.int .i64 0,.bool false] 0] = M8 at gc hcf hal
 have hlt:M.length < M7.length:=lt_of (hM7.g0 h6)
 have hw8:wr M8 M7.length 0 [.int .i64 t,.int .i64 (mo + 1:Nat),.int .i64 (pa + 1:Nat),.bool false] = some (M8.set M7.length (CfB t (mo + 1) (pa + 1) false)):=wr_whole hcf rfl rfl
 have h9:=set_get (k:=CfB t (mo + 1) (pa + 1) false) hcf
 have g9:GrowL M7 (M8.set M7.length (CfB t (mo + 1) (pa + 1) false)) []:=gc.st (Nat.le_refl _) hcf (by simp [CfB])
 generalize M8.set M7.length (CfB t (mo + 1) (pa + 1) false) = M9 at hw8 h9 g9
 have g79:GrowL M M9 []:=(g6.tr hM7).tr g9
 obtain ⟨M10,ob,N,hc10,hM10,hob,hN,hout⟩:=shot_fwd (M:=M9) (mode:=mo + 1) (k:=pa + 1) hG ht (by omega) (by omega) hE hnew (rd_grow g9 hrk (by simp)) (Nat.le_refl L) (hiv.grow g9) hil hib (hm.grow g79) hmb (by omega)
 have hpl:=padL_len (k:=pa + 1) (s:=szOf t) (xs:=xs) (by omega) hs
 have hok:=stepL_ok (back:=false) hE (mode:=mo + 1) (by omega) (xs.length / szOf t + 1) ivs (padL (pa + 1) (szOf t) xs) (fun e => ⟨by rw [hil,if_neg (by omega)],hib⟩) hpl (padL_in hs hmb)
 generalize hx:stepL (mo + 1) false E D (szOf t) (xs.length / szOf t + 1) ivs (padL (pa + 1) (szOf t) xs) = x at hok hout
 have hNx:x.length = N:=by rw [hok.1,hN,hpl]
 have hN8:8 ≤ N:=by rw [hN,hpl,Nat.succ_mul]; omega
 obtain ⟨i,hi,hi2⟩:=nat_of (wiI_in at' (n:=N) (by omega))
 have hKs:xs.length / szOf t ≤ 100:=Nat.le_trans (Nat.div_le_self _ _) hxl
 have hN2:N ≤ 101 * 16:=by rw [hN,hpl]; exact Nat.mul_le_mul (by omega) (by omega)
 have hwa:=within6 (M:=M10) (a:=at') (n:=N) hG (by omega) (by omega)
 rw [hi] at hwa
 obtain ⟨a,ha,ha2⟩:∃ a:Nat,x[i]? = some (a:Int) ∧ a < 256:=by
  have h:=hok.2 (x[i]'(by omega)) (List.getElem_mem _)
  exact ⟨(x[i]'(by omega)).toNat,by rw [List.getElem?_eq_getElem (by omega)]; congr 1; omega,by omega⟩
 have hld:rd M10 ob (0 + i) 1 = some [.int .u8 a]:=rd_one (rd_own0 hout (show (u8s' x).length = N by rw [u8s'_len,hNx])) (by simp [u8s',ha])
 have hw11:wr M10 ob (0 + i) [.int .u8 (Nat.xor a by':Nat)] = some (M10.set ob (.own (u8s' (x.set i (Nat.xor a by':Nat))) 0)):=by
  rw [wr_own hout (by rw [u8s'_len]; omega) rfl,Nat.zero_add,u8s'_set]
 have hxor:Nat.xor a by' < 256:=Nat.xor_lt_two_pow (n:=8) ha2 hby
 have hsb:Bytes (x.set i (Nat.xor a by':Nat)):=fun m hm => by
  rcases List.mem_or_eq_of_mem_set hm with h | h
  ·exact hok.2 m h
  ·omega
 have hsne:x.set i (Nat.xor a by':Nat) ≠ x:=fun e => by
  have h1:=congrArg (·[i]?) e
  simp only [List.getElem?_set_self (show i < x.length by omega),ha,Option.some.injEq] at h1
  exact xor_ne (a:=a) h0 (by omega)
 have hsl:(x.set i (Nat.xor a by':Nat)).length = N:=by rw [List.length_set,hNx]
 generalize x.set i (Nat.xor a by':Nat) = x' at hw11 hsb hsne hsl
 have h11:=set_get (k:=Blk.own (u8s' x') 0) hout
 have hlt9:M7.length < M9.length:=lt_of h9
 have hcf11:(M10.set ob (Blk.own (u8s' x') 0))[M7.length]? = some (CfB t (mo + 1) (pa + 1) false):=by rw [set_ne (by omega)]; exact hM10.g0 h9
 have hk11:rd (M10.set ob (Blk.own (u8s' x') 0)) kb 0 L = some (u8s' (byL L ks)):=by
  have:=lt_of hkey
  rw [rd_ne (by omega)]; exact rd_grow (g9.tr hM10) hrk (by simp)
 have hi11:IsS (M10.set ob (Blk.own (u8s' x') 0)) vi ivs:=(hiv.grow (g9.tr hM10)).ne fun b o n lim e => by have:=hiv.lt b o n lim e; omega
 have hm11:IsC (M10.set ob (Blk.own (u8s' x') 0)) vm xs:=(hm.grow (g79.tr hM10)).ne fun b o n lim e => by have:=hm.s.lt b o n lim e; have:=(g6.tr hM7).le; omega
 have g11:GrowL M (M10.set ob (Blk.own (u8s' x') 0)) []:=(g79.tr hM10).st (by omega) hout (by simp)
 generalize M10.set ob (Blk.own (u8s' x') 0) = M11 at hw11 h11 hcf11 hk11 hi11 hm11 g11
 have hw12:wr M11 M7.length (0 + 3) [.bool true] = some (M11.set M7.length (CfB t (mo + 1) (pa + 1) true)):=wr_own hcf11 (by simp) rfl
 have h12:=set_get (k:=CfB t (mo + 1) (pa + 1) true) hcf11
 have hk12:rd (M11.set M7.length (CfB t (mo + 1) (pa + 1) true)) kb 0 L = some (u8s' (byL L ks)):=by
  have:=lt_of hkey
  rw [rd_ne (by omega)]; exact hk11
 have hi12:IsS (M11.set M7.length (CfB t (mo + 1) (pa + 1) true)) vi ivs:=hi11.ne fun b o n lim e => by have:=hiv.lt b o n lim e; omega
 have hm12:IsC (M11.set M7.length (CfB t (mo + 1) (pa + 1) true)) vm xs:=hm11.ne fun b o n lim e => by have:=hm.s.lt b o n lim e; omega
 have ho12:(M11.set M7.length (CfB t (mo + 1) (pa + 1) true))[ob]? = some (.own (u8s' x') 0):=by rw [set_ne (by omega)]; exact h11
 have g12:GrowL M (M11.set M7.length (CfB t (mo + 1) (pa + 1) true)) []:=g11.st (by omega) hcf11 (by simp [CfB])
 generalize M11.set M7.length (CfB t (mo + 1) (pa + 1) true) = M12 at hw12 h12 hk12 hi12 hm12 ho12 g12
 have hoC:IsC M12 (.sl ob 0 N (some N)) x':=.inr ⟨ob,0,N,by rw [hsl],rd_own0 ho12 (by rw [u8s'_len]),by omega⟩
 obtain ⟨M13,vy,e,hc13,hM13,hres⟩:=shot_back (M:=M12) (mode:=mo + 1) (k:=pa + 1) (K:=xs.length / szOf t) hG ht (by omega) (by omega) hE hnew hk12 (Nat.le_refl L) hi12 hil hib hoC hsb (by rw [hsl,hN,hpl]) (by omega)
 have hm13:=hm12.grow hM13
 refine ⟨M13,?_,g12.tr hM13⟩
 refine acall_mk (n:=97) (fv:=fnOf Tryz.f3) rfl rfl (by simp) (by decide) ?_
 have hxo:∀ {M:Mem},abin noX (tyF 5) M .xor (.int .u8 a) (.int .u8 by') = some (.int .u8 (Nat.xor a by':Nat),none):=fun {M} => b_xorn ha2 hby
 rcases hres with ⟨rfl,rfl⟩ | ⟨rfl,ys,nn,hys,hn1,hn2,hst⟩
 ·have hnil:IsS M13 .nilsl []:=.inl ⟨rfl,rfl⟩
  refine AWX.seq (AWX.region (AOX.qv hG rfl (hbox rfl) rfl (AOX.q hG rfl (st_as rfl) rfl (AOX.nil ?_))))
  refine AWX.seq (AWX.seq (AWX.region (AOX.qc hG rfl (st_call rfl rfl) (hc2) rfl (AOX.q hG rfl (st_not rfl) rfl (AOX.nil ?_)))))
  refine AWX.cf rfl (AWX.skip ?_)
  refine AWX.seq (AWX.seq (AWX.region (AOX.q hG rfl (st_mv rfl) rfl (AOX.q hG rfl (st_lenS sl22 hm.s rfl) rfl (AOX.q hG rfl (st_bin rfl rfl (b_gtrF (by omega))) rfl (AOX.q hG rfl (st_mv rfl) rfl (AOX.qg hG rfl rfl (st_lda row24 rfl hr2) rfl (AOX.qgc hG rfl rfl (st_call rfl rfl) (hc3) rfl (AOX.qg hG rfl rfl (st_not rfl) rfl (AOX.q hG rfl (st_pickF rfl rfl) rfl (AOX.q hG rfl (st_mv rfl) rfl (AOX.qg hG rfl rfl (st_mv rfl) rfl (AOX.qg hG rfl rfl (st_bin rfl rfl (b_eqlF (by omega))) rfl (AOX.q hG rfl (st_pickF rfl rfl) rfl (AOX.nil ?_)))))))))))))))
  refine AWX.cf rfl (AWX.skip ?_)
  refine AWX.seq (AWX.draw ?_)
  refine QG2.b (bad:=[33,34]) hG (by kernel_rfl) rfl (st_fa rfl rfl) rfl ?_
  refine QG2.q (bad:=[33,34]) hG (by kernel_rfl) rfl rfl (st_ld one3 rfl (AskC.r2 h3)) rfl ?_
  refine QG2.cq (bad:=[33,34]) hG (by kernel_rfl) (by kernel_rfl) rfl (st_call rfl rfl) (hwm) rfl ?_
  refine QG2.b (bad:=[30,31,32]) hG (by kernel_rfl) rfl (st_fa rfl rfl) rfl ?_
  refine QG2.q (bad:=[30,31,32]) hG (by kernel_rfl) rfl rfl (st_ld one3 rfl (AskC.r3 h3)) rfl ?_
  refine QG2.cq (bad:=[36]) hG (by kernel_rfl) (by kernel_rfl) rfl (st_call rfl rfl) (hwp) rfl ?_
  refine QG2.b (bad:=[35]) hG (by kernel_rfl) rfl (st_fa rfl rfl) rfl ?_
  refine QG2.st (T:=[M.length]) (bad:=[]) hG (by kernel_rfl) (by kernel_rfl) (.inr (all_lt (by kernel_rfl))) rfl (st_st one3 rfl rfl rfl hw4) gw4 ?_
  refine QG2.b (bad:=[]) hG (by kernel_rfl) rfl (st_fa rfl rfl) rfl ?_
  refine QG2.st (T:=[M.length]) (bad:=[]) hG (by kernel_rfl) (by kernel_rfl) (.inr (all_lt (by kernel_rfl))) rfl (st_st one3 rfl rfl rfl hw5) gw5 ?_
  refine QG2.b (bad:=[]) hG (by kernel_rfl) rfl (st_fa rfl rfl) rfl ?_
  refine QG2.st (T:=[M.length]) (bad:=[]) hG (by kernel_rfl) (by kernel_rfl) (.inr (all_lt (by kernel_rfl))) rfl (st_st one4 rfl rfl rfl hw6) gw6 ?_
  refine QG2.done (by kernel_rfl) rfl ?_
  refine AWX.seq (AWX.region (AOX.q hG rfl (st_lda row24 rfl hr6) rfl (AOX.qc hG rfl (st_call rfl rfl) (hc7) rfl (AOX.q hG rfl (st_mv rfl) rfl (AOX.q hG rfl (st_ex rfl rfl) rfl (AOX.q hG rfl (st_ex rfl rfl) rfl (AOX.q hG rfl (st_ex rfl rfl) rfl (AOX.qv hG rfl hal rfl (AOX.qs hG rfl (st_sta (n:=4) row28 rfl rfl rfl hw8) (AOX.q hG rfl (st_as rfl) rfl (AOX.q hG rfl (st_as rfl) rfl (AOX.nil ?_))))))))))))
  refine AWX.seq (AWX.region (AOX.q hG rfl (st_lda row28 rfl (CfB.r h9)) rfl (AOX.q hG rfl (st_mv rfl) rfl (AOX.q hG rfl (st_mv rfl) rfl (AOX.q hG rfl (st_mv rfl) rfl (AOX.qc hG rfl (st_call rfl rfl) (hc10) rfl (AOX.q hG rfl (st_mv rfl) rfl (AOX.q hG rfl (st_ex rfl rfl) rfl (AOX.q hG rfl (st_ex rfl rfl) rfl (AOX.q hG rfl (st_as rfl) rfl (AOX.q hG rfl (st_as rfl) rfl (AOX.nil ?_))))))))))))
  refine AWX.seq (AWX.seq (AWX.region (AOX.q hG rfl (st_mv rfl) rfl (AOX.q hG rfl (st_bin rfl rfl (b_neqF rfl)) rfl (AOX.q hG rfl (st_mv rfl) rfl (AOX.qg hG rfl rfl (st_mv rfl) rfl (AOX.qg hG rfl rfl (st_len sl22 rfl) rfl (AOX.qg hG rfl rfl (st_bin rfl rfl (b_eqlF (by omega))) rfl (AOX.q hG rfl (st_pickF rfl rfl) rfl (AOX.nil ?_))))))))))
  refine AWX.cf rfl (AWX.skip ?_)
  refine AWX.seq (AWX.region (AOX.q hG rfl (st_mv rfl) rfl (AOX.q hG rfl (st_mv rfl) rfl (AOX.q hG rfl (st_mv rfl) rfl (AOX.q hG rfl (st_len sl22 rfl) rfl (AOX.qc hG rfl (st_call rfl rfl) (hwa) rfl (AOX.q hG rfl (st_ix sl22 rfl rfl (show i < N by omega)) rfl (AOX.q hG rfl (st_ld one5 rfl hld) rfl (AOX.q hG rfl (st_mv rfl) rfl (AOX.q hG rfl (st_bin rfl rfl hxo) rfl (AOX.q hG rfl (st_ix sl22 rfl rfl (show i < N by omega)) rfl (AOX.qs hG rfl (st_st one5 rfl rfl rfl hw11) (AOX.nil ?_)))))))))))))
  refine AWX.seq (AWX.region (AOX.q hG rfl (st_fa rfl rfl) rfl (AOX.qs hG rfl (st_st one4 rfl rfl rfl hw12) (AOX.nil ?_))))
  refine AWX.seq (AWX.region (AOX.q hG rfl (st_lda row28 rfl (CfB.r h12)) rfl (AOX.q hG rfl (st_mv rfl) rfl (AOX.q hG rfl (st_mv rfl) rfl (AOX.q hG rfl (st_mv rfl) rfl (AOX.qc hG rfl (st_call rfl rfl) (hc13) rfl (AOX.q hG rfl (st_mv rfl) rfl (AOX.q hG rfl (st_ex rfl rfl) rfl (AOX.q hG rfl (st_ex rfl rfl) rfl (AOX.q hG rfl (st_as rfl) rfl (AOX.q hG rfl (st_as rfl) rfl (AOX.nil ?_))))))))))))
  refine AWX.seq (AWX.region (AOX.q hG rfl (st_mv rfl) rfl (AOX.q hG rfl (st_bin rfl rfl (b_eqlT rfl)) rfl (AOX.q hG rfl (st_mv rfl) rfl (AOX.qg hG rfl rfl (st_mv rfl) rfl (AOX.qg hG rfl rfl (st_lenS sl22 hnil rfl) rfl (AOX.qg hG rfl rfl (st_bin rfl rfl (b_eqlT rfl)) rfl (AOX.q hG rfl (st_pickT rfl rfl) rfl (AOX.q hG rfl (st_mv rfl) rfl (AOX.qn rfl rfl rfl rfl (AOX.qn rfl rfl rfl rfl (AOX.qn rfl rfl rfl rfl (AOX.qn rfl rfl rfl rfl (AOX.qn rfl rfl rfl rfl (AOX.qn rfl rfl rfl rfl (AOX.qn rfl rfl rfl rfl (AOX.qn rfl rfl rfl rfl (AOX.qn rfl rfl rfl rfl (AOX.q hG rfl (st_pickT rfl rfl) rfl (AOX.q hG rfl (st_as rfl) rfl (AOX.nil ?_)))))))))))))))))))))
  refine AWX.fin rfl rfl
 ·have hne:=spoilt (m:=xs) hE (mode:=mo + 1) (k:=pa + 1) (by omega) hs (by omega) (fun e => ⟨by rw [hil,if_neg (by omega)],hib⟩) (by rw [hsl,hN,hpl]) hsb (by rw [hx]; exact hsne) ⟨hn1,hn2⟩ hst
  have hyb:Bytes ys:=fun m hm => (stepL_ok (back:=true) hE (mode:=mo + 1) (by omega) (xs.length / szOf t + 1) ivs x' (fun e => ⟨by rw [hil,if_neg (by omega)],hib⟩) (by rw [hsl,hN,hpl]) hsb).2 m (by rw [hst]; exact List.mem_append_left _ hm)
  have hneq:∀ {M:Mem},abin noX (tyF 9) M .neq (.str (strOf ys)) (.str (strOf xs)) = some (.bool true,none):=fun {M} => by
   have:=b_neqS (M:=M) (d:=tyF 9) hyb hmb
   rwa [decide_eq_false hne] at this
  refine AWX.seq (AWX.region (AOX.qv hG rfl (hbox rfl) rfl (AOX.q hG rfl (st_as rfl) rfl (AOX.nil ?_))))
  refine AWX.seq (AWX.seq (AWX.region (AOX.qc hG rfl (st_call rfl rfl) (hc2) rfl (AOX.q hG rfl (st_not rfl) rfl (AOX.nil ?_)))))
  refine AWX.cf rfl (AWX.skip ?_)
  refine AWX.seq (AWX.seq (AWX.region (AOX.q hG rfl (st_mv rfl) rfl (AOX.q hG rfl (st_lenS sl22 hm.s rfl) rfl (AOX.q hG rfl (st_bin rfl rfl (b_gtrF (by omega))) rfl (AOX.q hG rfl (st_mv rfl) rfl (AOX.qg hG rfl rfl (st_lda row24 rfl hr2) rfl (AOX.qgc hG rfl rfl (st_call rfl rfl) (hc3) rfl (AOX.qg hG rfl rfl (st_not rfl) rfl (AOX.q hG rfl (st_pickF rfl rfl) rfl (AOX.q hG rfl (st_mv rfl) rfl (AOX.qg hG rfl rfl (st_mv rfl) rfl (AOX.qg hG rfl rfl (st_bin rfl rfl (b_eqlF (by omega))) rfl (AOX.q hG rfl (st_pickF rfl rfl) rfl (AOX.nil ?_)))))))))))))))
  refine AWX.cf rfl (AWX.skip ?_)
  refine AWX.seq (AWX.draw ?_)
  refine QG2.b (bad:=[33,34]) hG (by kernel_rfl) rfl (st_fa rfl rfl) rfl ?_
  refine QG2.q (bad:=[33,34]) hG (by kernel_rfl) rfl rfl (st_ld one3 rfl (AskC.r2 h3)) rfl ?_
  refine QG2.cq (bad:=[33,34]) hG (by kernel_rfl) (by kernel_rfl) rfl (st_call rfl rfl) (hwm) rfl ?_
  refine QG2.b (bad:=[30,31,32]) hG (by kernel_rfl) rfl (st_fa rfl rfl) rfl ?_
  refine QG2.q (bad:=[30,31,32]) hG (by kernel_rfl) rfl rfl (st_ld one3 rfl (AskC.r3 h3)) rfl ?_
  refine QG2.cq (bad:=[36]) hG (by kernel_rfl) (by kernel_rfl) rfl (st_call rfl rfl) (hwp) rfl ?_
  refine QG2.b (bad:=[35]) hG (by kernel_rfl) rfl (st_fa rfl rfl) rfl ?_
  refine QG2.st (T:=[M.length]) (bad:=[]) hG (by kernel_rfl) (by kernel_rfl) (.inr (all_lt (by kernel_rfl))) rfl (st_st one3 rfl rfl rfl hw4) gw4 ?_
  refine QG2.b (bad:=[]) hG (by kernel_rfl) rfl (st_fa rfl rfl) rfl ?_
  refine QG2.st (T:=[M.length]) (bad:=[]) hG (by kernel_rfl) (by kernel_rfl) (.inr (all_lt (by kernel_rfl))) rfl (st_st one3 rfl rfl rfl hw5) gw5 ?_
  refine QG2.b (bad:=[]) hG (by kernel_rfl) rfl (st_fa rfl rfl) rfl ?_
  refine QG2.st (T:=[M.length]) (bad:=[]) hG (by kernel_rfl) (by kernel_rfl) (.inr (all_lt (by kernel_rfl))) rfl (st_st one4 rfl rfl rfl hw6) gw6 ?_
  refine QG2.done (by kernel_rfl) rfl ?_
  refine AWX.seq (AWX.region (AOX.q hG rfl (st_lda row24 rfl hr6) rfl (AOX.qc hG rfl (st_call rfl rfl) (hc7) rfl (AOX.q hG rfl (st_mv rfl) rfl (AOX.q hG rfl (st_ex rfl rfl) rfl (AOX.q hG rfl (st_ex rfl rfl) rfl (AOX.q hG rfl (st_ex rfl rfl) rfl (AOX.qv hG rfl hal rfl (AOX.qs hG rfl (st_sta (n:=4) row28 rfl rfl rfl hw8) (AOX.q hG rfl (st_as rfl) rfl (AOX.q hG rfl (st_as rfl) rfl (AOX.nil ?_))))))))))))
  refine AWX.seq (AWX.region (AOX.q hG rfl (st_lda row28 rfl (CfB.r h9)) rfl (AOX.q hG rfl (st_mv rfl) rfl (AOX.q hG rfl (st_mv rfl) rfl (AOX.q hG rfl (st_mv rfl) rfl (AOX.qc hG rfl (st_call rfl rfl) (hc10) rfl (AOX.q hG rfl (st_mv rfl) rfl (AOX.q hG rfl (st_ex rfl rfl) rfl (AOX.q hG rfl (st_ex rfl rfl) rfl (AOX.q hG rfl (st_as rfl) rfl (AOX.q hG rfl (st_as rfl) rfl (AOX.nil ?_))))))))))))
  refine AWX.seq (AWX.seq (AWX.region (AOX.q hG rfl (st_mv rfl) rfl (AOX.q hG rfl (st_bin rfl rfl (b_neqF rfl)) rfl (AOX.q hG rfl (st_mv rfl) rfl (AOX.qg hG rfl rfl (st_mv rfl) rfl (AOX.qg hG rfl rfl (st_len sl22 rfl) rfl (AOX.qg hG rfl rfl (st_bin rfl rfl (b_eqlF (by omega))) rfl (AOX.q hG rfl (st_pickF rfl rfl) rfl (AOX.nil ?_))))))))))
  refine AWX.cf rfl (AWX.skip ?_)
  refine AWX.seq (AWX.region (AOX.q hG rfl (st_mv rfl) rfl (AOX.q hG rfl (st_mv rfl) rfl (AOX.q hG rfl (st_mv rfl) rfl (AOX.q hG rfl (st_len sl22 rfl) rfl (AOX.qc hG rfl (st_call rfl rfl) (hwa) rfl (AOX.q hG rfl (st_ix sl22 rfl rfl (show i < N by omega)) rfl (AOX.q hG rfl (st_ld one5 rfl hld) rfl (AOX.q hG rfl (st_mv rfl) rfl (AOX.q hG rfl (st_bin rfl rfl hxo) rfl (AOX.q hG rfl (st_ix sl22 rfl rfl (show i < N by omega)) rfl (AOX.qs hG rfl (st_st one5 rfl rfl rfl hw11) (AOX.nil ?_)))))))))))))
  refine AWX.seq (AWX.region (AOX.q hG rfl (st_fa rfl rfl) rfl (AOX.qs hG rfl (st_st one4 rfl rfl rfl hw12) (AOX.nil ?_))))
  refine AWX.seq (AWX.region (AOX.q hG rfl (st_lda row28 rfl (CfB.r h12)) rfl (AOX.q hG rfl (st_mv rfl) rfl (AOX.q hG rfl (st_mv rfl) rfl (AOX.q hG rfl (st_mv rfl) rfl (AOX.qc hG rfl (st_call rfl rfl) (hc13) rfl (AOX.q hG rfl (st_mv rfl) rfl (AOX.q hG rfl (st_ex rfl rfl) rfl (AOX.q hG rfl (st_ex rfl rfl) rfl (AOX.q hG rfl (st_as rfl) rfl (AOX.q hG rfl (st_as rfl) rfl (AOX.nil ?_))))))))))))
  refine AWX.seq (AWX.region (AOX.q hG rfl (st_mv rfl) rfl (AOX.q hG rfl (st_bin rfl rfl (b_eqlF (by omega))) rfl (AOX.q hG rfl (st_mv rfl) rfl (AOX.qn rfl rfl rfl rfl (AOX.qn rfl rfl rfl rfl (AOX.qn rfl rfl rfl rfl (AOX.q hG rfl (st_pickF rfl rfl) rfl (AOX.q hG rfl (st_mv rfl) rfl (AOX.qg hG rfl rfl (st_mv rfl) rfl (AOX.qg hG rfl rfl (st_bin rfl rfl (b_eqlT rfl)) rfl (AOX.qg hG rfl rfl (st_mv rfl) rfl (AOX.qg hG rfl rfl (st_mv rfl) rfl (AOX.qg hG rfl rfl (st_cv rfl (cv_S hys.r)) rfl (AOX.qg hG rfl rfl (st_mv rfl) rfl (AOX.qg hG rfl rfl (st_cv rfl (cv_S hm13.s.r)) rfl (AOX.qg hG rfl rfl (st_bin rfl rfl hneq) rfl (AOX.qg hG rfl rfl (st_pickT rfl rfl) rfl (AOX.q hG rfl (st_pickF rfl rfl) rfl (AOX.q hG rfl (st_as rfl) rfl (AOX.nil ?_)))))))))))))))))))))
  refine AWX.fin rfl rfl
end
end
end
section
open Go.Proofs Go.RowKit
def ArgS (W:World) (v:Value) (xs:List Int):Prop:=(v = .slice none 0 0 ∧ xs = []) ∨
 ∃ (b off len:Nat) (zs:List Int) (cur:Array Value) (e:TypeId) (fr:Nat × Nat),v = .slice (some ⟨b,off,none⟩) len zs.length ∧ len ≤ zs.length ∧ W.heap[b]? = some (.cells cur e fr) ∧ (zs.map fun n => Value.int .u8 n) <+: cur.toList.drop off ∧ Bytes zs ∧ xs = zs.take len
def ArgK (W:World) (k:Blk) (p:Option Place):Prop:=(k = .dead ∧ p = none) ∨
 ∃ (zs:List Int) (pl:Place) (cur:Array Value) (e:TypeId) (fr:Nat × Nat),k = .ro (u8s' zs) ∧ p = some pl ∧ W.heap[pl.1]? = some (.cells cur e fr) ∧ (zs.map fun n => Value.int .u8 n) <+: cur.toList.drop pl.2.1 ∧ zs.length ≤ pl.2.2.1
theorem concs_u8s {φ:Pl}:∀ zs:List Int,concs φ (u8s' zs) = some (zs.map fun n => Value.int .u8 n)
 | [] => by simp [u8s',concs]
 | z :: zs => by
  have:=concs_u8s (φ:=φ) zs
  simp only [u8s',List.map_cons] at this ⊢
  exact concs_cons.2 ⟨_,_,by simp [V.conc],this,rfl⟩
theorem ArgS.bytes {W:World} {v:Value} {xs:List Int} (h:ArgS W v xs):Bytes xs:=by
 rcases h with ⟨_,rfl⟩ | ⟨b,off,len,zs,cur,e,fr,_,_,_,_,h1,rfl⟩
 ·intro n hn; cases hn
 ·exact fun n hn => h1 n (List.mem_of_mem_take hn)
theorem ArgS.k {W:World} {v:Value} {xs:List Int} (h:ArgS W v xs):∃ k p,ArgK W k p ∧ ∀ (M:Mem) (φ:Pl) (b:Nat),M[b]? = some k → φ b = p → ∃ vv:V,vv.conc φ = some v ∧ IsC M vv xs:=by
 rcases h with ⟨rfl,rfl⟩ | ⟨b,off,len,zs,cur,e,fr,rfl,hl,hh,hp,hb,rfl⟩
 ·exact ⟨.dead,none,.inl ⟨rfl,rfl⟩,fun M φ b _ _ => ⟨.nilsl,by simp [V.conc],.inl ⟨rfl,rfl⟩⟩⟩
 ·refine ⟨.ro (u8s' zs),some (b,off,zs.length,0),.inr ⟨zs,_,cur,e,fr,rfl,rfl,hh,hp,Nat.le_refl _⟩,fun M φ c hM hφ => ⟨.sl c 0 len (some zs.length),by simp [V.conc,hφ],.inr ⟨c,0,zs.length,?_,?_,?_⟩⟩⟩
  ·rw [List.length_take,Nat.min_eq_left hl]
  ·rw [List.length_take,Nat.min_eq_left hl]
   unfold rd
   rw [hM]
   simp only [Option.bind_some,Blk.cells]
   rw [if_pos (by rw [u8s'_len]; omega)]
   simp [u8s']
  ·rw [List.length_take]; omega
theorem mr_start {G:GF} {W:World} {k0 k1 k2:Blk} {p0 p1 p2:Option Place} (h0:ArgK W k0 p0) (h1:ArgK W k1 p1) (h2:ArgK W k2 p2)
  (hlaid:∃ (cur:Array Value) (e:TypeId) (fr:Nat × Nat),W.heap[1]? = some (.cells cur e fr) ∧ [Value.int .u8 1,.int .u8 2,.int .u8 4,.int .u8 8,.int .u8 16,.int .u8 32,.int .u8 64,.int .u8 128] <+: cur.toList) :
  MR G ⟨fun g => g < W.heap.size,0,fun _ => none⟩ W (fun i => match i with | 0 => p0 | 1 => p1 | 2 => p2 | _ => none) [k0,k1,k2] W:=by
 have hk:∀ (i:Nat) (k:Blk),[k0,k1,k2][i]? = some k → ArgK W k ((fun i => match i with | 0 => p0 | 1 => p1 | 2 => p2 | _ => none:Pl) i):=by
  intro i k hi
  match i,hi with
  | 0,hi => simp only [List.getElem?_cons_zero,Option.some.injEq] at hi; subst hi; exact h0
  | 1,hi => simp only [List.getElem?_cons_succ,List.getElem?_cons_zero,Option.some.injEq] at hi; subst hi; exact h1
  | 2,hi => simp only [List.getElem?_cons_succ,List.getElem?_cons_zero,Option.some.injEq] at hi; subst hi; exact h2
  | i + 3,hi => simp at hi
 generalize hφ:(fun i => match i with | 0 => p0 | 1 => p1 | 2 => p2 | _ => none:Pl) = φ at hk
 have hlt:∀ (g:Nat) (o:Obj),W.heap[g]? = some o → g < W.heap.size:=fun g o h => (Array.getElem?_eq_some_iff.1 h).1
 refine ⟨rfl,rfl,rfl,Nat.le_refl _,fun g h => h,fun g h => rfl,?_,?_,Nat.zero_le _,fun b hb => absurd hb (Nat.not_lt_zero b),?_,?_,?_,?_⟩
 ·intro g cs hg
  unfold lay at hg
  split at hg
  ·injection hg with hg
   subst hg
   obtain ⟨cur,e,fr,a1,a2⟩:=hlaid
   exact ⟨hlt _ _ a1,_,cur,e,fr,by simp [concs,V.conc],a1,a2⟩
  ·cases hg
 ·intro i hi
  subst hφ
  match i,hi with
  | i + 3,_ => rfl
 ·intro i cs gs hi
  rcases hk i _ hi with ⟨h,_⟩ | ⟨_,_,_,_,_,h,_⟩ <;> cases h
 ·intro i j cs gs k p q hi
  rcases hk i _ hi with ⟨h,_⟩ | ⟨_,_,_,_,_,h,_⟩ <;> cases h
 ·intro i cs hi
  rcases hk i _ hi with ⟨h,_⟩ | ⟨zs,pl,cur,e,fr,h,a1,a2,a3,a4⟩
  ·cases h
  ·injection h with h
   subst h
   exact ⟨pl,_,cur,e,fr,a1,concs_u8s zs,a2,a3,by rw [u8s'_len]; exact a4⟩
 ·intro i d v hi
  rcases hk i _ hi with ⟨h,_⟩ | ⟨_,_,_,_,_,h,_⟩ <;> cases h
theorem top_all {G:GF} (hG:GOK G) (hkn:KnownOK G) (hca:CiphAll G) {M:Mem} {vk vb vm:V} {ks bs xs:List Int} {tag n mode pad at':Int} {back:Bool} {by':Nat} (hk:IsS M vk ks) (hkb:Bytes ks) (hb:IsS M vb bs) (hbb:Bytes bs) (hm:IsC M vm xs) (hmb:Bytes xs) (hby:by' < 256) :
  ∃ M2,ACall Tryz.prog G 3 [.agg (AskC tag n mode pad back vk vb),vm,.int .i64 at',.int .u8 by'] M (.bool true) M2:=by
 by_cases h:xs.length ≤ 100 ∧ ks.length ≤ 100 ∧ bs.length ≤ 100 ∧ by' ≠ 0
 ·obtain ⟨h1,h2,h3,h4⟩:=h
  obtain ⟨M2,hc,_⟩:=top_main hG hkn hca (tag:=tag) (n:=n) (mode:=mode) (pad:=pad) (at':=at') (back:=back) hk hkb hb hbb hm hmb hby h1 h2 h3 h4
  exact ⟨M2,hc⟩
 ·obtain ⟨M2,hc,_⟩:=top_few hG hkn (tag:=tag) (n:=n) (mode:=mode) (pad:=pad) (at':=at') (back:=back) hk hb hm.s h
  exact ⟨M2,hc⟩
theorem top_calls {G:GF} (hG:GOK G) (hkn:KnownOK G) (hca:CiphAll G) {W:World} {uk ub um:Value} {ks bs xs:List Int} {tag n mode pad at':Int} {back:Bool} {by':Nat} (hk:ArgS W uk ks) (hb:ArgS W ub bs) (hm:ArgS W um xs) (hby:by' < 256)
  (hlaid:∃ (cur:Array Value) (e:TypeId) (fr:Nat × Nat),W.heap[1]? = some (.cells cur e fr) ∧ [Value.int .u8 1,.int .u8 2,.int .u8 4,.int .u8 8,.int .u8 16,.int .u8 32,.int .u8 64,.int .u8 128] <+: cur.toList) :
  Calls Tryz.prog 3 #[.agg #[.int .i64 tag,.int .i64 n,.int .i64 mode,.int .i64 pad,.bool back,uk,ub],um,.int .i64 at',.int .u8 by'] W fun e W' => e = .returned (.bool true) ∧ Below W.heap.size W W':=by
 obtain ⟨k0,p0,a0,b0⟩:=hk.k
 obtain ⟨k1,p1,a1,b1⟩:=hb.k
 obtain ⟨k2,p2,a2,b2⟩:=hm.k
 have hmr:=mr_start (G:=G) a0 a1 a2 hlaid
 obtain ⟨vk,c0,d0⟩:=b0 [k0,k1,k2] (fun i => match i with | 0 => p0 | 1 => p1 | 2 => p2 | _ => none) 0 rfl rfl
 obtain ⟨vb,c1,d1⟩:=b1 [k0,k1,k2] (fun i => match i with | 0 => p0 | 1 => p1 | 2 => p2 | _ => none) 1 rfl rfl
 obtain ⟨vm,c2,d2⟩:=b2 [k0,k1,k2] (fun i => match i with | 0 => p0 | 1 => p1 | 2 => p2 | _ => none) 2 rfl rfl
 obtain ⟨M2,hc⟩:=top_all hG hkn hca (tag:=tag) (n:=n) (mode:=mode) (pad:=pad) (at':=at') (back:=back) d0.s hk.bytes d1.s hb.bytes d2 hm.bytes hby
 generalize (fun i => match i with | 0 => p0 | 1 => p1 | 2 => p2 | _ => none:Pl) = φ at hmr c0 c1 c2
 have hus:concs φ [.agg (AskC tag n mode pad back vk vb),vm,.int .i64 at',.int .u8 by'] = some [.agg #[.int .i64 tag,.int .i64 n,.int .i64 mode,.int .i64 pad,.bool back,uk,ub],um,.int .i64 at',.int .u8 by']:=by
  simp [concs,V.conc,AskC,c0,c1,c2]
 refine Calls.mono (hc.2 _ W φ W _ hmr hus) ?_
 intro e W' hb
 cases e with
 | panicked c => exact hb.elim
 | outgrown => exact hb.elim
 | returned u =>
  obtain ⟨φ',_,hu,hM⟩:=hb
  simp only [V.conc,Option.some.injEq] at hu
  subst hu
  exact ⟨rfl,hM.os,hM.tape,hM.output,hM.size,fun g hg => hM.kept g hg⟩
end
end Go.Proofs.YthajgdmcjfmjoaaGreatDoor.Rel
