/- TopSpoilt, part 17 of 38 of its proof: a relative machine (values, memory, an evaluator, all sound against the model), and by it the walks. Conditions: none. -/
import Derived.Test.YthajgdmcjfmjoaaGreatDoorG16
set_option linter.all false
namespace Go.Proofs.YthajgdmcjfmjoaaGreatDoor.Rel
open Go.Proofs Go.ChangeShapes Go.WideShapes Go.ChangeAt Go.RowKit
theorem gOnes : Tryz.prog.globalNamed "scrim/box.ones" = some 1 := by kernel_rfl
theorem tOnes:(Tryz.prog.globals[1]?).map (·.type) = some 157:=by kernel_rfl
set_option maxRecDepth 100000 in
theorem arg_slice {H:Type} {enc:TypeId × Value → H} {W:World} {base fuel:Nat} {v:Value} {y:DataW H × List MemPlace} (hval:Cell.okWide Tryz.prog W .any base 22 v) (h:DataW.trod enc Tryz.prog W 0 (fun _ => true) true fuel 22 [v] = some y):∃ xs,ArgS W v xs:=by
 rcases open_ints Tryz.underlying22 Tryz.underlying5 (by kernel_rfl) h with ⟨hcs,_⟩ | ⟨x,l,c,zs,hcs,_,hl,hm,hz,_,hcell,hwz⟩
 ·exact ⟨[],.inl ⟨(List.cons.inj hcs).1,rfl⟩⟩
 ·obtain rfl:=(List.cons.inj hcs).1
  simp only [if_true] at hz
  simp only [Cell.okWide,Cell.ok,Tryz.underlying22] at hval
  obtain ⟨_,_,hhas⟩:=hval
  obtain ⟨_,hspot,row,cells,hsh,_⟩:=hhas
  obtain ⟨b,off,sp⟩:=x
  simp only at hspot
  subst hspot
  unfold World.shape? at hsh
  split at hsh
  ·rename_i cur e fr hh
   refine ⟨zs.take l,.inr ⟨b,off,l,zs,cur,e,fr,by rw [hz],by omega,hh,?_,fun n hn => bounds_u8 (hwz n hn),rfl⟩⟩
   rw [List.prefix_iff_getElem?]
   intro i hi
   have hi':i < zs.length:=by simpa using hi
   have h1:=hcell i hi'
   have ha:(⟨b,off,none⟩:Addr).add i = ⟨b,off + i,none⟩:=by
    unfold Addr.add
    split
    ·rename_i h0
     subst h0
     rfl
    ·rfl
   rw [ha] at h1
   simp only [World.cell?,hh] at h1
   simp only [List.getElem_map,List.getElem?_drop,Array.getElem?_toList]
   have h2:zs.getD i 0 = zs[i]:=by simp [List.getD,hi']
   rw [h2] at h1
   simpa using h1
  ·cases hsh
theorem of_laid {W : World} (h : laidMetH Tryz.prog [("scrim/box.ones", YthajgdmcjfmjoaaGreatDoor.Rows.laid_scrim_box_ones)] W) :
  ∃ (cur:Array Value) (e:TypeId) (fr:Nat × Nat),W.heap[1]? = some (.cells cur e fr) ∧ [Value.int .u8 1,.int .u8 2,.int .u8 4,.int .u8 8,.int .u8 16,.int .u8 32,.int .u8 64,.int .u8 128] <+: cur.toList:=by
 rw [MakeChecks.laidMetH_plain _ _ _ (by kernel_rfl)] at h
 obtain ⟨ps,⟨g,t,cs,fuel,p,q,hg,ht,hvar,hd,_,_⟩,_⟩:=h
 obtain rfl:=Option.some.inj (gOnes.symm.trans hg)
 obtain rfl:=Option.some.inj (tOnes.symm.trans ht)
 have hh:∃ e fr,W.heap[1]? = some (.cells cs e fr):=by
  simp only [World.var?,gOnes,Option.bind_some] at hvar
  split at hvar
  ·rename_i c e fr h1
   injection hvar with hvar
   subst hvar
   exact ⟨e,fr,h1⟩
  ·cases hvar
 obtain ⟨e,fr,hh⟩:=hh
 refine ⟨cs,e,fr,hh,?_⟩
 obtain ⟨xs,m,rfl,hx,hl,hxl,hxs⟩:=DataW.trod_array Tryz.underlying157 hd
 have c157:Tryz.prog.cellsOf 157 = 8:=by kernel_rfl
 have c5:Tryz.prog.cellsOf 5 = 1:=by kernel_rfl
 rw [c157] at hl
 rw [c5] at hxs
 obtain ⟨l⟩:=cs
 match l,hl,hxs with
 | [v0,v1,v2,v3,v4,v5,v6,v7],_,hxs =>
  have key:∀ (i:Nat) (v:Value) (hi:i < 8),([v0,v1,v2,v3,v4,v5,v6,v7].drop (i * 1)).take 1 = [v] → ∃ n,v = .int .u8 n ∧ (xs.map (·.1))[i]? = some (.lit (.int .u8 n)):=by
   intro i v hi hv
   have h1:=hxs i hi
   simp only at h1
   rw [hv] at h1
   have hlt:i < xs.length:=by omega
   rw [List.getElem?_eq_getElem hlt] at h1
   obtain ⟨n,h2,h3,_⟩:=DataW.trod_int Tryz.underlying5 h1
   injection h2 with h2
   exact ⟨n,h2,by rw [List.getElem?_map,List.getElem?_eq_getElem hlt,h3]; rfl⟩
  simp only [Prod.mk.injEq] at hx
  obtain ⟨hx1,_⟩:=hx
  unfold YthajgdmcjfmjoaaGreatDoor.Rows.laid_scrim_box_ones at hx1
  injection hx1 with hx1
  rw [← hx1] at key
  obtain ⟨n0,rfl,e0⟩:=key 0 v0 (by omega) rfl
  obtain ⟨n1,rfl,e1⟩:=key 1 v1 (by omega) rfl
  obtain ⟨n2,rfl,e2⟩:=key 2 v2 (by omega) rfl
  obtain ⟨n3,rfl,e3⟩:=key 3 v3 (by omega) rfl
  obtain ⟨n4,rfl,e4⟩:=key 4 v4 (by omega) rfl
  obtain ⟨n5,rfl,e5⟩:=key 5 v5 (by omega) rfl
  obtain ⟨n6,rfl,e6⟩:=key 6 v6 (by omega) rfl
  obtain ⟨n7,rfl,e7⟩:=key 7 v7 (by omega) rfl
  simp only [List.getElem?_cons_zero,List.getElem?_cons_succ,Option.some.injEq,DataW.lit.injEq,Lit.int.injEq,true_and] at e0 e1 e2 e3 e4 e5 e6 e7
  subst e0 e1 e2 e3 e4 e5 e6 e7
  exact List.prefix_refl _
set_option maxRecDepth 100000 in
theorem arg_struct {H:Type} {enc:TypeId × Value → H} {W:World} {base fuel:Nat} {v:Value} {y:DataW H × List MemPlace} (hval:Value.okWide Tryz.prog W .any base 24 v) (h:DataW.trod enc Tryz.prog W 0 (fun _ => true) true fuel 24 v.cells.toList = some y) :
  ∃ (tag n mode pad:Int) (back:Bool) (uk ub:Value) (ks bs:List Int),v = .agg #[.int .i64 tag,.int .i64 n,.int .i64 mode,.int .i64 pad,.bool back,uk,ub] ∧ ArgS W uk ks ∧ ArgS W ub bs:=by
 simp only [Value.okWide,Tryz.underlying24] at hval
 obtain ⟨cs,rfl,hsz,ts,hts,_,hcell⟩:=hval
 have e1:Tryz.prog.cellTypes Tryz.prog.depth 24 = some [3,3,3,3,4,22,22]:=by kernel_rfl
 obtain rfl:=Option.some.inj (e1.symm.trans hts)
 have c24:Tryz.prog.cellsOf 24 = 7:=by kernel_rfl
 have c3:Tryz.prog.cellsOf 3 = 1:=by kernel_rfl
 have c4:Tryz.prog.cellsOf 4 = 1:=by kernel_rfl
 have c22:Tryz.prog.cellsOf 22 = 1:=by kernel_rfl
 rw [c24] at hsz
 have h:DataW.trod enc Tryz.prog W 0 (fun _ => true) true fuel 24 cs.toList = some y:=h
 obtain ⟨xs,m,rfl,_,_,hxl,hfs⟩:=DataW.trod_struct Tryz.underlying24 h
 obtain ⟨l⟩:=cs
 have hsz:l.length = 7:=hsz
 have hxl:xs.length = 7:=hxl
 match l,hsz,xs,hxl with
 | [v0,v1,v2,v3,v4,v5,v6],_,[y0,y1,y2,y3,y4,y5,y6],_ =>
  have t0:=hfs 0 _ rfl
  have t1:=hfs 1 _ rfl
  have t2:=hfs 2 _ rfl
  have t3:=hfs 3 _ rfl
  have t4:=hfs 4 _ rfl
  have t5:=hfs 5 _ rfl
  have t6:=hfs 6 _ rfl
  simp only [c3,c4,c22,List.drop_zero,List.drop_succ_cons,List.take_succ_cons,List.take_zero,List.getElem?_cons_zero,List.getElem?_cons_succ] at t0 t1 t2 t3 t4 t5 t6
  obtain ⟨tag,a0,_,_⟩:=DataW.trod_int Tryz.underlying3 t0
  obtain ⟨n,a1,_,_⟩:=DataW.trod_int Tryz.underlying3 t1
  obtain ⟨mode,a2,_,_⟩:=DataW.trod_int Tryz.underlying3 t2
  obtain ⟨pad,a3,_,_⟩:=DataW.trod_int Tryz.underlying3 t3
  obtain ⟨back,a4,_⟩:=DataW.trod_bool Tryz.underlying4 t4
  obtain rfl:=(List.cons.inj a0).1
  obtain rfl:=(List.cons.inj a1).1
  obtain rfl:=(List.cons.inj a2).1
  obtain rfl:=(List.cons.inj a3).1
  obtain rfl:=(List.cons.inj a4).1
  obtain ⟨u5,b5,w5⟩:=hcell 5 v5 rfl
  obtain ⟨u6,b6,w6⟩:=hcell 6 v6 rfl
  obtain rfl:22 = u5:=Option.some.inj b5
  obtain rfl:22 = u6:=Option.some.inj b6
  obtain ⟨ks,hk⟩:=arg_slice w5 t5
  obtain ⟨bs,hb⟩:=arg_slice w6 t6
  exact ⟨tag,n,mode,pad,back,v5,v6,ks,bs,rfl,hk,hb⟩
end Go.Proofs.YthajgdmcjfmjoaaGreatDoor.Rel
