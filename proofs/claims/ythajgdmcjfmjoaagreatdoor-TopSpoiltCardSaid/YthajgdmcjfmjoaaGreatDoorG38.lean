/- TopSpoilt: a padded message of which one byte was spoilt on its way is another one, or refused, never the same: the given tied card of the statement, for every input. Conditions: none beyond those of the card itself. -/
import Derived.Test.YthajgdmcjfmjoaaGreatDoorCards
import Derived.Test.YthajgdmcjfmjoaaGreatDoorTie
import Derived.ShutString
import Derived.SizedLaws
import Derived.Stop.Joined
import Derived.Test.YthajgdmcjfmjoaaGreatDoorG17
import Derived.Test.YthajgdmcjfmjoaaGreatDoorG30
import Derived.Test.YthajgdmcjfmjoaaGreatDoorG37
set_option linter.all false
namespace Go.Proofs.YthajgdmcjfmjoaaGreatDoor.topSpoilt
open Go.ChangeShapes Go.WideShapes Go.ChangeAt Go.RowKit Go.Proofs.YthajgdmcjfmjoaaGreatDoor.Rel
set_option linter.unusedVariables false
theorem own:ownKnob Tryz.prog.godebug = none:=by kernel_rfl
theorem laidOut:laidOutB Tryz.prog = true:=by kernel_rfl
theorem door_met (os : Os) (args : Array Value) : laidMetH Tryz.prog [("scrim/box.ones", Rows.laid_scrim_box_ones)] ((World.doorLaid Tryz.prog 14 os).forCall (fun _ _ => 0) ⟨#[], args, []⟩).memory :=
 laidMetH_of_parts3 (fuel:=8) (laidMet_of_run' 8 (by kernel_rfl) (by kernel_rfl)) (by kernel_rfl) (by kernel_rfl)
set_option maxRecDepth 100000 in
theorem lifted (os:Os) (started:os.Started) (H:Type) (enc:TypeId × Value → H) :
  ReturnsInHanded {} Tryz.checked os 3 .any (fun w args => (Rows.topSpoiltSpec.pre enc Tryz.prog Tryz.f3 [] false w args ∧ laidMetH Tryz.prog [("scrim/box.ones", Rows.laid_scrim_box_ones)] w) ∧ sizedMet enc Tryz.prog Tryz.f3 (OpenSpec.ofChange Rows.topSpoiltSpec) false w args)
   (Rows.topSpoiltSpec.post enc Tryz.prog Tryz.f3 false true false false):=by
 refine returnsInHanded_of_change_and (C := Tryz.checked) (X := fun w _ => laidMetH Tryz.prog [("scrim/box.ones", Rows.laid_scrim_box_ones)] w) (fun _ _ _ hh h => h.of_heap hh) own started (by kernel_rfl) Tryz.func3
  (ChangeSpec.witness_shaped (enc := enc) (C := Tryz.checked) (os := os) (X := fun w _ => laidMetH Tryz.prog [("scrim/box.ones", Rows.laid_scrim_box_ones)] w) false (World.doorLaid Tryz.prog 14 os)
   #[.agg #[.int .i64 0,.int .i64 0,.int .i64 0,.int .i64 0,.bool false,.slice none 0 0,.slice none 0 0],.slice none 0 0,.int .i64 0,.int .u8 0] 8 rfl (World.shaped_of_RefB (by kernel_rfl) (by kernel_rfl)) (by kernel_rfl) (by kernel_rfl) (by kernel_rfl) (door_met os _)) ?_
 intro W base args ds gs before hval0 hW _ _ hL _
 have hval:∀ (j:Nat) t v,Tryz.f3.params[j]? = some t → args[j]? = some v → Value.okWide Tryz.prog W .any base t v:=hval0
 have hW':=hW
 obtain ⟨p,q,hA0,hV,rfl,hfz,hnd⟩:=hW
 have hA:DataW.TrodAll enc Tryz.prog W 0 (fun _ => true) true Tryz.f3.params.toList args.toList ds p:=hA0
 rw [Tryz.params3] at hA hval
 obtain ⟨v0,vs0,d0,ds0,p0,q0,hargs,rfl,rfl,h0,r0⟩:=trodAll_cons hA
 obtain ⟨v1,vs1,d1,ds1,p1,q1,rfl,rfl,rfl,h1,r1⟩:=trodAll_cons r0
 obtain ⟨v2,vs2,d2,ds2,p2,q2,rfl,rfl,rfl,h2,r2⟩:=trodAll_cons r1
 obtain ⟨v3,vs3,d3,ds3,p3,q3,rfl,rfl,rfl,h3,r3⟩:=trodAll_cons r2
 obtain ⟨rfl,rfl,rfl⟩:=trodAll_nil r3
 obtain rfl:args = #[v0,v1,v2,v3]:=by cases args; simp_all
 obtain ⟨rfl,rfl⟩:=trodVars_none hV
 have lt0:∀ x ∈ p0,x.block < W.heap.size:=by obtain ⟨m,hm⟩:=h0; exact DataW.trod_lt m _ _ _ hm
 have lt1:∀ x ∈ p1,x.block < W.heap.size:=by obtain ⟨m,hm⟩:=h1; exact DataW.trod_lt m _ _ _ hm
 have lt2:∀ x ∈ p2,x.block < W.heap.size:=by obtain ⟨m,hm⟩:=h2; exact DataW.trod_lt m _ _ _ hm
 have lt3:∀ x ∈ p3,x.block < W.heap.size:=by obtain ⟨m,hm⟩:=h3; exact DataW.trod_lt m _ _ _ hm
 obtain ⟨tag,n,mode,pad,back,uk,ub,ks,bs,e0,ak,ab⟩:∃ (tag n mode pad:Int) (back:Bool) (uk ub:Value) (ks bs:List Int),v0 = .agg #[.int .i64 tag,.int .i64 n,.int .i64 mode,.int .i64 pad,.bool back,uk,ub] ∧ ArgS W uk ks ∧ ArgS W ub bs:=by
  obtain ⟨m,hm⟩:=h0
  exact arg_struct (hval 0 24 v0 rfl rfl) hm
 obtain ⟨xs,am⟩:∃ xs,ArgS W v1 xs:=by
  obtain ⟨m,hm⟩:=h1
  have hc:Cell.okWide Tryz.prog W .any base 22 v1:=by
   have:=hval 1 22 v1 rfl rfl
   simpa only [Value.okWide,Tryz.underlying22] using this
  obtain ⟨a,len,cap,rfl⟩:=okWide_slice Tryz.underlying22 (hval 1 22 v1 rfl rfl)
  exact arg_slice hc hm
 obtain ⟨at',e2⟩:=okWide_int Tryz.underlying3 (hval 2 3 v2 rfl rfl)
 obtain ⟨by',e3,w3⟩:∃ by':Nat,v3 = .int .u8 by' ∧ by' < 256:=by
  obtain ⟨b,rfl,_,_,hw⟩:=open_int Tryz.underlying5 (hval 3 5 v3 rfl rfl) h3
  have:=bounds_u8 hw
  exact ⟨b.toNat,by rw [Int.toNat_of_nonneg this.1],by omega⟩
 have hl:=of_laid hL
 clear hA0 hval0 hval hL
 subst e0 e2 e3
 refine (top_calls GG_ok known_ok all_ciph ak ab am w3 hl).mono fun e W' ⟨he,bel⟩ => ?_
 subst he
 exact ⟨_,rfl,_,_,_,[],_,[],hW',trodAll_mk1 (shut_bool Tryz.underlying4 _),(trodAll_cons_mk (Below.trod laidOut (by kernel_rfl) (of_decide_eq_true (by kernel_rfl)) h0 bel lt0) (trodAll_cons_mk (Below.trod laidOut (by kernel_rfl) (of_decide_eq_true (by kernel_rfl)) h1 bel lt1) (trodAll_cons_mk (Below.trod laidOut (by kernel_rfl) (of_decide_eq_true (by kernel_rfl)) h2 bel lt2) (trodAll_cons_mk (Below.trod laidOut (by kernel_rfl) (of_decide_eq_true (by kernel_rfl)) h3 bel lt3) trodAll_mk0)))),rfl,bel.frame _,fun h => by cases h⟩
theorem over:Rows.TopSpoiltSaid :=
 OpenClaim.holds_of_wide 3 Tryz.f3 rfl rfl rfl rfl rfl rfl rfl ⟨rfl,rfl,rfl,rfl,rfl⟩ rfl rfl rfl rfl rfl (by kernel_rfl) Tryz.func3 (by kernel_rfl)
  (of_decide_eq_true (by kernel_rfl)) (by unfold Func.isWrapper; first | (rw [if_pos (by decide +kernel)]; kernel_rfl) | (rw [if_neg (by decide +kernel)]; exact ⟨rfl,rfl⟩))
  (fun os started H enc _ => lifted os started H enc)
end Go.Proofs.YthajgdmcjfmjoaaGreatDoor.topSpoilt
namespace Go.Proofs.YthajgdmcjfmjoaaGreatDoor
theorem topSpoilt_holds:Rows.TopSpoiltCardSaid :=
 Claim7.holds_tied_plain_at .later [] [.data] true (true, "e20cb66bcc8fdbadd60beb97b8c6186d3cbe1a6f3cfe8acbcf6900bffc243ac4") true
  topSpoilt.over (fun _ h => by cases h) (by kernel_rfl) (fun _ h => by cases h) topSpoilt_row_tie rfl ⟨rfl,rfl⟩ (by kernel_rfl) rfl
  (fun f fn hf hfn => by
   obtain rfl : f = 3 := Option.some.inj ((show Tryz.prog.funcNamed "scrim/scrimtop.TopSpoilt" = some 3 by kernel_rfl).symm.trans hf) |>.symm
   obtain rfl:fn = Tryz.f3:=(Option.some.inj (Tryz.func3.symm.trans hfn)).symm
   exact ⟨by kernel_rfl,fun j t ht => by
    rw [Tryz.params3] at ht
    have hm:t ∈ [24,22,3,5]:=by simpa using Array.mem_of_getElem? ht
    have hall:([24,22,3,5].all fun u => !Tryz.prog.wantsStandIn u) = true:=by kernel_rfl
    exact (show Tryz.prog.wantsStandIn t = false by simpa using List.all_eq_true.1 hall t hm)⟩)
  (by kernel_rfl)
#print axioms topSpoilt_holds
end Go.Proofs.YthajgdmcjfmjoaaGreatDoor
