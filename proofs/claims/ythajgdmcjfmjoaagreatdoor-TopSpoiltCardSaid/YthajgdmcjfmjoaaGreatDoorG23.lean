/- TopSpoilt, part 23 of 38 of its proof: a relative machine (values, memory, an evaluator, all sound against the model), and by it the walks. Conditions: none. -/
import Derived.Test.YthajgdmcjfmjoaaGreatDoorG21
import Derived.Test.YthajgdmcjfmjoaaGreatDoorG22
set_option linter.all false
namespace Go.Proofs.YthajgdmcjfmjoaaGreatDoor.Rel
section
open Go.Proofs
noncomputable section
structure Lm where
 f:Nat
 args:List V
 css:List (List V)
 v:V
 rows:List (List V × Nat)
 bl:List Nat
def lmChk (S:Known) (e:Lm):Bool:=match FN noX tyF fn S 40 e.f e.args (small 0 e.css) with
 | some (v,M,_) => eqV v e.v && blksEq M e.bl e.rows
 | none => false
theorem lm_call {G:GF} (hG:GOK G) {S:Known} (hS:CallOK Tryz.prog G S) {e:Lm} (hk:lmChk S e = true) (hnd:∀ i j b:Nat,e.bl[i]? = some b → e.bl[j]? = some b → i = j) {B:Bd} (hB:B.ins = []) {args:List V} {M:Mem} {v:V} {N:List Blk} (ha:B.subs e.args = some args) (hf:B.fits M e.css)
  (hv:rep [] e.bl M.length e.v = some v) (hN:newsT e.bl M.length e.rows = some N):ACall Tryz.prog G e.f args M v (M ++ N) ∧ GrowL M (M ++ N) []:=by
 unfold lmChk at hk
 split at hk
 ·rename_i v0 M0 ch0 hfn
  simp only [Bool.and_eq_true] at hk
  have e1:=eqV_iff hk.1
  subst e1
  have hc0:=(run hG noX_ok hS 40 _ _ _ _ _ _ hfn).1
  have hnw:=(blksEq_news (base:=M.length) (bl0:=e.bl) hk.2).trans hN
  obtain ⟨ins,nm⟩:=B
  simp only at hB
  subst hB
  refine ⟨⟨hc0.1,fun prot W0 φ w us hM hus => ?_⟩,GrowL.app _ _ (newsT_own hN)⟩
  exact sumcall (B:=⟨[],nm⟩) (rows:=e.css) (bl:=e.bl) (ns:=[]) hc0 ha hf hnd hM hus rfl (rep_any _ hv) (news_any hnw)
 ·cases hk
end
end
section
open Go.Proofs
noncomputable section
def regI:Code → Nat
 | .region i _ _ => i
 | _ => 0
def regO:Code → Option Oper
 | .region _ ops _ => ops[0]?
 | _ => none
def noOp : Oper := ⟨none, .move (.const (.bool true)), 0, "", #[], none⟩
theorem df27:DfShape (fnOf Tryz.f27) 4 5:=⟨regI (cAt [0] (dfTail (fnOf Tryz.f27))),(regO (cAt [0] (dfTail (fnOf Tryz.f27)))).getD noOp,.inr (by kernel_rfl),by kernel_rfl,by kernel_rfl,by kernel_rfl,by kernel_rfl⟩
theorem df28:DfShape (fnOf Tryz.f28) 2 3:=⟨regI (cAt [0] (dfTail (fnOf Tryz.f28))),(regO (cAt [0] (dfTail (fnOf Tryz.f28)))).getD noOp,.inl (by kernel_rfl),by kernel_rfl,by kernel_rfl,by kernel_rfl,by kernel_rfl⟩
def knS:Known:=orS (litS newE) ideaN
def knC:Known:=FN noX tyF fn knS 40
def dfS:Known:=fun f args M => match Nat.beq f 27 with
 | true => dfRun knC (fnOf Tryz.f27) 4 5 args M
 | false => match Nat.beq f 28 with
  | true => dfRun knC (fnOf Tryz.f28) 2 3 args M
  | false => none
def knT:Known:=orS dfS knS
theorem knS_ok:KOK knS:=orA (litS_ok GG_ok idea_ok newE_ok) idea_ok
theorem knC_ok:KOK knC:=fun _ _ _ _ _ _ h => run GG_ok noX_ok knS_ok 40 _ _ _ _ _ _ h
theorem dfS_ok:KOK dfS:=by
 intro f args M v M' ch h
 unfold dfS at h
 split at h
 ·rename_i hf
  obtain rfl:=Nat.eq_of_beq_eq_true hf
  exact dfRun_ok GG_ok knC_ok rfl df27 h
 ·split at h
  ·rename_i hf
   obtain rfl:=Nat.eq_of_beq_eq_true hf
   exact dfRun_ok GG_ok knC_ok rfl df28 h
  ·cases h
theorem knT_ok:KOK knT:=orA dfS_ok knS_ok
end
end
end Go.Proofs.YthajgdmcjfmjoaaGreatDoor.Rel
