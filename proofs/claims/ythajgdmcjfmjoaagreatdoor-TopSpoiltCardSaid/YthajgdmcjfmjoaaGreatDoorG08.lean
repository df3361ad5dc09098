/- TopSpoilt, part 8 of 38 of its proof: a relative machine (values, memory, an evaluator, all sound against the model), and by it the walks. Conditions: none. -/
import Derived.Test.YthajgdmcjfmjoaaGreatDoorG07
set_option linter.all false
namespace Go.Proofs.YthajgdmcjfmjoaaGreatDoor.Rel
section
open Go.Proofs
noncomputable section
def expOf (pw:List (Option Nat)):V → Option Nat
 | .int _ n => match eqI n 1 with
  | true => some 0
  | false => none
 | .sym _ j _ _ => match nth pw j with
  | some (some e) => some e
  | _ => none
 | _ => none
def pwOf (tb:Tab) (pw:List (Option Nat)) (b:Blk):Option Nat :=
 match tabOf tb b,b with
 | some _,.eqn d _ => match d with
  | .call g _ _ l => match l with
   | [u,v] => match Nat.beq g 1112,expOf pw u,expOf pw v with
    | true,some x,some y => some (x + y)
    | _,_,_ => none
   | _ => none
  | _ => none
 | _,_ => none
def kON {α:Type} (t:Option Nat) (k:Option Nat → α):α:=match t with
 | some p => kNat p fun x => k (some x)
 | none => k none
theorem kON_eq {α:Type} (t:Option Nat) (k:Option Nat → α):kON t k = k t:=by cases t <;> simp [kON,kNat_eq]
def pws (M:Mem):Tab → List (Option Nat) → (List (Option Nat) → Bool) → Bool :=
 List.rec (motive:=fun _ => Tab → List (Option Nat) → (List (Option Nat) → Bool) → Bool) (fun _ pw k => k pw) (fun b _ ih tb pw k => kOI (tabOf tb b) fun t => kSpine (snocK tb t) fun tb' => kON (pwOf tb pw b) fun e => kSpine (snocK pw e) fun pw => ih tb' pw k) M
def PwI (a:Int) (pw:List (Option Nat)) (acc:List (Option Int)):Prop:=pw.length = acc.length ∧ ∀ (j e:Nat),pw[j]? = some (some e) → ∃ n,acc[j]? = some (some n) ∧ 0 ≤ n ∧ n ≤ 65535 ∧ eN n = eN a ^ e % 65537
theorem exp_num {a:Int} {pw:List (Option Nat)} {acc:List (Option Int)} (h:PwI a pw acc) {v:V} {e:Nat} {n:Int} (he:expOf pw v = some e) (hv:v.num (plOf acc) = some n):0 ≤ n ∧ n ≤ 65535 ∧ eN n = eN a ^ e % 65537:=by
 rcases V.num_cases hv with ⟨k,rfl⟩ | ⟨k,i,lo,hi,p,rfl,hp,rfl,_,_⟩
 ·simp only [expOf] at he
  split at he
  ·rename_i hn
   rw [eqI_iff] at hn; subst hn
   injection he with he; subst he
   exact ⟨by decide,by decide,by rfl⟩
  ·cases he
 ·simp only [expOf,nth_eq] at he
  split at he
  ·rename_i x hx
   injection he with he; subst he
   obtain ⟨m,h1,h2⟩:=h.2 i x hx
   unfold plOf at hp
   rw [h1] at hp
   injection hp with hp; subst hp
   exact h2
  ·cases he
theorem pws_ok {G:GF} (hG:GOK G) (hM:∀ x y:Int,0 ≤ x → x ≤ 65535 → 0 ≤ y → y ≤ 65535 → ∀ j,G 1112 [x,y] j = mulF [x,y]) {a:Int}:∀ (M:Mem) {tb:Tab} {pw:List (Option Nat)} {acc:List (Option Int)} {k:List (Option Nat) → Bool},Fits tb acc → PwI a pw acc → pws M tb pw k = true →
  ∃ pw',PwI a pw' (solve G M acc) ∧ k pw' = true
 | [],_,pw,_,_,_,h,hk => ⟨pw,h,hk⟩
 | b :: M,tb,pw,acc,k,hf,h,hk => by
  have hk':(kOI (tabOf tb b) fun t => kSpine (snocK tb t) fun tb' => kON (pwOf tb pw b) fun e => kSpine (snocK pw e) fun pw => pws M tb' pw k) = true:=hk
  simp only [kOI_eq,kSpine_eq,kON_eq,snocK_eq] at hk'
  refine pws_ok hG hM M (hf.snoc hG b) ⟨by simp [h.1],?_⟩ hk'
  intro j e hj
  by_cases hlt:j < pw.length
  ·rw [List.getElem?_append_left hlt] at hj
   obtain ⟨n,h1,h2⟩:=h.2 j e hj
   exact ⟨n,by rw [List.getElem?_append_left (by have:=h.1; omega)]; exact h1,h2⟩
  ·rw [List.getElem?_append_right (by omega)] at hj
   have hje:j = pw.length:=by
    have:=(List.getElem?_eq_some_iff.1 hj).1; simp at this; omega
   subst hje
   simp only [Nat.sub_self,List.getElem?_cons_zero,Option.some.injEq] at hj
   unfold pwOf at hj
   split at hj
   ·rename_i p d w ht
    obtain ⟨lo,hi⟩:=p
    obtain ⟨d1,n,e1,h2,h3,_⟩:=sol1_ok hG hf ht
    injection e1 with e1 e2; subst e1 e2
    split at hj
    ·rename_i g jj kk l
     split at hj
     ·rename_i u v
      split at hj
      ·rename_i x y hg hx hy
       have:=Nat.eq_of_beq_eq_true hg; subst this
       injection hj with hj; subst hj
       simp only [Def.val,nums,Option.map_eq_some_iff,Option.bind_eq_some_iff] at h2
       obtain ⟨ls,⟨m,hm,l1,⟨m2,hm2,l2,hl2,rfl⟩,rfl⟩,h2⟩:=h2
       injection hl2 with hl2; subst hl2
       injection h2 with _ h2
       obtain ⟨a1,a2,a3⟩:=exp_num h hx hm
       obtain ⟨b1,b2,b3⟩:=exp_num h hy hm2
       rw [hM m m2 a1 a2 b1 b2] at h2
       obtain ⟨c1,c2,c3⟩:=mulF_in a1 a2 b1 b2
       refine ⟨n,?_,by omega,by omega,?_⟩
       ·rw [h.1,List.getElem?_append_right (Nat.le_refl _),Nat.sub_self,h3]; rfl
       ·rw [← h2,c3,a3,b3,← Nat.mul_mod,← Nat.pow_add]
      ·cases hj
     ·cases hj
    ·cases hj
   ·cases hj
def powChk (e:Lvl):Bool:=match e.2.2 with
 | [q] => pws e.2.1 [some (0,65535)] [some 1] fun pw => match nth pw q with
  | some (some x) => Nat.beq x 65535
  | _ => false
 | _ => false
set_option exponentiation.threshold 100000 in
theorem inv_ok {G:GF} (hG:GOK G) (hM:∀ x y:Int,0 ≤ x → x ≤ 65535 → 0 ≤ y → y ≤ 65535 → ∀ j,G 1112 [x,y] j = mulF [x,y]) {e:Lvl} (he:powChk e = true) (hg:∀ ns j,G 1111 ns j = clampG 1111 (numAt (solve G e.2.1 (ns.map some)) e.2.2 j)) {a:Int} (h0:0 ≤ a) (h1:a ≤ 65535) :
  0 ≤ G 1111 [a] 0 ∧ G 1111 [a] 0 ≤ 65535 ∧ eN a * eN (G 1111 [a] 0) % 65537 = 1:=by
 unfold powChk at he
 split at he
 ·rename_i q hq
  have hf:Fits [some (0,65535)] ([a].map some):=fits_nil.cons h0 h1
  obtain ⟨a1,a2,a3⟩:=eN_in h0 h1
  obtain ⟨pw,hp,hk⟩:=pws_ok hG hM (a:=a) e.2.1 hf (pw:=[some 1]) ⟨rfl,fun j x hj => by
   cases j with
   | zero =>
    simp only [List.getElem?_cons_zero,Option.some.injEq] at hj; subst hj
    exact ⟨a,rfl,h0,h1,by rw [Nat.pow_one,Nat.mod_eq_of_lt a2]⟩
   | succ j => simp at hj⟩ he
  rw [nth_eq] at hk
  split at hk
  ·rename_i x hx
   have:=Nat.eq_of_beq_eq_true hk; subst this
   obtain ⟨n,b1,b2,b3,b4⟩:=hp.2 q _ hx
   have hgn:G 1111 [a] 0 = n:=by
    rw [hg,hq]
    have:numAt (solve G e.2.1 ([a].map some)) [q] 0 = n:=by
     simp only [numAt,List.getElem?_cons_zero,b1]
    rw [this]
    unfold clampG
    have e1:gb 1111 = (0,65535):=by decide
    rw [e1,if_pos ⟨b2,b3⟩]
   rw [hgn]
   refine ⟨b2,b3,?_⟩
   rw [b4,Nat.mul_mod_mod]
   have hfm:=fermat (eN a) a1 a2
   rw [Nat.mul_comm]
   exact hfm
  ·cases hk
 ·cases he
def isInv (g:Nat) (M:Mem) (y m:V):Bool:=match defOf M m with
 | some (.call g' 0 _ [z]) => Nat.beq g g' && same z y
 | _ => false
def in16 (v:V):Bool:=leI 0 v.lo && leI v.hi 65535
def ideaX:Rule:=fun M d => match d with
 | .call g 0 k [a,m] => match defOf M a with
  | some (.call g' 0 _ [x,y]) => match Nat.beq g g' && (in16 x && (in16 y && in16 m)) with
   | true => match (Nat.beq g 1112 && (isInv 1111 M y m || isInv 1111 M m y)) || (Nat.beq g 1113 && (isInv 1110 M y m || isInv 1110 M m y)) with
    | true => retag k x
    | false => none
   | false => none
  | _ => none
 | _ => none
theorem isInv_ok {G:GF} {φ:Pl} {M:Mem} (hE:EqF G φ M) {g:Nat} {y m:V} {b c:Int} (h:isInv g M y m = true) (hy:y.num φ = some b) (hm:m.num φ = some c):c = G g [b] 0:=by
 unfold isInv at h
 split at h
 ·rename_i g' k z hd
  simp only [Bool.and_eq_true] at h
  have:=Nat.eq_of_beq_eq_true h.1; subst this
  obtain ⟨k1,h1⟩:=defOf_sound hE hd hm
  simp only [Def.val,nums,Option.map_eq_some_iff,Option.bind_eq_some_iff] at h1
  obtain ⟨l,⟨n,hn,l',hl',rfl⟩,h1⟩:=h1
  injection hl' with hl'; subst hl'
  injection h1 with _ h1
  have:=same_num h.2 hn hy; subst this
  exact h1.symm
 ·cases h
structure IdeaG (G:GF):Prop where
 mul:∀ x y:Int,0 ≤ x → x ≤ 65535 → 0 ≤ y → y ≤ 65535 → ∀ j,G 1112 [x,y] j = mulF [x,y]
 add:∀ x y:Int,0 ≤ x → x ≤ 65535 → 0 ≤ y → y ≤ 65535 → ∀ j,G 1113 [x,y] j = addF [x,y]
 neg:∀ x:Int,0 ≤ x → x ≤ 65535 → ∀ j,G 1110 [x] j = negF [x]
 inv:∀ a:Int,0 ≤ a → a ≤ 65535 → 0 ≤ G 1111 [a] 0 ∧ G 1111 [a] 0 ≤ 65535 ∧ eN a * eN (G 1111 [a] 0) % 65537 = 1
theorem in16_ok {φ:Pl} {v:V} {n:Int} (h:in16 v = true) (hv:v.num φ = some n):0 ≤ n ∧ n ≤ 65535:=by
 simp only [in16,Bool.and_eq_true,leI_iff] at h
 have:=V.bnd hv
 omega
theorem ideaX_ok {G:GF} (hI:IdeaG G):RuleOK G ideaX:=by
 intro φ M d x v hE h hd
 unfold ideaX at h
 split at h
 ·rename_i g k a m
  split at h
  ·rename_i g' k' p y hda
   split at h
   ·rename_i hb
    simp only [Bool.and_eq_true] at hb
    obtain ⟨hg,hp16,hy16,hm16⟩:=hb
    have:=Nat.eq_of_beq_eq_true hg; subst this
    simp only [Def.val,nums,Option.map_eq_some_iff,Option.bind_eq_some_iff] at hd
    obtain ⟨l,⟨na,hna,l1,⟨nm,hnm,l2,hl2,rfl⟩,rfl⟩,rfl⟩:=hd
    injection hl2 with hl2; subst hl2
    obtain ⟨k1,h1⟩:=defOf_sound hE hda hna
    simp only [Def.val,nums,Option.map_eq_some_iff,Option.bind_eq_some_iff] at h1
    obtain ⟨l,⟨np,hnp,l1,⟨ny,hny,l2,hl2,rfl⟩,rfl⟩,h1⟩:=h1
    injection hl2 with hl2; subst hl2
    injection h1 with _ h1
    obtain ⟨p0,p1⟩:=in16_ok hp16 hnp
    obtain ⟨y0,y1⟩:=in16_ok hy16 hny
    obtain ⟨m0,m1⟩:=in16_ok hm16 hnm
    split at h
    ·rename_i hc
     obtain ⟨h2,_,_⟩:=retag_ok h hnp
     refine ⟨_,rfl,?_⟩
     suffices hgoal:G g [na,nm] 0 = np by rw [hgoal]; exact h2
     simp only [Bool.or_eq_true,Bool.and_eq_true] at hc
     rcases hc with ⟨hg1,hc⟩ | ⟨hg1,hc⟩
     ·have:=Nat.eq_of_beq_eq_true hg1; subst this
      rw [hI.mul np ny p0 p1 y0 y1] at h1
      obtain ⟨c1,c2,_⟩:=mulF_in p0 p1 y0 y1
      rw [hI.mul na nm (by omega) (by omega) m0 m1,← h1]
      refine mul_back p0 p1 y0 y1 m0 m1 ?_
      rcases hc with hc | hc
      ·rw [isInv_ok hE hc hny hnm]; exact (hI.inv ny y0 y1).2.2
      ·rw [isInv_ok hE hc hnm hny,Nat.mul_comm]; exact (hI.inv nm m0 m1).2.2
     ·have:=Nat.eq_of_beq_eq_true hg1; subst this
      rw [hI.add np ny p0 p1 y0 y1] at h1
      have c1:0 ≤ addF [np,ny] ∧ addF [np,ny] ≤ 65535:=by simp only [addF]; omega
      rw [hI.add na nm (by omega) (by omega) m0 m1,← h1]
      rcases hc with hc | hc
      ·have e:=isInv_ok hE hc hny hnm
       rw [hI.neg ny y0 y1] at e
       rw [e]; exact (add_back p0 p1).1
      ·have e:=isInv_ok hE hc hnm hny
       rw [hI.neg nm m0 m1] at e
       rw [e]; exact (add_back p0 p1).2
    ·cases h
   ·cases h
  ·cases h
 ·cases h
end
end
section
open Go.Proofs
noncomputable section
def resS (T:Nat → Option Ty) (s:St):List ResultVar → Option (List V)
 | [] => some []
 | .tmp t :: rs => (s.get (.tmp t)).bind fun v => (resS T s rs).map (v :: ·)
 | .cell t u :: rs => (s.get (.tmp t)).bind fun p => (T u).bind fun d => (resCell s.M d p).bind fun v => (resS T s rs).map (v :: ·)
theorem resS_eq {T:Nat → Option Ty} {s:KSt} {s':St} (h:Same s s'):∀ rs,resV T s rs = resS T s' rs
 | [] => rfl
 | .tmp t :: rs => by simp only [resV,resS,kGet_eq h,resS_eq h rs]
 | .cell t u :: rs => by simp only [resV,resS,kGet_eq h,resS_eq h rs,h.M]
section
variable {G:GF} {args:List V} {M:Mem} {s s1 s':St} {ops:Array Oper} {i:Nat} {l:List Nat} {o:Oper} {v:V}
theorem acall_aw {f:Nat} {fv:FnV} {x:AExit} (hf:fn f = some fv) (h:AW Tryz.prog G fv.body ⟨start fv args,[],M⟩ x s') (hx:x = .normal ∨ x = .ret) (hd:s'.ds = []) (hlen:s'.ts.length ≤ 320) {rs:List V} (hr:resS tyF s' fv.results = some rs) :
  ACall Tryz.prog G f args M (retV rs) s'.M:=by
 obtain ⟨g,g1,g2,g3,g4,g5⟩:=fok f fv hf
 have hsame:Same ⟨chunk 40 s'.ts,s'.ds,s'.M,0,[]⟩ s':=⟨chunk_ch 40 _ (by omega),rfl,rfl⟩
 rw [← resS_eq hsame] at hr
 refine ⟨⟨g,fv.body,g1,g2,g3⟩,?_⟩
 intro prot W0 φ w us hM ha
 refine calls_of_wp g1 g3 ?_
 rw [g4]
 refine h prot W0 φ _ w _ (start_sr hM ha fv) ?_
 intro φ' a' w' hle hsr
 have hd':a'.defers = []:=by
  have:=hsr.ds
  rw [hd] at this
  simp only [defsC,Option.some.injEq] at this
  exact this.symm
 rw [← g5] at hr
 obtain ⟨u,hu1,hu2⟩:=results_sound tyF_ok hsame hsr hr
 have post:a'.defers = [] ∧ ∃ v',(results g a'.tmps).run Tryz.prog w' = .ok v' w' ∧ Back G prot W0 φ (retV rs) s'.M (.returned v') w':=⟨hd',u,hu2,φ',hle,hu1,hsr.mr⟩
 rcases hx with rfl | rfl
 ·exact post
 ·exact post
theorem AOps.p (hG:GOK G) (ho:ops[i]? = some o) (hg:o.guard = none) (hr:astep noX tyF s.get s.M o.op = some (.pure v)) (h:AOps Tryz.prog G ops l (s.put o.dst v s.M) s'):AOps Tryz.prog G ops (i :: l) s s' :=
 AOps.cons (AOpV.op (AOpV.step hG noX_ok tyF_ok ho (by simp [wants,hg]) hr (v:=v) (M':=s.M) ⟨rfl,rfl⟩)) h
theorem AOps.vl {M':Mem} (hG:GOK G) (ho:ops[i]? = some o) (hg:o.guard = none) (hr:astep noX tyF s.get s.M o.op = some (.val v M')) (h:AOps Tryz.prog G ops l (s.put o.dst v M') s'):AOps Tryz.prog G ops (i :: l) s s' :=
 AOps.cons (AOpV.op (AOpV.step hG noX_ok tyF_ok ho (by simp [wants,hg]) hr (v:=v) (M':=M') ⟨rfl,rfl⟩)) h
theorem AOps.sk {M':Mem} (hG:GOK G) (ho:ops[i]? = some o) (hg:o.guard = none) (hr:astep noX tyF s.get s.M o.op = some (.skip M')) (h:AOps Tryz.prog G ops l (s.put o.dst undefV M') s'):AOps Tryz.prog G ops (i :: l) s s' :=
 AOps.cons (AOpV.op (AOpV.step hG noX_ok tyF_ok ho (by simp [wants,hg]) hr (v:=undefV) (M':=M') ⟨rfl,rfl⟩)) h
theorem AOps.cl {M':Mem} {f:Nat} {al:List V} (hG:GOK G) (ho:ops[i]? = some o) (hg:o.guard = none) (hr:astep noX tyF s.get s.M o.op = some (.call f al)) (hc:ACall Tryz.prog G f al s.M v M') (h:AOps Tryz.prog G ops l (s.put o.dst v M') s'):AOps Tryz.prog G ops (i :: l) s s' :=
 AOps.cons (AOpV.op (AOpV.step hG noX_ok tyF_ok ho (by simp [wants,hg]) hr (v:=v) (M':=M') hc)) h
theorem get_put_ne {s:St} {d t:Nat} {v:V} {M:Mem} (h:d ≠ t):(s.put (some d) v M).get (.tmp t) = s.get (.tmp t):=by
 simp only [St.put,St.get,List.getElem?_set_ne h]
theorem get_put {s:St} {d:Nat} {v:V} {M:Mem} (h:d < s.ts.length):(s.put (some d) v M).get (.tmp d) = some v:=by
 simp only [St.put,St.get,List.getElem?_set_self h]
theorem put_len {s:St} {d:Option Nat} {v:V} {M:Mem}:(s.put d v M).ts.length = s.ts.length:=by
 cases d <;> simp [St.put]
theorem put_ds {s:St} {d:Option Nat} {v:V} {M:Mem}:(s.put d v M).ds = s.ds:=by
 cases d <;> rfl
theorem put_mem {s:St} {d:Option Nat} {v:V} {M:Mem}:(s.put d v M).M = M:=by
 cases d <;> rfl
theorem get_int {s:St} {k:IntKind} {n:Int}:s.get (.const (.int k n)) = some (.int k n):=rfl
theorem get_bool {s:St} {b:Bool}:s.get (.const (.bool b)) = some (.bool b):=rfl
theorem get_nilsl {s:St}:s.get (.const (.slice none 0 0)) = some .nilsl:=rfl
def AWX (G:GF) (c:Code) (s:St) (Q:AExit → St → Prop):Prop:=∃ x s',AW Tryz.prog G c s x s' ∧ Q x s'
def AOX (G:GF) (ops:Array Oper) (l:List Nat) (s:St) (Q:St → Prop):Prop:=∃ s',AOps Tryz.prog G ops l s s' ∧ Q s'
def LX (G:GF) (c:Code) (s:St) (Q:AExit → St → Prop):Prop:=∃ n x s',Its Tryz.prog G c n s x s' ∧ Q x s'
def JX (G:GF) (c d:Code) (s:St) (Q:AExit → St → Prop):Prop:=∃ n x s',Jmp Tryz.prog G c n d s x s' ∧ Q x s'
def nx (Q:AExit → St → Prop) (K:St → Prop):AExit → St → Prop
 | .normal,s => K s
 | x,s => Q x s
section
variable {Q:AExit → St → Prop} {K:St → Prop} {a b c:Code}
theorem AWX.region {id:Nat} (h:AOX G ops (List.range ops.size) s (Q .normal)):AWX G (.region id ops false) s Q:=by
 obtain ⟨s',h1,h2⟩:=h
 exact ⟨.normal,s',AW.region h1,h2⟩
theorem AWX.skip (h:Q .normal s):AWX G .skip s Q:=⟨_,_,AW.skip,h⟩
theorem AWX.label {l:Nat} (h:Q .normal s):AWX G (.label l) s Q:=⟨_,_,AW.label,h⟩
theorem AWX.exit {id:Nat} (h:Q (.exit id) s):AWX G (.exit id) s Q:=⟨_,_,AW.exit,h⟩
theorem AWX.goto {l:Nat} (h:Q (.goto l) s):AWX G (.goto l) s Q:=⟨_,_,AW.goto,h⟩
theorem AWX.ret (h:Q .ret s):AWX G .ret s Q:=⟨_,_,AW.ret,h⟩
theorem AWX.seq (h:AWX G a s (nx Q fun s1 => AWX G b s1 Q)):AWX G (.seq a b) s Q:=by
 obtain ⟨x,s1,h1,h2⟩:=h
 cases x with
 | normal =>
  obtain ⟨y,s2,h3,h4⟩:=h2
  exact ⟨y,s2,AW.seq h1 h3,h4⟩
 | exit id => exact ⟨_,_,AW.seq_out h1 (by simp),h2⟩
 | goto l => exact ⟨_,_,AW.seq_out h1 (by simp),h2⟩
 | ret => exact ⟨_,_,AW.seq_out h1 (by simp),h2⟩
theorem AWX.cut (R:St → Prop) (h:AWX G a s (nx Q R)) (h':∀ s1,R s1 → AWX G b s1 Q):AWX G (.seq a b) s Q:=by
 obtain ⟨x,s1,h1,h2⟩:=h
 refine AWX.seq ⟨x,s1,h1,?_⟩
 cases x with
 | normal => exact h' s1 h2
 | exit id => exact h2
 | goto l => exact h2
 | ret => exact h2
theorem AWX.cond {x:Operand} {t:Bool} (hc:s.get x = some (.bool t)) (h:AWX G (if t then a else b) s Q):AWX G (.cond x a b) s Q:=by
 obtain ⟨y,s1,h1,h2⟩:=h
 exact ⟨y,s1,AW.cond hc h1,h2⟩
theorem AWX.condT {x:Operand} (hc:s.get x = some (.bool true)) (h:AWX G a s Q):AWX G (.cond x a b) s Q:=AWX.cond hc h
theorem AWX.condF {x:Operand} (hc:s.get x = some (.bool false)) (h:AWX G b s Q):AWX G (.cond x a b) s Q:=AWX.cond hc h
theorem AWX.block {id:Nat} (h:AWX G c s fun x s1 => Q (inBlk id x) s1):AWX G (.block id c) s Q:=by
 obtain ⟨y,s1,h1,h2⟩:=h
 exact ⟨_,s1,AW.block h1,h2⟩
theorem AWX.loop (h:LX G c s Q):AWX G (.loop c) s Q:=by
 obtain ⟨n,x,s',h1,h2⟩:=h
 exact ⟨x,s',AW.loop h1,h2⟩
theorem LX.step (h:AWX G c s (nx Q fun s1 => LX G c s1 Q)):LX G c s Q:=by
 obtain ⟨x,s1,h1,h2⟩:=h
 cases x with
 | normal =>
  obtain ⟨n,y,s2,h3,h4⟩:=h2
  exact ⟨_,y,s2,.next h1 h3,h4⟩
 | exit id => exact ⟨_,_,_,.out h1 (by simp),h2⟩
 | goto l => exact ⟨_,_,_,.out h1 (by simp),h2⟩
 | ret => exact ⟨_,_,_,.out h1 (by simp),h2⟩
theorem AWX.scope (h:JX G c c s Q):AWX G (.scope c) s Q:=by
 obtain ⟨n,x,s',h1,h2⟩:=h
 exact ⟨x,s',AW.scope h1,h2⟩
def jx (G:GF) (c:Code) (Q:AExit → St → Prop):AExit → St → Prop
 | .goto l,s => match findLabel c l with
  | some rest => JX G c rest s Q
  | none => Q (.goto l) s
 | x,s => Q x s
theorem JX.step {d:Code} (h:AWX G d s (jx G c Q)):JX G c d s Q:=by
 obtain ⟨x,s1,h1,h2⟩:=h
 cases x with
 | normal => exact ⟨_,_,_,.out h1 (by intro l e; cases e),h2⟩
 | exit id => exact ⟨_,_,_,.out h1 (by intro l e; cases e),h2⟩
 | ret => exact ⟨_,_,_,.out h1 (by intro l e; cases e),h2⟩
 | goto l =>
  simp only [jx] at h2
  cases hl:findLabel c l with
  | some rest =>
   rw [hl] at h2
   obtain ⟨n,y,s2,h3,h4⟩:=h2
   exact ⟨_,y,s2,.next h1 hl h3,h4⟩
  | none =>
   rw [hl] at h2
   exact ⟨_,_,_,.out h1 (by intro l' e; injection e with e; subst e; exact hl),h2⟩
theorem AWX.mono {Q':AExit → St → Prop} (h:AWX G c s Q) (hQ:∀ x s,Q x s → Q' x s):AWX G c s Q':=by
 obtain ⟨x,s',h1,h2⟩:=h
 exact ⟨x,s',h1,hQ _ _ h2⟩
theorem AOX.nil (h:K s):AOX G ops [] s K:=⟨s,AOps.nil,h⟩
variable {dst:Option Tmp} {ty:TypeId} {pos:String} {af:Array Edge}
theorem AOX.p {op:Op} (hG:GOK G) (ho:ops[i]? = some ⟨dst,op,ty,pos,af,none⟩) (hr:astep noX tyF s.get s.M op = some (.pure v)) (h:AOX G ops l (s.put dst v s.M) K):AOX G ops (i :: l) s K:=by
 obtain ⟨s',h1,h2⟩:=h
 exact ⟨s',AOps.p hG ho rfl hr h1,h2⟩
theorem AOX.vl {op:Op} {M':Mem} (hG:GOK G) (ho:ops[i]? = some ⟨dst,op,ty,pos,af,none⟩) (hr:astep noX tyF s.get s.M op = some (.val v M')) (h:AOX G ops l (s.put dst v M') K):AOX G ops (i :: l) s K:=by
 obtain ⟨s',h1,h2⟩:=h
 exact ⟨s',AOps.vl hG ho rfl hr h1,h2⟩
theorem AOX.sk {op:Op} {M':Mem} (hG:GOK G) (ho:ops[i]? = some ⟨dst,op,ty,pos,af,none⟩) (hr:astep noX tyF s.get s.M op = some (.skip M')) (h:AOX G ops l (s.put dst undefV M') K):AOX G ops (i :: l) s K:=by
 obtain ⟨s',h1,h2⟩:=h
 exact ⟨s',AOps.sk hG ho rfl hr h1,h2⟩
theorem AOX.cl {op:Op} {M':Mem} {f:Nat} {al:List V} (hG:GOK G) (ho:ops[i]? = some ⟨dst,op,ty,pos,af,none⟩) (hr:astep noX tyF s.get s.M op = some (.call f al)) (hc:ACall Tryz.prog G f al s.M v M') (h:AOX G ops l (s.put dst v M') K):AOX G ops (i :: l) s K:=by
 obtain ⟨s',h1,h2⟩:=h
 exact ⟨s',AOps.cl hG ho rfl hr hc h1,h2⟩
theorem AOX.mv {x:Operand} (hG:GOK G) (ho:ops[i]? = some ⟨dst,.move x,ty,pos,af,none⟩) (hx:s.get x = some v) (h:AOX G ops l (s.put dst v s.M) K):AOX G ops (i :: l) s K :=
 AOX.p hG ho (by simp only [astep,hx,Option.map_some]) h
theorem AOX.ws' {x:Operand} (hG:GOK G) (ho:ops[i]? = some ⟨dst,.assign x,ty,pos,af,none⟩) (hx:s.get x = some v) (h:AOX G ops l (s.put dst v s.M) K):AOX G ops (i :: l) s K :=
 AOX.p hG ho (by simp only [astep,hx,Option.map_some]) h
theorem AOX.bin {x y:Operand} {a b:V} {op:BinOp} {t r:TypeId} (hG:GOK G) (ho:ops[i]? = some ⟨dst,.binOp op t x y r,ty,pos,af,none⟩) (hx:s.get x = some a) (hy:s.get y = some b) (hv:abin noX (tyF t) s.M op a b = some (v,none)) (h:AOX G ops l (s.put dst v s.M) K):AOX G ops (i :: l) s K :=
 AOX.p hG ho (by simp only [astep,aBin,hx,hy,Option.bind_some,hv,Option.map_some,rv]) h
theorem AOX.cv {x:Operand} {a:V} {t d:TypeId} (hG:GOK G) (ho:ops[i]? = some ⟨dst,.convert t d x,ty,pos,af,none⟩) (hx:s.get x = some a) (hv:convV noX tyF t d s.M a = some (v,none)) (h:AOX G ops l (s.put dst v s.M) K):AOX G ops (i :: l) s K :=
 AOX.p hG ho (by simp only [astep,aConv,hx,Option.bind_some,hv,Option.map_some,rv]) h
theorem acall_awx {f:Nat} {fv:FnV} {M':Mem} (hf:fn f = some fv) (h:AWX G fv.body ⟨start fv args,[],M⟩ fun x s' => (x = .normal ∨ x = .ret) ∧ s'.ds = [] ∧ s'.ts.length ≤ 320 ∧ s'.M = M' ∧ ∃ rs,resS tyF s' fv.results = some rs ∧ retV rs = v):ACall Tryz.prog G f args M v M':=by
 obtain ⟨x,s',h1,h2,h3,h4,rfl,rs,h5,rfl⟩:=h
 exact acall_aw hf h1 h2 h3 h4 h5
end
end
end
end
section
open Go.Proofs
noncomputable section
def bI (op:BinOp) (a b:Int):Int:=match aint op .i64 a b with
 | some (.int _ n) => n
 | _ => 0
theorem abin_xor {d:Option Ty} {M:Mem} {a b:Int}:abin noX d M .xor (.int .i64 a) (.int .i64 b) = some (.int .i64 (bI .xor a b),none):=by
 simp [abin,bInt,bLit,eint_eq,aint,abits,bI]
theorem abin_and {d:Option Ty} {M:Mem} {a b:Int}:abin noX d M .and (.int .i64 a) (.int .i64 b) = some (.int .i64 (bI .and a b),none):=by
 simp [abin,bInt,bLit,eint_eq,aint,abits,bI]
theorem abin_eql {d:Option Ty} {M:Mem} {k:IntKind} {a b:Int}:abin noX d M .eql (.int k a) (.int k b) = some (.bool (decide (a = b)),none):=by
 simp [abin,bInt,bLit,eint_eq,aint]; rfl
theorem abin_gtr {d:Option Ty} {M:Mem} {k:IntKind} {a b:Int}:abin noX d M .gtr (.int k a) (.int k b) = some (.bool (decide (a > b)),none):=by
 simp [abin,bInt,bLit,eint_eq,aint]
theorem abin_geq {d:Option Ty} {M:Mem} {k:IntKind} {a b:Int}:abin noX d M .geq (.int k a) (.int k b) = some (.bool (decide (a ≥ b)),none):=by
 simp [abin,bInt,bLit,eint_eq,aint]
def sI (op:BinOp) (a:Int):Int:=match ashift op .i64 a 1 with
 | some (.int _ n) => n
 | _ => 0
theorem abin_shl {d:Option Ty} {M:Mem} {a:Int}:abin noX d M .shl (.int .i64 a) (.int .u64 1) = some (.int .i64 (sI .shl a),none):=by
 simp [abin,bInt,bLit,eshift_eq,ashift,sI]
theorem abin_shr {d:Option Ty} {M:Mem} {a:Int}:abin noX d M .shr (.int .i64 a) (.int .u64 1) = some (.int .i64 (sI .shr a),none):=by
 simp [abin,bInt,bLit,eshift_eq,ashift,sI]
theorem sI_shr {a:Int}:sI .shr a = a / 2:=by
 simp [sI,ashift,IntKind.bits]
 exact Int.fdiv_eq_ediv_of_nonneg _ (by decide)
structure FM (s:St) (M:Mem) (sum x y md:Int):Prop where
 len:s.ts.length = 35
 ds:s.ds = []
 M:s.M = M
 md:s.get (.tmp 2) = some (.int .i64 md)
 sum:s.get (.tmp 7) = some (.int .i64 sum)
 x:s.get (.tmp 8) = some (.int .i64 x)
 y:s.get (.tmp 9) = some (.int .i64 y)
def inScope:Code → Code
 | .seq _ (.scope c) => c
 | c => c
def fmC:Code:=inScope (fnOf Tryz.f135).body
def fmRest:Code:=(findLabel fmC 0).getD .skip
def behind:Code → Code
 | .seq _ c => c
 | c => c
def fmTail:Code:=behind fmRest
def FmQ (M:Mem) (n:Int) (x:AExit) (s':St):Prop:=x = .ret ∧ s'.M = M ∧ s'.ds = [] ∧ s'.ts.length = 35 ∧ s'.get (.tmp 6) = some (.int .u8 n)
theorem fm_end {G:GF} (hG:GOK G) {s:St} {M:Mem} {sum x md:Int} {Q:AExit → St → Prop} (h:FM s M sum x 0 md) (hQ:∀ s',FmQ M (kwrap .u8 sum) .ret s' → Q .ret s'):AWX G fmTail s (jx G fmC Q):=by
 refine AWX.seq (AWX.seq (AWX.region ?_))
 refine AOX.mv hG rfl h.y (AOX.bin (v:=.bool true) hG rfl (get_put (by rw [h.len]; decide)) get_int (by rfl) (AOX.nil ?_))
 refine AWX.condT (get_put (by rw [put_len,h.len]; decide)) (AWX.seq (AWX.region ?_))
 refine AOX.mv hG rfl (by rw [get_put_ne (by decide),get_put_ne (by decide),h.sum]) (AOX.cv hG rfl (get_put (by simp only [put_len,h.len]; decide)) (by rfl) (AOX.ws' hG rfl (get_put (by simp only [put_len,h.len]; decide)) (AOX.nil ?_)))
 refine AWX.ret ?_
 exact hQ _ ⟨rfl,by simp only [put_mem,h.M],by simp only [put_ds,h.ds],by simp only [put_len,h.len],get_put (by simp only [put_len,h.len]; decide)⟩
def fmX (x md:Int):Int:=bI .and (if decide (sI .shl x ≥ 256) then bI .xor (sI .shl x) md else sI .shl x) 255
def fmS (sum x y:Int):Int:=if decide (bI .and y 1 > 0) then bI .xor sum x else sum
theorem fm_round {G:GF} (hG:GOK G) {s:St} {M:Mem} {sum x y md:Int} {Q:AExit → St → Prop} (h:FM s M sum x y md) (hy:y ≠ 0) (hQ:∀ s',FM s' M (fmS sum x y) (fmX x md) (sI .shr y) md → JX G fmC fmRest s' Q):AWX G fmTail s (jx G fmC Q):=by
 refine AWX.cut (fun s1 => FM s1 M sum x y md) (AWX.seq (AWX.region ?_)) ?_
 ·refine AOX.mv hG rfl h.y (AOX.bin (v:=.bool (decide (y = 0))) hG rfl (get_put (by rw [h.len]; decide)) get_int abin_eql (AOX.nil ?_))
  refine AWX.condF (by rw [get_put (by rw [put_len,h.len]; decide)]; simp [hy]) (AWX.skip ?_)
  exact ⟨by simp only [put_len,h.len],by simp only [put_ds,h.ds],by simp only [put_mem,h.M],by simp [get_put_ne,h.md],by simp [get_put_ne,h.sum],by simp [get_put_ne,h.x],by simp [get_put_ne,h.y]⟩
 intro s1 h1
 refine AWX.cut (fun s1 => FM s1 M (fmS sum x y) x y md) (AWX.seq (AWX.region ?_)) ?_
 ·refine AOX.mv hG rfl h1.y (AOX.bin hG rfl (get_put (by rw [h1.len]; decide)) get_int abin_and (AOX.bin hG rfl (get_put (by simp only [put_len,h1.len]; decide)) get_int abin_gtr (AOX.nil ?_)))
  refine AWX.cond (get_put (by simp only [put_len,h1.len]; decide)) ?_
  generalize hs:St.put _ _ _ _ = s2
  have h2:FM s2 M sum x y md:=by
   subst hs
   exact ⟨by simp only [put_len,h1.len],by simp only [put_ds,h1.ds],by simp only [put_mem,h1.M],by simp [get_put_ne,h1.md],by simp [get_put_ne,h1.sum],by simp [get_put_ne,h1.x],by simp [get_put_ne,h1.y]⟩
  clear hs
  by_cases hb:bI .and y 1 > 0
  ·rw [decide_eq_true hb]
   refine AWX.region ?_
   refine AOX.mv hG rfl h2.sum (AOX.mv hG rfl (by rw [get_put_ne (by decide),h2.x]) (AOX.bin hG rfl (by rw [get_put_ne (by decide),get_put (by rw [h2.len]; decide)]) (get_put (by simp only [put_len,h2.len]; decide)) abin_xor ?_))
   refine AOX.ws' hG rfl (get_put (by simp only [put_len,h2.len]; decide)) (AOX.nil ?_)
   show FM _ _ _ _ _ _
   rw [show fmS sum x y = bI .xor sum x by simp [fmS,hb]]
   exact ⟨by simp only [put_len,h2.len],by simp only [put_ds,h2.ds],by simp only [put_mem,h2.M],by simp [get_put_ne,h2.md],get_put (by simp only [put_len,h2.len]; decide),by simp [get_put_ne,h2.x],by simp [get_put_ne,h2.y]⟩
  ·rw [decide_eq_false hb]
   refine AWX.skip ?_
   show FM _ _ _ _ _ _
   rw [show fmS sum x y = sum by simp [fmS,hb]]
   exact h2
 intro s3 h3
 refine AWX.cut (fun s1 => FM s1 M (fmS sum x y) (if decide (sI .shl x ≥ 256) then bI .xor (sI .shl x) md else sI .shl x) (sI .shr y) md) (AWX.seq (AWX.region ?_)) ?_
 ·refine AOX.mv hG rfl h3.x (AOX.bin hG rfl (get_put (by rw [h3.len]; decide)) get_int abin_shl ?_)
  refine AOX.mv hG rfl (by rw [get_put_ne (by decide),get_put_ne (by decide),h3.y]) (AOX.bin hG rfl (get_put (by simp only [put_len,h3.len]; decide)) get_int abin_shr ?_)
  refine AOX.ws' hG rfl (by rw [get_put_ne (by decide),get_put_ne (by decide),get_put (by simp only [put_len,h3.len]; decide)]) ?_
  refine AOX.ws' hG rfl (by rw [get_put_ne (by decide),get_put (by simp only [put_len,h3.len]; decide)]) (AOX.nil ?_)
  generalize hs:St.put _ _ _ _ = s4
  have h4:FM s4 M (fmS sum x y) (sI .shl x) (sI .shr y) md:=by
   subst hs
   refine ⟨by simp only [put_len,h3.len],by simp only [put_ds,h3.ds],by simp only [put_mem,h3.M],by simp [get_put_ne,h3.md],by simp [get_put_ne,h3.sum],?_,get_put (by simp only [put_len,h3.len]; decide)⟩
   rw [get_put_ne (by decide),get_put (by simp only [put_len,h3.len]; decide)]
  clear hs
  refine AWX.seq (AWX.region ?_)
  refine AOX.mv hG rfl h4.x (AOX.bin hG rfl (get_put (by rw [h4.len]; decide)) get_int abin_geq (AOX.nil ?_))
  refine AWX.cond (get_put (by simp only [put_len,h4.len]; decide)) ?_
  generalize hs:St.put _ _ _ _ = s5
  have h5:FM s5 M (fmS sum x y) (sI .shl x) (sI .shr y) md:=by
   subst hs
   exact ⟨by simp only [put_len,h4.len],by simp only [put_ds,h4.ds],by simp only [put_mem,h4.M],by simp [get_put_ne,h4.md],by simp [get_put_ne,h4.sum],by simp [get_put_ne,h4.x],by simp [get_put_ne,h4.y]⟩
  clear hs
  by_cases hb:sI .shl x ≥ 256
  ·rw [decide_eq_true hb]
   refine AWX.region ?_
   refine AOX.mv hG rfl h5.x (AOX.mv hG rfl (by rw [get_put_ne (by decide),h5.md]) (AOX.bin hG rfl (by rw [get_put_ne (by decide),get_put (by rw [h5.len]; decide)]) (get_put (by simp only [put_len,h5.len]; decide)) abin_xor ?_))
   refine AOX.ws' hG rfl (get_put (by simp only [put_len,h5.len]; decide)) (AOX.nil ?_)
   show FM _ _ _ _ _ _
   exact ⟨by simp only [put_len,h5.len],by simp only [put_ds,h5.ds],by simp only [put_mem,h5.M],by simp [get_put_ne,h5.md],by simp [get_put_ne,h5.sum],get_put (by simp only [put_len,h5.len]; decide),by simp [get_put_ne,h5.y]⟩
  ·rw [decide_eq_false hb]
   refine AWX.skip ?_
   exact h5
 intro s6 h6
 refine AWX.seq (AWX.region ?_)
 refine AOX.mv hG rfl h6.x (AOX.bin hG rfl (get_put (by rw [h6.len]; decide)) get_int abin_and ?_)
 refine AOX.ws' hG rfl (get_put (by simp only [put_len,h6.len]; decide)) (AOX.nil (AWX.goto ?_))
 refine hQ _ ⟨by simp only [put_len,h6.len],by simp only [put_ds,h6.ds],by simp only [put_mem,h6.M],by simp [get_put_ne,h6.md],by simp [get_put_ne,h6.sum],get_put (by simp only [put_len,h6.len]; decide),by simp [get_put_ne,h6.y]⟩
def fmLoop (md:Int):Nat → Int → Int → Int → Int
 | 0,sum,_,_ => kwrap .u8 sum
 | n + 1,sum,x,y => if y = 0 then kwrap .u8 sum else fmLoop md n (fmS sum x y) (fmX x md) (sI .shr y)
theorem fm_loop {G:GF} (hG:GOK G) {M:Mem} {md:Int} {Q:AExit → St → Prop}:∀ (n:Nat) {s:St} {sum x y:Int},FM s M sum x y md → 0 ≤ y → y < 2 ^ n → (∀ s',FmQ M (fmLoop md n sum x y) .ret s' → Q .ret s') → AWX G fmTail s (jx G fmC Q)
 | 0,s,sum,x,y,h,h0,h1,hQ => by
  have:y = 0:=by simp at h1; omega
  subst this
  exact fm_end hG h hQ
 | n + 1,s,sum,x,y,h,h0,h1,hQ => by
  by_cases hy:y = 0
  ·subst hy
   rw [fmLoop,if_pos rfl] at hQ
   exact fm_end hG h hQ
  ·rw [fmLoop,if_neg hy] at hQ
   refine fm_round hG h hy fun s' h' => JX.step (AWX.seq (AWX.skip ?_))
   refine fm_loop hG n h' ?_ ?_ hQ
   ·rw [sI_shr]; omega
   ·rw [sI_shr]; rw [Int.pow_succ] at h1; omega
theorem fm_call {G:GF} (hG:GOK G) {a b md:Int} (hb:0 ≤ b) (hb':b ≤ 255) (M:Mem):ACall Tryz.prog G 135 [.int .u8 a,.int .u8 b,.int .i64 md] M (.int .u8 (fmLoop md 8 0 (kwrap .i64 a) (kwrap .i64 b))) M:=by
 refine acall_awx (fv:=fnOf Tryz.f135) rfl ?_
 refine AWX.seq (AWX.region ?_)
 refine AOX.ws' hG rfl get_int (AOX.nil ?_)
 refine AWX.scope (JX.step ?_)
 refine AWX.seq (AWX.region ?_)
 refine AOX.mv hG rfl rfl (AOX.cv hG rfl rfl (by rfl) (AOX.mv hG rfl rfl (AOX.cv hG rfl rfl (by rfl) (AOX.ws' hG rfl get_int (AOX.ws' hG rfl rfl (AOX.ws' hG rfl rfl (AOX.nil ?_)))))))
 refine AWX.seq (AWX.label ?_)
 have hkb:kwrap .i64 b = b:=by rw [kwrap_eq]; exact wrap_id .i64 b (by simp [kmin]; omega) (by simp [kmax]; omega)
 refine fm_loop hG 8 (s:=_) (md:=md) (sum:=0) (x:=kwrap .i64 a) (y:=kwrap .i64 b) ⟨rfl,rfl,rfl,rfl,rfl,rfl,rfl⟩ (by omega) (by rw [hkb]; omega) ?_
 rintro s' ⟨_,h1,h2,h3,h4⟩
 exact ⟨.inr rfl,h2,by omega,h1,[_],by simp [resS,h4,fnOf,Tryz.f135],rfl⟩
end
end
section
open Go.Proofs
noncomputable section
section
variable {G:GF} {ops:Array Oper} {i:Nat} {s s0:St} {v:V} {M':Mem}
abbrev msOf (ops:Array Oper):List Nat:=masks ops ops.size
def QI (G:GF) (ops:Array Oper) (s0:St) (i:Nat) (s:St):Prop:=∃ (e:Nat → Ent) (st:Nat → St),st 0 = s0 ∧ st i = s ∧ (∀ j,j < i → StepOK Tryz.prog G ops (bf (msOf ops)) e st j) ∧ (∀ j,j < i → ∀ b,(e j).tch b = false)
abbrev seeing (ops:Array Oper) (i:Nat) (s:St):St:=seen ops (msOf ops) i s s.M
theorem QI.zero:QI G ops s0 0 s0:=⟨fun _ => default,fun _ => s0,rfl,rfl,fun j hj => by omega,fun j hj => by omega⟩
theorem QI.step {o:Oper} (h:QI G ops s0 i s) (ho:ops[i]? = some o) {R:Mem} {T:List Nat} (hop:AOpV Tryz.prog G ops i (seeing ops i s) o.dst v R) (hg:GrowL s.M R T) (hall:(R = s.M ∧ T = []) ∨ ∀ j,j < i → bf (msOf ops) j i = true) :
  ∃ e st,st 0 = s0 ∧ st (i + 1) = s.put o.dst v R ∧ (∀ j,j < i + 1 → StepOK Tryz.prog G ops (bf (msOf ops)) e st j) ∧ ((R = s.M ∧ T = []) → ∀ j,j < i + 1 → ∀ b,(e j).tch b = false):=by
 obtain ⟨e,st,h0,hi,hok,htch⟩:=h
 let E:Ent:={ K:=seeing ops i s,R:=R,v:=v,T:=T }
 have hKM:E.K.M = s.M:=rfl
 let e':Nat → Ent:=fun j => if j = i then E else e j
 let st':Nat → St:=fun j => if j = i + 1 then s.put o.dst v R else st j
 have e1:e' i = E:=if_pos rfl
 have e2:∀ j,j < i → e' j = e j:=fun j hj => if_neg (by omega)
 have s1:st' (i + 1) = s.put o.dst v R:=if_pos rfl
 have s2:∀ j,j ≤ i → st' j = st j:=fun j hj => if_neg (by omega)
 have hput:(s.put o.dst v R).M = R:=put_mem
 have htE:∀ b,E.tch b = true → (b < s.M.length ∧ b ∈ T) ∨ (s.M.length ≤ b ∧ b < R.length):=by
  intro b hb
  simp only [Ent.tch,hKM,Bool.or_eq_true,Bool.and_eq_true,decide_eq_true_eq,List.contains_iff_mem] at hb
  exact hb
 refine ⟨e',st',?_,s1,?_,?_⟩
 ·rw [s2 0 (by omega)]; exact h0
 ·intro j hj
  by_cases hji:j = i
  ·subst hji
   have hst:st' j = s:=by rw [s2 j (Nat.le_refl _)]; exact hi
   refine ⟨?_,?_,?_,?_,?_,?_,?_,?_,?_,?_,?_,?_⟩
   ·rw [e1,s1,hst]
    exact ⟨o,ho,hop,by rw [hput]⟩
   ·intro t x hx
    rw [e1] at hx
    rw [hst]
    exact seen_mask hx
   ·rw [e1,hst]; exact seen_len
   ·rw [e1,hst]; rfl
   ·rw [e1,hst]; exact congrArg List.length hKM
   ·rw [e1,s1,hput]
   ·rw [e1]; exact hg.le
   ·intro b hb ht
    rw [e1] at hb ht ⊢
    by_cases hne:R[b]? = s.M[b]?
    ·exact hne
    ·have:=hg.same b hb hne
     exfalso
     have:E.tch b = true:=by
      simp only [Ent.tch,Bool.or_eq_true,Bool.and_eq_true,decide_eq_true_eq,List.contains_iff_mem]
      exact .inl ⟨hb,this⟩
     rw [this] at ht; cases ht
   ·intro b k hk
    rw [e1] at hk
    refine .inr ⟨by rw [hst]; exact hk,fun j' hj' _ => by rw [e2 j' hj']; exact htch j' hj' b⟩
   ·intro b hb
    rw [e1] at hb
    rw [s1,e1,hst,hput]
    by_cases ht:E.tch b = true
    ·rw [if_pos ht]
    ·rw [if_neg ht]
     have ht':E.tch b = false:=by simpa using ht
     by_cases hlt:b < s.M.length
     ·by_cases hne:R[b]? = s.M[b]?
      ·exact hne
      ·exfalso; apply ht
       simp only [Ent.tch,Bool.or_eq_true,Bool.and_eq_true,decide_eq_true_eq,List.contains_iff_mem]
       exact .inl ⟨hlt,hg.same b hlt hne⟩
     ·exfalso; apply ht
      simp only [Ent.tch,Bool.or_eq_true,Bool.and_eq_true,decide_eq_true_eq]
      exact .inr ⟨by show s.M.length ≤ b; omega,hb⟩
   ·intro j' hj' hA b ht
    rw [e1] at ht
    rcases hall with ⟨hR,hT⟩ | hall
    ·subst hR hT
     rcases htE b ht with ⟨_,hb⟩ | ⟨h1,h2⟩
     ·cases hb
     ·omega
    ·rw [hall j' hj'] at hA; cases hA
   ·intro b cs hb
    rw [e1] at hb ⊢
    cases ht:E.tch b with
    | false => rfl
    | true =>
     have hro:=hg.ro b cs hb
     rcases htE b ht with ⟨_,h2⟩ | ⟨h1,_⟩
     ·exact absurd hro (hg.own b h2 cs)
     ·have:=(List.getElem?_eq_some_iff.1 hro).1; omega
  ·have hlt:j < i:=by omega
   have hk:=hok j hlt
   have hsj:st' j = st j:=s2 j (by omega)
   have hsj1:st' (j + 1) = st (j + 1):=s2 (j + 1) (by omega)
   have hej:e' j = e j:=e2 j hlt
   refine ⟨?_,?_,?_,?_,?_,?_,?_,?_,?_,?_,?_,?_⟩
   ·rw [hej,hsj1,hsj]; exact hk.op
   ·rw [hej,hsj]; exact hk.mask
   ·rw [hej,hsj]; exact hk.kts
   ·rw [hej,hsj]; exact hk.kds
   ·rw [hej,hsj]; exact hk.len
   ·rw [hej,hsj1]; exact hk.len'
   ·rw [hej]; exact hk.le
   ·rw [hej]; exact hk.same
   ·intro b k hb
    rw [hej] at hb
    rcases hk.km b k hb with h1 | ⟨h1,h2⟩
    ·exact .inl h1
    ·exact .inr ⟨by rw [hsj]; exact h1,fun j' hj' hA => by rw [e2 j' (by omega)]; exact h2 j' hj' hA⟩
   ·intro b hb
    rw [hej] at hb
    rw [hsj1,hej,hsj]; exact hk.nx b hb
   ·intro j' hj' hA b ht
    rw [hej] at ht
    rw [e2 j' (by omega)]
    exact hk.post j' hj' hA b ht
   ·rw [hej]; exact hk.noro
 ·rintro ⟨hR,hT⟩ j hj b
  by_cases hji:j = i
  ·subst hji
   rw [e1]
   cases ht:E.tch b with
   | false => rfl
   | true =>
    subst hR hT
    rcases htE b ht with ⟨_,hb⟩ | ⟨h1,h2⟩
    ·cases hb
    ·omega
  ·rw [e2 j (by omega)]; exact htch j (by omega) b
theorem QI.quiet {o:Oper} (h:QI G ops s0 i s) (ho:ops[i]? = some o) (hop:AOpV Tryz.prog G ops i (seeing ops i s) o.dst v s.M):QI G ops s0 (i + 1) (s.put o.dst v s.M):=by
 obtain ⟨e,st,h1,h2,h3,h4⟩:=h.step ho hop (GrowL.refl _) (.inl ⟨rfl,rfl⟩)
 exact ⟨e,st,h1,h2,h3,h4 ⟨rfl,rfl⟩⟩
theorem par_aw {e:Nat → Ent} {st:Nat → St} (hd:dGood ops = true) (h:∀ j,j < ops.size → StepOK Tryz.prog G ops (bf (msOf ops)) e st j) {id:Nat}:AW Tryz.prog G (.region id ops true) (st 0) .normal (st ops.size):=by
 obtain ⟨hF,hdst⟩:=dGood_fwd hd
 exact AW.drawn mixed hF (par_of_steps (A:=bf (msOf ops)) (fun i j _ hA => masks_sound ops ops.size i j hA) h hdst)
def QG (G:GF) (ops:Array Oper) (id:Nat) (s0:St) (i:Nat) (s:St) (Q:AExit → St → Prop):Prop:=QI G ops s0 i s → AWX G (.region id ops true) s0 Q
variable {id:Nat} {Q:AExit → St → Prop} {dst:Option Tmp} {op:Op} {ty:TypeId} {pos:String} {af:Array Edge} {gd:Option (Nat × Bool)}
theorem AWX.drawn (h:QG G ops id s0 0 s0 Q):AWX G (.region id ops true) s0 Q:=h QI.zero
theorem QG.p {Mc:Mem} (hG:GOK G) (hM:s.M = Mc) (ho:ops[i]? = some ⟨dst,op,ty,pos,af,none⟩) (hr:astep noX tyF (seeing ops i s).get Mc op = some (.pure v)) (h:QG G ops id s0 (i + 1) (s.put dst v Mc) Q):QG G ops id s0 i s Q:=by
 subst hM
 exact fun hq => h (hq.quiet ho (AOpV.step (s:=seeing ops i s) hG noX_ok tyF_ok ho rfl hr (v:=v) (M':=s.M) ⟨rfl,rfl⟩))
theorem QG.cl {f:Nat} {al:List V} {Mc:Mem} (hG:GOK G) (hM:s.M = Mc) (ho:ops[i]? = some ⟨dst,op,ty,pos,af,none⟩) (hr:astep noX tyF (seeing ops i s).get Mc op = some (.call f al)) (hc:ACall Tryz.prog G f al Mc v Mc) (h:QG G ops id s0 (i + 1) (s.put dst v Mc) Q):QG G ops id s0 i s Q:=by
 subst hM
 exact fun hq => h (hq.quiet ho (AOpV.step (s:=seeing ops i s) hG noX_ok tyF_ok ho rfl hr (v:=v) (M':=s.M) hc))
theorem QG.last {v:V} (hd:dGood ops = true) (hi:i + 1 = ops.size) (hall:∀ j,j < i → bf (msOf ops) j i = true) (ho:ops[i]? = some ⟨dst,op,ty,pos,af,none⟩) {T:List Nat} (hop:AOpV Tryz.prog G ops i (seeing ops i s) dst v M') (hg:GrowL s.M M' T) (h:Q .normal (s.put dst v M')):QG G ops id s0 i s Q:=by
 intro hq
 obtain ⟨e,st,h1,h2,h3,_⟩:=hq.step ho hop hg (.inr hall)
 rw [hi] at h2 h3
 have:=par_aw (id:=id) hd h3
 rw [h1,h2] at this
 exact ⟨.normal,_,this,h⟩
theorem see_get {t:Nat} (h:memN (badT ops (msOf ops) i) t = false):(seeing ops i s).get (.tmp t) = s.get (.tmp t):=by
 simp only [seeing,seen,St.get,mask_ts,h]
 cases s.ts[t]? with
 | none => rfl
 | some v => simp
theorem QG.mv {t:Nat} {Mc:Mem} (hG:GOK G) (hM:s.M = Mc) (ho:ops[i]? = some ⟨dst,.move (.tmp t),ty,pos,af,none⟩) (hb:memN (badT ops (msOf ops) i) t = false) (hx:s.get (.tmp t) = some v) (h:QG G ops id s0 (i + 1) (s.put dst v Mc) Q):QG G ops id s0 i s Q :=
 QG.p hG hM ho (by simp only [astep,see_get hb,hx,Option.map_some]) h
end
end
end
section
open Go.Proofs
noncomputable section
structure SlT (t:TypeId):Prop where
 h:∃ d e de,tyF t = some d ∧ d.kind = .slice e ∧ tyF e = some de ∧ de.size = 1
theorem sl22:SlT 22:=⟨_,_,_,rfl,rfl,rfl,rfl⟩
theorem sl56:SlT 56:=⟨_,_,_,rfl,rfl,rfl,rfl⟩
theorem sl117:SlT 117:=⟨_,_,_,rfl,rfl,rfl,rfl⟩
theorem sl36:SlT 36:=⟨_,_,_,rfl,rfl,rfl,rfl⟩
structure OneT (t:TypeId):Prop where
 h:∃ d,tyF t = some d ∧ d.kind.row = false ∧ d.size = 1
theorem one3:OneT 3:=⟨_,rfl,rfl,rfl⟩
theorem one5:OneT 5:=⟨_,rfl,rfl,rfl⟩
theorem one4:OneT 4:=⟨_,rfl,rfl,rfl⟩
theorem one22:OneT 22:=⟨_,rfl,rfl,rfl⟩
theorem one122:OneT 122:=⟨_,rfl,rfl,rfl⟩
section
variable {ρ:Operand → Option V} {M M':Mem} {x a:Operand} {t:TypeId} {v:V} {b o len:Nat} {lim:Option Nat}
theorem st_ix {ix:Operand} {k:IntKind} {i:Nat} (ht:SlT t) (hx:ρ x = some (.sl b o len lim)) (hi:ρ ix = some (.int k i)) (hlt:i < len):astep noX tyF ρ M (.indexAddr t x ix) = some (.pure (.ptr b (o + i))):=by
 obtain ⟨d,e,de,h1,h2,h3,h4⟩:=ht.h
 have:idx len (.int k (i:Int)) = some i:=by rw [idx_eq]; simp [hlt]
 simp only [astep,aIndexA,h1,Option.bind_some,hx,hi,indexAddrV,h2,h3,this,h4,Nat.mul_one,Option.map_some]
theorem st_ld (ht:OneT t) (ha:ρ a = some (.ptr b o)) (hr:rd M b o 1 = some [v]):astep noX tyF ρ M (.load t a) = some (.pure v):=by
 obtain ⟨d,h1,h2,_⟩:=ht.h
 simp only [astep,aLoad,h1,Option.bind_some,ha,loadV,h2,Bool.false_eq_true,if_false,hr,List.head?_cons,Option.map_some,rv]
theorem st_st (ht:OneT t) (ha:ρ a = some (.ptr b o)) (hx:ρ x = some v) (hc:cellsOf v = [v]) (hw:wr M b o [v] = some M'):astep noX tyF ρ M (.store t a x) = some (.skip M'):=by
 obtain ⟨d,h1,_,h3⟩:=ht.h
 simp only [astep,aStore,h1,Option.bind_some,ha,hx,hc,List.length_singleton,h3,if_true,hw,Option.map_some]
theorem st_len {q:TypeId} (ht:SlT q) (hx:ρ x = some (.sl b o len lim)):astep noX tyF ρ M (.call ⟨.builtin .len,#[x],#[q]⟩) = some (.pure (.int .i64 len)):=by
 obtain ⟨d,e,de,h1,h2,_,_⟩:=ht.h
 simp only [astep,aCall,aLen,h1,Option.bind_some,hx,lenV,h2,Option.map_some]
theorem rd_one {n i:Nat} {vs:List V} (h:rd M b o n = some vs) (hv:vs[i]? = some v):rd M b (o + i) 1 = some [v]:=by
 obtain ⟨k,hk,hr⟩:=rd_row h
 unfold rd at h ⊢
 rw [hk] at h ⊢
 simp only [Option.bind_some] at h ⊢
 cases hc:k.cells with
 | none => rw [hc] at h; cases h
 | some cs =>
  rw [hc] at h
  simp only at h ⊢
  split at h
  ·rename_i hle
   injection h with h; subst h
   have hi:=(List.getElem?_eq_some_iff.1 hv).1
   simp only [List.length_take,List.length_drop] at hi
   rw [List.getElem?_take] at hv
   split at hv
   ·rw [List.getElem?_drop] at hv
    rw [if_pos (by omega)]
    congr 1
    apply List.ext_getElem?
    intro j
    cases j with
    | zero => rw [List.getElem?_take,if_pos (by omega),List.getElem?_drop,Nat.add_zero,hv]; rfl
    | succ j => rw [List.getElem?_take,if_neg (by omega)]; simp
   ·cases hv
  ·cases h
end
section
variable {G:GF} {ops:Array Oper} {l:List Nat} {i:Nat} {s:St} {K:St → Prop} {dst:Option Tmp} {op:Op} {ty:TypeId} {pos:String} {af:Array Edge} {v:V} {Mc M':Mem}
theorem AOX.m (hG:GOK G) (hM:s.M = Mc) (ho:ops[i]? = some ⟨dst,op,ty,pos,af,none⟩) (hr:astep noX tyF s.get Mc op = some (.pure v)) (h:AOX G ops l (s.put dst v Mc) K):AOX G ops (i :: l) s K:=by
 subst hM
 exact AOX.p hG ho hr h
theorem AOX.mn (hG:GOK G) (hM:s.M = Mc) (ho:ops[i]? = some ⟨dst,op,ty,pos,af,none⟩) (hr:astep noX tyF s.get Mc op = some (.val v M')) (h:AOX G ops l (s.put dst v M') K):AOX G ops (i :: l) s K:=by
 subst hM
 exact AOX.vl hG ho hr h
end
theorem st_as {ρ:Operand → Option V} {M:Mem} {x:Operand} {v:V} (h:ρ x = some v):astep noX tyF ρ M (.assign x) = some (.pure v):=by simp only [astep,h,Option.map_some]
end
end
section
open Go.Proofs
noncomputable section
def rolN (v k:Nat):Nat:=v * 2 ^ k % 4294967296 ||| v / 2 ^ (32 - k)
theorem rol_split {v k:Nat} (hv:v < 4294967296) (hk:k ≤ 32):rolN v k = (v % 2 ^ (32 - k)) * 2 ^ k + v / 2 ^ (32 - k) ∧ v / 2 ^ (32 - k) < 2 ^ k:=by
 have hp:2 ^ (32 - k) * 2 ^ k = 4294967296:=by rw [← Nat.pow_add,Nat.sub_add_cancel hk]
 have hpos:0 < 2 ^ (32 - k):=Nat.pos_of_ne_zero (by simp)
 have hq:v / 2 ^ (32 - k) < 2 ^ k:=by
  rw [Nat.div_lt_iff_lt_mul hpos,Nat.mul_comm]; omega
 refine ⟨?_,hq⟩
 have e:v * 2 ^ k % 4294967296 = (v % 2 ^ (32 - k)) * 2 ^ k:=by rw [← hp,Nat.mul_mod_mul_right]
 unfold rolN
 rw [e,Nat.mul_comm _ (2 ^ k)]
 exact (Nat.two_pow_add_eq_or_of_lt hq _).symm
theorem rol_lt {v k:Nat} (hv:v < 4294967296) (hk:k ≤ 32):rolN v k < 4294967296:=by
 obtain ⟨h1,h2⟩:=rol_split hv hk
 have hp:2 ^ (32 - k) * 2 ^ k = 4294967296:=by rw [← Nat.pow_add,Nat.sub_add_cancel hk]
 have hpos:0 < 2 ^ (32 - k):=Nat.pos_of_ne_zero (by simp)
 have h3:v % 2 ^ (32 - k) < 2 ^ (32 - k):=Nat.mod_lt _ hpos
 have h4:(v % 2 ^ (32 - k) + 1) * 2 ^ k ≤ 2 ^ (32 - k) * 2 ^ k:=Nat.mul_le_mul_right _ h3
 rw [h1]
 rw [Nat.add_mul,Nat.one_mul] at h4
 omega
theorem rol_back {v k:Nat} (hv:v < 4294967296) (hk:k ≤ 32):rolN (rolN v k) (32 - k) = v:=by
 have hlt:=rol_lt hv hk
 obtain ⟨h1,h2⟩:=rol_split hv hk
 obtain ⟨h3,_⟩:=rol_split (k:=32 - k) hlt (by omega)
 rw [show 32 - (32 - k) = k by omega] at h3
 rw [h3,h1]
 have hpos:0 < 2 ^ k:=Nat.pos_of_ne_zero (by simp)
 rw [Nat.mul_comm (v % 2 ^ (32 - k)),Nat.mul_add_mod,Nat.mod_eq_of_lt h2,Nat.mul_add_div hpos,Nat.div_eq_of_lt h2,Nat.add_zero]
 have:=Nat.div_add_mod v (2 ^ (32 - k))
 rw [Nat.mul_comm] at this
 exact this
theorem rol_0 {v:Nat} (hv:v < 4294967296):rolN v 0 = v ∧ rolN v 32 = v:=by
 constructor
 ·simp only [rolN,Nat.pow_zero,Nat.mul_one,Nat.mod_eq_of_lt hv,Nat.sub_zero]
  rw [Nat.div_eq_of_lt (by simpa using hv),Nat.or_zero]
 ·simp only [rolN,Nat.sub_self,Nat.pow_zero,Nat.div_one]
  have:v * 2 ^ 32 % 4294967296 = 0:=by omega
  rw [this,Nat.zero_or]
def rolK (n:Int):Nat:=(n % 32).toNat
def rolF:List Int → Int
 | [v,n] => (rolN v.toNat (rolK n):Int)
 | _ => 0
def rolD (k:Nat):Mem:=[.dead,.eqn (.shift .shl .u32 (.sym .u32 0 0 4294967295) (.int .u64 k)) (.sym .u32 1 0 4294967295),.eqn (.shift .shr .u32 (.sym .u32 0 0 4294967295) (.int .u64 ((32 - k:Nat):Int))) (.sym .u32 2 0 ((4294967295 / 2 ^ (32 - k):Nat):Int)),.eqn (.bin .or .u32 (.sym .u32 1 0 4294967295) (.sym .u32 2 0 ((4294967295 / 2 ^ (32 - k):Nat):Int))) (.sym .u32 3 0 4294967295)]
theorem rol_runs:(List.range 63).map (fun i:Nat => FN noX tyF fn noS 6 86 [.sym .u32 0 0 4294967295,.int .i64 ((i:Int) - 31)] (List.replicate 1 .dead)) = (List.range 63).map fun i:Nat => some (.sym .u32 3 0 4294967295,rolD (rolK ((i:Int) - 31)),[]):=by kernel_rfl
def nRol:Nf:=⟨86,86,[(.u32,0,4294967295),(.i64,-31,31)],.u32⟩
theorem rol_run {n:Int} (h0:-31 ≤ n) (h1:n ≤ 31):FN noX tyF fn noS 6 86 [.sym .u32 0 0 4294967295,.int .i64 n] (List.replicate 1 .dead) = some (.sym .u32 3 0 4294967295,rolD (rolK n),[]):=by
 have h:=congrArg (fun l => l[(n + 31).toNat]?) rol_runs
 have hlt:(n + 31).toNat < 63:=by omega
 simp only [List.getElem?_map,List.getElem?_range hlt,Option.map_some,Option.some.injEq] at h
 have e:(((n + 31).toNat:Nat):Int) - 31 = n:=by omega
 rw [e] at h
 exact h
theorem wrap32 (m:Nat):IntKind.u32.wrap (m:Int) = ((m % 4294967296:Nat):Int):=by
 have:∀ n:Int,IntKind.u32.wrap n = n % 4294967296:=by
  intro n
  simp [IntKind.wrap,IntKind.bits,IntKind.signed]
 rw [this]; rfl
theorem p2 (j:Nat):(2:Int) ^ j = ((2 ^ j:Nat):Int):=by rw [Int.natCast_pow]; rfl
theorem rol_call {G:GF} (hG:GOK G) (ns:List Int) (M:Mem) (h:nfIn nRol.shs ns):ACall Tryz.prog G 86 (nfInts nRol.shs ns) M (.int .u32 (rolF ns)) M:=by
 match ns,h with
 | [v,n],h =>
  simp only [nRol,nfIn] at h
  obtain ⟨hv0,hv1,hn0,hn1,_⟩:=h
  simp only [nRol,nfInts]
  refine num_call hG (rol_run hn0 hn1) (ins:=[.int .u32 v]) rfl (by simp [Bd.subs,Bd.sub,V.kindIs,V.lo,V.hi,hv0,hv1]) (ns:=[v]) (fun φ => rfl) (fun base => ?_) M
  have hk:rolK n < 32:=by unfold rolK; omega
  simp only [rolF]
  generalize rolK n = k at *
  obtain ⟨x,rfl⟩:=Int.eq_ofNat_of_zero_le hv0
  have hx:x < 4294967296:=by omega
  rw [Int.toNat_natCast]
  have e1:IntKind.u32.wrap ((x:Int) * 2 ^ min k 32) = ((x * 2 ^ k % 4294967296:Nat):Int):=by
   rw [Nat.min_eq_left (by omega),p2,← Int.natCast_mul,wrap32]
  have e2:Int.fdiv (x:Int) (2 ^ min (32 - k) 32) = ((x / 2 ^ (32 - k):Nat):Int):=by
   rw [Nat.min_eq_left (by omega),p2,Int.fdiv_eq_ediv_of_nonneg _ (Int.natCast_nonneg _)]; rfl
  have l1:x * 2 ^ k % 4294967296 < 4294967296:=Nat.mod_lt _ (by decide)
  have l2:x / 2 ^ (32 - k) ≤ 4294967295 / 2 ^ (32 - k):=Nat.div_le_div_right (by omega)
  have l3:4294967295 / 2 ^ (32 - k) ≤ 4294967295:=Nat.div_le_self _ _
  have e3:=(nat_bits .u32 (x * 2 ^ k % 4294967296) (x / 2 ^ (32 - k)) (by simp only [kmax]; omega) (by simp only [kmax]; omega)).2.1
  have hlt:rolN x k < 4294967296:=rol_lt hx (by omega)
  unfold rolN at hlt ⊢
  generalize hA:x * 2 ^ k % 4294967296 = A at *
  generalize hB:x / 2 ^ (32 - k) = B at *
  generalize hC:4294967295 / 2 ^ (32 - k) = C at *
  have hkk:¬ ((k:Int) < 0):=by omega
  have hkk2:¬ (((32 - k:Nat):Int) < 0):=by omega
  have b1:(0:Int) ≤ x ∧ (x:Int) ≤ 4294967295:=⟨hv0,hv1⟩
  have b2:(0:Int) ≤ (A:Int) ∧ (A:Int) ≤ 4294967295:=by omega
  have b3:(0:Int) ≤ (B:Int) ∧ (B:Int) ≤ (C:Int):=by omega
  have s1:solve G (List.drop 1 (rolD k)) (List.map some [(x:Int)]) = [some (x:Int),some (A:Int),some (B:Int),some ((A ||| B:Nat):Int)]:=by
   simp only [rolD,hC,List.drop_succ_cons,List.drop_zero,List.map_cons,List.map_nil,solve,sol1,numOf,Def.val,V.num,V.conc,plOf,List.getElem?_cons_zero,List.getElem?_cons_succ,List.length_cons,List.length_nil,List.cons_append,List.nil_append,Option.bind_some,ashift,hkk,hkk2,if_false,IntKind.bits,Int.toNat_natCast,e1,e2,b1,b2,b3,and_self,if_true,aint,e3]
  rw [s1]
  rfl
def rolX:Rule:=fun M d => match d with
 | .call g 0 k [a,m] => match Nat.beq g 86,defOf M a with
  | true,some (.call g' 0 _ [x,n]) => match Nat.beq g' 86 && ((leI 0 x.lo && leI x.hi 4294967295) && ((leI (-31) n.lo && leI n.hi 31) && (leI (-31) m.lo && leI m.hi 31))) with
   | true => match oppo M n m || oppo M m n with
    | true => retag k x
    | false => none
   | false => none
  | _,_ => none
 | _ => none
where
 oppo (M:Mem) (n m:V):Bool:=match n,m with
  | .int _ a,.int _ b => eqI (a + b) 0
  | n,m => match defOf M m with
   | some (.bin .sub .i64 (.int _ z) y) => eqI z 0 && same y n
   | _ => false
theorem oppo_ok {G:GF} {φ:Pl} {M:Mem} (hE:EqF G φ M) {n m:V} {a b:Int} (h:rolX.oppo M n m = true) (hn:n.num φ = some a) (hm:m.num φ = some b) (ha:-31 ≤ a ∧ a ≤ 31):b = -a:=by
 unfold rolX.oppo at h
 split at h
 ·simp only [V.num,V.conc,Option.some.injEq] at hn hm
  rw [eqI_iff] at h
  omega
 ·split at h
  ·rename_i k z y hd
   simp only [Bool.and_eq_true,eqI_iff] at h
   obtain ⟨rfl,hs⟩:=h
   obtain ⟨k1,h1⟩:=defOf_sound hE hd hm
   obtain ⟨p,q,hp,hq,h2⟩:=val_bin h1
   simp only [V.num,V.conc,Option.some.injEq] at hp
   have:=same_num hs hq hn
   subst this hp
   simp only [aint] at h2
   injection h2 with h2; injection h2 with _ h2
   rw [← h2,wrap_id .i64 _ (by simp only [kmin]; omega) (by simp only [kmax]; omega)]
   omega
  ·cases h
theorem rolX_ok {G:GF} (hR:∀ v n:Int,0 ≤ v → v ≤ 4294967295 → -31 ≤ n → n ≤ 31 → G 86 [v,n] 0 = rolF [v,n]):RuleOK G rolX:=by
 intro φ M d x v hE h hd
 unfold rolX at h
 split at h
 ·rename_i g k a m
  split at h
  ·rename_i g' k' y n hg hda
   have:=Nat.eq_of_beq_eq_true hg; subst this
   split at h
   ·rename_i hb
    simp only [Bool.and_eq_true,leI_iff] at hb
    obtain ⟨hg',hy,hn,hm⟩:=hb
    have:=Nat.eq_of_beq_eq_true hg'; subst this
    simp only [Def.val,nums,Option.map_eq_some_iff,Option.bind_eq_some_iff] at hd
    obtain ⟨l,⟨na,hna,l1,⟨nm,hnm,l2,hl2,rfl⟩,rfl⟩,rfl⟩:=hd
    injection hl2 with hl2; subst hl2
    obtain ⟨k1,h1⟩:=defOf_sound hE hda hna
    simp only [Def.val,nums,Option.map_eq_some_iff,Option.bind_eq_some_iff] at h1
    obtain ⟨l,⟨ny,hny,l1,⟨nn,hnn,l2,hl2,rfl⟩,rfl⟩,h1⟩:=h1
    injection hl2 with hl2; subst hl2
    injection h1 with _ h1
    have by':=V.bnd hny
    have bn:=V.bnd hnn
    have bm:=V.bnd hnm
    split at h
    ·rename_i hc
     obtain ⟨h2,_,_⟩:=retag_ok h hny
     refine ⟨_,rfl,?_⟩
     suffices hgoal:G 86 [na,nm] 0 = ny by rw [hgoal]; exact h2
     have hop:nm = -nn:=by
      rw [Bool.or_eq_true] at hc
      rcases hc with hc | hc
      ·exact oppo_ok hE hc hnn hnm (by omega)
      ·have:=oppo_ok hE hc hnm hnn (by omega)
       omega
     subst hop
     rw [hR ny nn (by omega) (by omega) (by omega) (by omega)] at h1
     have hx:ny.toNat < 4294967296:=by omega
     have hk:rolK nn < 32:=by unfold rolK; omega
     have hl:=rol_lt hx (k:=rolK nn) (by omega)
     simp only [rolF] at h1
     rw [hR na (-nn) (by omega) (by omega) (by omega) (by omega),← h1]
     simp only [rolF,Int.toNat_natCast]
     by_cases h0:rolK nn = 0
     ·have h0':rolK (-nn) = 0:=by unfold rolK at *; omega
      rw [h0,h0',(rol_0 hx).1,(rol_0 hx).1]; omega
     ·have h0':rolK (-nn) = 32 - rolK nn:=by unfold rolK at *; omega
      rw [h0',rol_back hx (by omega)]; omega
    ·cases h
   ·cases h
  ·cases h
 ·cases h
end
end
section
open Go.Proofs
noncomputable section
def bitD (len i:Nat):Mem:=List.replicate len .dead ++ [.ro (symRow .u8 0 255 len 0),.eqn (.shift .shr .u8 (.sym .u8 (i / 8) 0 255) (.int .i64 ((7 - i % 8:Nat):Int))) (.sym .u8 (len + 1) 0 ((255 / 2 ^ (7 - i % 8):Nat):Int)),.eqn (.bin .and .i64 (.sym .i64 (len + 1) 0 ((255 / 2 ^ (7 - i % 8):Nat):Int)) (.int .i64 1)) (.sym .i64 (len + 2) 0 1)]
def bitRuns (len:Nat):Prop:=(List.range (8 * len)).map (fun i:Nat => FN noX tyF fn noS 6 130 [.sl len 0 len none,.int .i64 ((i + 1:Nat):Int)] (small len [symRow .u8 0 255 len 0])) = (List.range (8 * len)).map fun i:Nat => some (.sym .i64 (len + 2) 0 1,bitD len i,[])
theorem bit4:bitRuns 4:=by
 unfold bitRuns
 kernel_rfl
theorem bit8:bitRuns 8:=by
 unfold bitRuns
 kernel_rfl
def bitF (x:List Int) (i:Nat):Int:=(x[i / 8]?).getD 0 / ((2 ^ (7 - i % 8):Nat):Int) % 2
theorem bitF_in (x:List Int) (i:Nat):0 ≤ bitF x i ∧ bitF x i ≤ 1:=by unfold bitF; omega
theorem fits_one {x:List Int} (hb:Bytes x) {M:Mem} {b o len:Nat} {lim:Option Nat} (hl:x.length = len) (hr:rd M b o len = some (u8s' x)) (hlim:LimP M b o len lim):(Bd.mk (u8s' x) [(b,o,lim)]).fits M [symRow .u8 0 255 len 0]:=by
 subst hl
 refine ⟨rfl,?_⟩
 intro i cs0 p h1 h2
 cases i with
 | zero =>
  simp only [List.getElem?_cons_zero,Option.some.injEq] at h1 h2
  subst h1 h2
  refine ⟨u8s' x,?_,?_,?_⟩
  ·have:=subs_symRow (B:=Bd.mk (u8s' x) [(b,o,lim)]) (k:=.u8) (lo:=0) (hi:=255) (cs:=u8s' x) (i:=0) (fun j v hv => by rw [Nat.zero_add]; exact hv) (all_u8 hb)
   rwa [u8s'_len] at this
  ·rw [symRow_len]; exact hr
  ·rw [symRow_len]; exact limP_fit hlim
 | succ i => simp at h1
theorem bit_call {G:GF} (hG:GOK G) {len:Nat} (hrun:bitRuns len) {x:List Int} (hl:x.length = len) (hb:Bytes x) {i:Nat} (hi:i < 8 * len) {M:Mem} {b o:Nat} {lim:Option Nat} (hr:rd M b o len = some (u8s' x)) (hlim:LimP M b o len lim) :
  ACall Tryz.prog G 130 [.sl b o len lim,.int .i64 ((i + 1:Nat):Int)] M (.int .i64 (bitF x i)) M:=by
 have h:=congrArg (fun l => l[i]?) hrun
 simp only [List.getElem?_map,List.getElem?_range hi,Option.map_some,Option.some.injEq] at h
 have hc:=(run hG noX_ok noS_ok 6 _ _ _ _ _ _ h).1
 refine ⟨hc.1,?_⟩
 intro prot W0 φ w us hM hus
 have hlen:(Bd.mk (u8s' x) [(b,o,lim)]).ins.length = len:=by show (u8s' x).length = len; rw [u8s'_len]; exact hl
 have hs:(Bd.mk (u8s' x) [(b,o,lim)]).sub (.sl (Bd.mk (u8s' x) [(b,o,lim)]).ins.length 0 len none) = some (.sl b o len lim):=sub_sl (B:=Bd.mk (u8s' x) [(b,o,lim)]) (r:=0) (len:=len) (p:=(b,o,lim)) rfl rfl
 have hf:=fits_one hb hl hr hlim
 have hq:i / 8 < x.length:=by omega
 have hxq:x[i / 8]? = some x[i / 8]:=List.getElem?_eq_getElem hq
 have hbx:=hb _ (List.getElem_mem hq)
 have e1:Int.fdiv x[i / 8] (2 ^ min (7 - i % 8) 8) = x[i / 8] / ((2 ^ (7 - i % 8):Nat):Int):=by
  rw [Nat.min_eq_left (by omega),p2,Int.fdiv_eq_ediv_of_nonneg _ (Int.natCast_nonneg _)]
 have hpos:0 < 2 ^ (7 - i % 8):=Nat.pos_of_ne_zero (by simp)
 obtain ⟨y,hy⟩:=Int.eq_ofNat_of_zero_le hbx.1
 have e2:x[i / 8] / ((2 ^ (7 - i % 8):Nat):Int) = ((y / 2 ^ (7 - i % 8):Nat):Int):=by rw [hy]; rfl
 have l2:y / 2 ^ (7 - i % 8) ≤ 255 / 2 ^ (7 - i % 8):=Nat.div_le_div_right (by omega)
 have l3:y / 2 ^ (7 - i % 8) ≤ y:=Nat.div_le_self _ _
 have e3:=(nat_bits .i64 (y / 2 ^ (7 - i % 8)) 1 (by simp only [kmax]; omega) (by simp [kmax])).1
 have e4:(y / 2 ^ (7 - i % 8)) &&& 1 = y / 2 ^ (7 - i % 8) % 2:=Nat.and_one_is_mod _
 have eF:bitF x i = ((y / 2 ^ (7 - i % 8) % 2:Nat):Int):=by
  unfold bitF
  rw [hxq,Option.getD_some,e2]; rfl
 generalize hz:y / 2 ^ (7 - i % 8) = z at *
 generalize hC:255 / 2 ^ (7 - i % 8) = C at *
 have hkk:¬ (((7 - i % 8:Nat):Int) < 0):=by omega
 have b1:(0:Int) ≤ x[i / 8] ∧ x[i / 8] ≤ 255:=hbx
 have b2:(0:Int) ≤ (z:Int) ∧ (z:Int) ≤ (C:Int):=by omega
 have b3:(0:Int) ≤ ((z % 2:Nat):Int) ∧ ((z % 2:Nat):Int) ≤ 1:=by omega
 have s1:solve G ((bitD len i).drop len) (x.map some) = x.map some ++ [none] ++ [some (z:Int)] ++ [some ((z % 2:Nat):Int)]:=by
  have hd:(bitD len i).drop len = [.ro (symRow .u8 0 255 len 0),.eqn (.shift .shr .u8 (.sym .u8 (i / 8) 0 255) (.int .i64 ((7 - i % 8:Nat):Int))) (.sym .u8 (len + 1) 0 (C:Int)),.eqn (.bin .and .i64 (.sym .i64 (len + 1) 0 (C:Int)) (.int .i64 1)) (.sym .i64 (len + 2) 0 1)]:=by
   unfold bitD
   rw [hC,List.drop_left' (by simp)]
  have a1:sol1 G (x.map some) (.ro (symRow .u8 0 255 len 0)) = none:=rfl
  have a2:sol1 G (x.map some ++ [none]) (.eqn (.shift .shr .u8 (.sym .u8 (i / 8) 0 255) (.int .i64 ((7 - i % 8:Nat):Int))) (.sym .u8 (len + 1) 0 (C:Int))) = some (z:Int):=by
   have hp:plOf (x.map some ++ [none]) (i / 8) = some (0,0,0,x[i / 8]):=plOf_get (by rw [List.getElem?_append_left (by simp; omega),List.getElem?_map,hxq]; rfl)
   simp only [sol1,List.length_append,List.length_map,List.length_singleton,hl,if_true,numOf,Def.val,V.num,V.conc,hp,Option.bind_some,b1,and_self,ashift,hkk,if_false,IntKind.bits,Int.toNat_natCast,e1,e2]
  have a3:sol1 G (x.map some ++ [none] ++ [some (z:Int)]) (.eqn (.bin .and .i64 (.sym .i64 (len + 1) 0 (C:Int)) (.int .i64 1)) (.sym .i64 (len + 2) 0 1)) = some ((z % 2:Nat):Int):=by
   have hp:plOf (x.map some ++ [none] ++ [some (z:Int)]) (len + 1) = some (0,0,0,(z:Int)):=plOf_get (by rw [List.getElem?_append_right (by simp; omega)]; simp [hl])
   have e3':abits .and .i64 (z:Int) 1 = some (.int .i64 ((z % 2:Nat):Int)):=by rw [← e4]; exact e3
   simp only [sol1,List.length_append,List.length_map,List.length_singleton,hl,if_true,numOf,Def.val,V.num,V.conc,hp,Option.bind_some,b2,and_self,aint,e3']
  rw [hd]
  simp only [solve,a1,a2,a3]
 rw [← hlen] at hc s1
 have hc':ACall Tryz.prog G 130 [.sl (Bd.mk (u8s' x) [(b,o,lim)]).ins.length 0 len none,.int .i64 ((i + 1:Nat):Int)] (small (Bd.mk (u8s' x) [(b,o,lim)]).ins.length [symRow .u8 0 255 len 0]) (.sym .i64 (len + 2) 0 1) (bitD len i):=by
  rw [hlen]; exact (run hG noX_ok noS_ok 6 _ _ _ _ _ _ h).1
 have:=sumcall (B:=⟨u8s' x,[(b,o,lim)]⟩) hc' (subs_cons hs rfl) hf (bl:=[]) (fun i j b hi => by simp at hi) hM hus (nums_u8 x) (v:=.int .i64 (bitF x i)) (N:=[]) (by
  rw [hlen] at s1 ⊢
  rw [s1]
  have:(x.map some ++ [none] ++ [some (z:Int)] ++ [some ((z % 2:Nat):Int)])[len + 2]? = some (some ((z % 2:Nat):Int)):=by
   rw [List.getElem?_append_right (by simp; omega)]; simp [hl]
  simp only [rep,this,eF]) rfl
 simpa using this
end
end
section
open Go.Proofs
noncomputable section
def u8:Sh:=.num .u8 0 255
def fmF:List Int → Int
 | [a,b,md] => fmLoop md 8 0 (kwrap .i64 a) (kwrap .i64 b)
 | _ => 0
def nFm:Nf:=⟨2135,135,[(.u8,0,255),(.u8,0,255),(.i64,0,1000)],.u8⟩
def rQ (w:Int) (gid:Nat):Rn:=⟨gid,137,[.lit (.int .i64 w),u8],[.u8],.sym .u8 0 0 0,[]⟩
def qS:Known:=orS (runS or0X (rQ 0 2137)) (runS or0X (rQ 1 2138))
def hS:Known:=orS (numS or0X nFm fmF) qS
def rH (n:Nat):Rn:=⟨160 + n,116,[u32,.row .u32 n 0 4294967295],[.u32],.sym .u32 0 0 0,[]⟩
def rFold:Rn:=⟨114,114,[.row .u8 8 0 255],[.u32],.sym .u32 0 0 0,[]⟩
def twS (n:Nat):Known:=orS (numS or0X nRol rolF) (orS (runS or0X (rH n)) (runS or0X rFold))
end
end
section
open Go.Proofs
noncomputable section
section
variable {G:GF} {ops:Array Oper} {l:List Nat} {i:Nat} {s:St} {K:St → Prop} {dst:Option Tmp} {op:Op} {ty:TypeId} {pos:String} {af:Array Edge} {gd:Option (Nat × Bool)} {v:V}
theorem AOX.pg (hG:GOK G) (ho:ops[i]? = some ⟨dst,op,ty,pos,af,gd⟩) (hw:wants ops s ⟨dst,op,ty,pos,af,gd⟩ = some true) (hr:astep noX tyF s.get s.M op = some (.pure v)) (h:AOX G ops l (s.put dst v s.M) K):AOX G ops (i :: l) s K:=by
 obtain ⟨s',h1,h2⟩:=h
 exact ⟨s',AOps.cons (AOpV.op (AOpV.step hG noX_ok tyF_ok ho hw hr (v:=v) (M':=s.M) ⟨rfl,rfl⟩)) h1,h2⟩
theorem wants_yes {o p:Oper} {j d:Nat} {w:Bool} (hg:o.guard = some (j,w)) (hj:ops[j]? = some p) (hd:p.dst = some d) (hb:s.get (.tmp d) = some (.bool w)):wants ops s o = some true:=by
 have:s.ts[d]? = some (some (.bool w)):=by
  simp only [St.get] at hb
  split at hb
  ·rename_i v hv; subst hb; exact hv
  ·cases hb
 simp [wants,hg,gave,hj,hd,this]
end
section
variable {ρ:Operand → Option V} {M:Mem} {x y c:Operand} {v a b:V}
theorem st_mv (h:ρ x = some v):astep noX tyF ρ M (.move x) = some (.pure v):=by simp only [astep,h,Option.map_some]
theorem st_bin {op:BinOp} {t r:TypeId} (hx:ρ x = some a) (hy:ρ y = some b) (hv:abin noX (tyF t) M op a b = some (v,none)):astep noX tyF ρ M (.binOp op t x y r) = some (.pure v):=by
 simp only [astep,aBin,hx,hy,Option.bind_some,hv,Option.map_some,rv]
theorem st_cv {t d:TypeId} (hx:ρ x = some a) (hv:convV noX tyF t d M a = some (v,none)):astep noX tyF ρ M (.convert t d x) = some (.pure v):=by
 simp only [astep,aConv,hx,Option.bind_some,hv,Option.map_some,rv]
theorem st_pickF (hc:ρ c = some (.bool false)) (hy:ρ y = some v):astep noX tyF ρ M (.pick c x y) = some (.pure v):=by
 simp [astep,aPick,hc,hy]
theorem st_pickT (hc:ρ c = some (.bool true)) (hx:ρ x = some v):astep noX tyF ρ M (.pick c x y) = some (.pure v):=by
 simp [astep,aPick,hc,hx]
end
theorem st_call2 {ρ:Operand → Option V} {M:Mem} {x y:Operand} {a b:V} {f:Nat} {ts:Array TypeId} (hf:ρ (.func f) = some (.fn f [])) (hx:ρ x = some a) (hy:ρ y = some b):astep noX tyF ρ M (.call ⟨.value (.func f),#[x,y],ts⟩) = some (.call f [a,b]):=by
 simp only [astep,aCall,aCallV,hf,evs,hx,hy,Option.bind_some,Option.map_some,List.nil_append]
theorem wr_last {M:Mem} {cs:List V} {g o:Nat} {v:V} (ho:o < cs.length) (hv:v.one = true):wr (M ++ [.own cs g]) M.length o [v] = some (M ++ [.own (cs.set o v) g]):=by
 have h1:(M ++ [Blk.own cs g])[M.length]? = some (.own cs g):=by rw [List.getElem?_append_right (Nat.le_refl _),Nat.sub_self]; rfl
 simp only [wr,h1,List.length_singleton,List.all_cons,List.all_nil,hv,Bool.and_self,and_true]
 rw [if_pos (by omega)]
 congr 1
 rw [List.set_append_right _ _ (Nat.le_refl _),Nat.sub_self]
 simp only [List.set_cons_zero]
 congr 2
 rw [List.set_eq_take_append_cons_drop,if_pos ho]
 simp
theorem all_lt {p:Nat → Bool} {n:Nat} (h:(List.range n).all p = true):∀ j,j < n → p j = true:=fun j hj => List.all_eq_true.1 h j (List.mem_range.2 hj)
theorem QG.ls {G:GF} {ops:Array Oper} {i:Nat} {s s0:St} {M':Mem} {id:Nat} {Q:AExit → St → Prop} {dst:Option Tmp} {op:Op} {ty:TypeId} {pos:String} {af:Array Edge} {T:List Nat} {Mc:Mem} (hG:GOK G) (hM:s.M = Mc) (hd:dGood ops = true) (hi:i + 1 = ops.size) (hall:∀ j,j < i → bf (msOf ops) j i = true) (ho:ops[i]? = some ⟨dst,op,ty,pos,af,none⟩)
  (hr:astep noX tyF (seeing ops i s).get Mc op = some (.skip M')) (hg:GrowL Mc M' T) (h:Q .normal (s.put dst undefV M')):QG G ops id s0 i s Q:=by
 subst hM
 exact QG.last hd hi hall ho (AOpV.step (s:=seeing ops i s) hG noX_ok tyF_ok ho rfl hr (v:=undefV) (M':=M') ⟨rfl,rfl⟩) hg h
theorem st_make {ρ:Operand → Option V} {M:Mem} {l:Operand} {n:Nat} (hn:n ≤ 1000) (hl:ρ l = some (.int .i64 n)):astep noX tyF ρ M (.makeSlice 22 l l) = some (.val (.sl M.length 0 n (some n)) (M ++ [.own (List.replicate n (.int .u8 0)) 0])):=by
 have hd:∃ d,tyF 22 = some d ∧ elem1 tyF d = some (.int .u8 0,1):=⟨_,rfl,rfl⟩
 obtain ⟨d,h1,h2⟩:=hd
 have hc:0 ≤ (n:Int) ∧ (n:Int) ≤ n ∧ (n:Int) * ((1:Nat):Int) ≤ 2 ^ 48 ∧ (n:Int) < 2 ^ 63:=by omega
 simp only [astep,aMake,h1,Option.bind_some,hl,makeV,h2]
 rw [if_pos hc]
 simp only [Int.toNat_natCast]
theorem kw64 {n:Int} (h0:0 ≤ n) (h1:n ≤ 9223372036854775807):kwrap .i64 n = n:=by rw [kwrap_eq]; exact pos_wrap h0 h1
theorem kw8 {n:Int} (h0:0 ≤ n) (h1:n ≤ 255):kwrap .u8 n = n:=by rw [kwrap_eq]; exact pos_wrap h0 h1
theorem abin_add {d:Option Ty} {M:Mem} {a b:Int} (h0:0 ≤ a + b) (h1:a + b ≤ 9223372036854775807):abin noX d M .add (.int .i64 a) (.int .i64 b) = some (.int .i64 (a + b),none):=by
 simp [abin,bInt,bLit,eint,kw64 h0 h1]
theorem abin_sub {d:Option Ty} {M:Mem} {a b:Int} (h0:0 ≤ a - b) (h1:a - b ≤ 9223372036854775807):abin noX d M .sub (.int .i64 a) (.int .i64 b) = some (.int .i64 (a - b),none):=by
 simp [abin,bInt,bLit,eint,kw64 h0 h1]
theorem abin_quo8 {d:Option Ty} {M:Mem} {a:Nat} (h1:(a:Int) ≤ 9223372036854775807):abin noX d M .quo (.int .i64 a) (.int .i64 8) = some (.int .i64 ((a / 8:Nat):Int),none):=by
 have e:(a:Int).tdiv 8 = ((a / 8:Nat):Int):=rfl
 have:a / 8 ≤ a:=Nat.div_le_self _ _
 simp only [abin,bInt,bLit,if_true,eint,e]
 rw [kw64 (by omega) (by omega)]
 rfl
theorem abin_rem8 {d:Option Ty} {M:Mem} {a:Nat}:abin noX d M .rem (.int .i64 a) (.int .i64 8) = some (.int .i64 ((a % 8:Nat):Int),none):=by
 have e:(a:Int).tmod 8 = ((a % 8:Nat):Int):=rfl
 simp [abin,bInt,bLit,eint,aint,e]
theorem abin_lss {d:Option Ty} {M:Mem} {k:IntKind} {a b:Int}:abin noX d M .lss (.int k a) (.int k b) = some (.bool (decide (a < b)),none):=by
 simp only [abin,bInt,bLit,if_true,eint_eq,aint,Option.map_some]
theorem abin_shlk {d:Option Ty} {M:Mem} {a c:Nat} (ha:a ≤ 1) (hc:c ≤ 7):abin noX d M .shl (.int .i64 a) (.int .i64 c) = some (.int .i64 ((a * 2 ^ c:Nat):Int),none):=by
 have h1:a * 2 ^ c ≤ 1 * 2 ^ 7:=Nat.mul_le_mul ha (Nat.pow_le_pow_right (by decide) hc)
 have h2:¬ ((c:Int) < 0):=by omega
 simp only [abin,bInt,bLit,eshift,h2,if_false,Int.toNat_natCast,IntKind.bits,Option.map_some]
 rw [Nat.min_eq_left (by omega),← Int.natCast_mul,kw64 (by omega) (by omega)]
theorem abin_or8 {d:Option Ty} {M:Mem} {a b:Nat} (ha:a ≤ 255) (hb:b ≤ 255):abin noX d M .or (.int .u8 a) (.int .u8 b) = some (.int .u8 ((a ||| b:Nat):Int),none):=by
 have:=(nat_bits .u8 a b (by simp only [kmax]; omega) (by simp only [kmax]; omega)).2.1
 simp [abin,bInt,bLit,eint_eq,aint,this]
def pmV (x:List Int) (tk:Nat) (k:Nat) (o:Int):Int:=((o.toNat ||| (bitF x (tk - 1)).toNat * 2 ^ (7 - k % 8):Nat):Int)
def pmStep (x:List Int) (tb:List Nat) (k:Nat) (out:List Int):List Int:=out.set (k / 8) (pmV x ((tb[k]?).getD 1) k ((out[k / 8]?).getD 0))
theorem pmV_in {x:List Int} {tk k:Nat} {o:Int} (h0:0 ≤ o) (h1:o ≤ 255):0 ≤ pmV x tk k o ∧ pmV x tk k o ≤ 255:=by
 have hb:=bitF_in x (tk - 1)
 have h2:(bitF x (tk - 1)).toNat * 2 ^ (7 - k % 8) ≤ 1 * 2 ^ 7:=Nat.mul_le_mul (by omega) (Nat.pow_le_pow_right (by decide) (by omega))
 have h3:o.toNat ||| (bitF x (tk - 1)).toNat * 2 ^ (7 - k % 8) < 2 ^ 8:=Nat.or_lt_two_pow (by omega) (by omega)
 unfold pmV
 omega
structure PmA (M:Mem) (b o lb t ot lt:Nat) (lim limt:Option Nat) (x:List Int) (tb:List Nat):Prop where
 run:bitRuns lb
 xl:x.length = lb
 xb:Bytes x
 rx:rd M b o lb = some (u8s' x)
 lx:LimP M b o lb lim
 tl:tb.length = lt
 tin:∀ n ∈ tb,1 ≤ n ∧ n ≤ 8 * lb
 rt:rd M t ot lt = some (tb.map fun n:Nat => V.int .i64 n)
 small:lt ≤ 1000 ∧ lb ≤ 8
structure PmS (s:St) (M:Mem) (b o lb t ot lt:Nat) (lim limt:Option Nat) (k:Nat) (out:List Int):Prop where
 len:s.ts.length = 55
 ds:s.ds = []
 mem:s.M = M ++ [.own (u8s' out) 0]
 g0:s.get (.tmp 0) = some (.sl b o lb lim)
 g1:s.get (.tmp 1) = some (.sl t ot lt limt)
 g6:s.get (.tmp 6) = some (.sl M.length 0 ((lt + 7) / 8) (some ((lt + 7) / 8)))
 g15:s.get (.tmp 15) = some (.int .i64 lt)
 g16:s.get (.tmp 16) = some (.int .i64 k)
 ol:out.length = (lt + 7) / 8
 ob:Bytes out
def pmLoop:Code:=match (fnOf Tryz.f105).body with
 | .seq _ (.seq _ (.seq (.seq _ (.block _ (.loop c))) _)) => c
 | _ => .skip
theorem get_put_no {s:St} {t:Nat} {v:V} {M:Mem}:(s.put none v M).get (.tmp t) = s.get (.tmp t):=rfl
def pmReg:Code:=match pmLoop with
 | .seq _ (.seq _ (.seq (.block _ (.seq _ (.seq _ r))) _)) => r
 | _ => .skip
set_option maxHeartbeats 2000000 in
theorem pm_draw {G:GF} (hG:GOK G) {s3:St} {M:Mem} {b o lb t ot lt:Nat} {lim limt:Option Nat} {x:List Int} {tb:List Nat} {k:Nat} {out:List Int} {Q:AExit → St → Prop} (hA:PmA M b o lb t ot lt lim limt x tb) (h3:PmS s3 M b o lb t ot lt lim limt k out) (h37:s3.get (.tmp 7) = some (.int .i64 k)) (hk:k < lt)
  (hQ:∀ s',PmS s' M b o lb t ot lt lim limt k (pmStep x tb k out) → Q .normal s'):AWX G pmReg s3 Q:=by
 obtain ⟨hl1,hl2⟩:=hA.small
 have hkt:k < tb.length:=by rw [hA.tl]; exact hk
 have htk:=hA.tin _ (List.getElem_mem hkt)
 have hrt:∀ E:Mem,rd (M ++ E) t (ot + k) 1 = some [.int .i64 (tb[k]:Nat)]:=fun E => rd_one (rd_app hA.rt) (by rw [List.getElem?_map,List.getElem?_eq_getElem hkt]; rfl)
 generalize htke:tb[k] = tk at *
 have hko:k / 8 < (lt + 7) / 8:=by omega
 have hkl:k / 8 < out.length:=by rw [h3.ol]; exact hko
 have hoo:=h3.ob _ (List.getElem_mem hkl)
 have hro:rd (M ++ [.own (u8s' out) 0]) M.length (k / 8) 1 = some [.int .u8 out[k / 8]]:=by
  have h1:rd (M ++ [.own (u8s' out) 0]) M.length 0 out.length = some (u8s' out):=by
   simp [rd,u8s'_len,Blk.cells]
   rw [← u8s'_len out,List.take_length]
  have:=rd_one (i:=k / 8) h1 (v:=.int .u8 out[k / 8]) (by simp [u8s',List.getElem?_eq_getElem hkl])
  rwa [Nat.zero_add] at this
 have hlimE:LimP (M ++ [.own (u8s' out) 0]) b o lb lim:=by
  have:=hA.lx
  cases lim with
  | some c => exact this
  | none =>
   obtain ⟨kk,hkk,_⟩:=rd_row hA.rx
   show o + lb ≤ known _ b
   rw [known_app (List.getElem?_eq_some_iff.1 hkk).1]; exact this
 have hcall:=bit_call hG hA.run hA.xl hA.xb (i:=tk - 1) (by omega) (rd_app (E:=[.own (u8s' out) 0]) hA.rx) hlimE
 rw [show tk - 1 + 1 = tk by omega] at hcall
 have hbit:=bitF_in x (tk - 1)
 refine AWX.drawn ?_
 refine QG.mv hG h3.mem rfl (by kernel_rfl) h3.g6 ?_
 refine QG.mv hG put_mem rfl (by kernel_rfl) (by rw [get_put_ne (by decide),h37]) ?_
 refine QG.p (v:=.int .i64 ((k / 8:Nat):Int)) hG put_mem rfl (st_bin (by rw [see_get (by kernel_rfl)]; exact get_put (by simp only [put_len,h3.len]; decide)) rfl (abin_quo8 (by omega))) ?_
 refine QG.p (v:=.ptr M.length (0 + k / 8)) hG put_mem rfl (st_ix sl22 (by rw [see_get (by kernel_rfl),get_put_ne (by decide),get_put_ne (by decide)]; exact get_put (by rw [h3.len]; decide)) (by rw [see_get (by kernel_rfl)]; exact get_put (by simp only [put_len,h3.len]; decide)) hko) ?_
 refine QG.p (v:=.int .u8 out[k / 8]) hG put_mem rfl (st_ld one5 (by rw [see_get (by kernel_rfl)]; exact get_put (by simp only [put_len,h3.len]; decide)) (by rw [Nat.zero_add]; exact hro)) ?_
 refine QG.mv hG put_mem rfl (by kernel_rfl) (by simp only [get_put_ne,ne_eq,Nat.reduceEqDiff,not_false_eq_true]; exact h3.g0) ?_
 refine QG.mv hG put_mem rfl (by kernel_rfl) (by simp only [get_put_ne,ne_eq,Nat.reduceEqDiff,not_false_eq_true]; exact h3.g1) ?_
 refine QG.mv hG put_mem rfl (by kernel_rfl) (by simp only [get_put_ne,ne_eq,Nat.reduceEqDiff,not_false_eq_true]; exact h37) ?_
 refine QG.p (v:=.ptr t (ot + k)) hG put_mem rfl (st_ix sl56 (by rw [see_get (by kernel_rfl),get_put_ne (by decide)]; exact get_put (by simp only [put_len,h3.len]; decide)) (by rw [see_get (by kernel_rfl)]; exact get_put (by simp only [put_len,h3.len]; decide)) hk) ?_
 refine QG.p (v:=.int .i64 (tk:Nat)) hG put_mem rfl (st_ld one3 (by rw [see_get (by kernel_rfl)]; exact get_put (by simp only [put_len,h3.len]; decide)) (hrt _)) ?_
 refine QG.cl (v:=.int .i64 (bitF x (tk - 1))) hG put_mem rfl (st_call2 rfl (by rw [see_get (by kernel_rfl),get_put_ne (by decide),get_put_ne (by decide),get_put_ne (by decide),get_put_ne (by decide)]; exact get_put (by simp only [put_len,h3.len]; decide)) (by rw [see_get (by kernel_rfl)]; exact get_put (by simp only [put_len,h3.len]; decide))) hcall ?_
 refine QG.mv hG put_mem rfl (by kernel_rfl) (by simp only [get_put_ne,ne_eq,Nat.reduceEqDiff,not_false_eq_true]; exact h37) ?_
 refine QG.p (v:=.int .i64 ((k % 8:Nat):Int)) hG put_mem rfl (st_bin (by rw [see_get (by kernel_rfl)]; exact get_put (by simp only [put_len,h3.len]; decide)) rfl abin_rem8) ?_
 refine QG.p (v:=.int .i64 ((7 - k % 8:Nat):Int)) hG put_mem rfl (st_bin rfl (by rw [see_get (by kernel_rfl)]; exact get_put (by simp only [put_len,h3.len]; decide)) (by rw [show ((7 - k % 8:Nat):Int) = 7 - ((k % 8:Nat):Int) by omega]; exact abin_sub (a:=7) (by omega) (by omega))) ?_
 refine QG.p (v:=.int .i64 (((bitF x (tk - 1)).toNat * 2 ^ (7 - k % 8):Nat):Int)) hG put_mem rfl (st_bin (by rw [see_get (by kernel_rfl),get_put_ne (by decide),get_put_ne (by decide),get_put_ne (by decide)]; exact get_put (by simp only [put_len,h3.len]; decide)) (by rw [see_get (by kernel_rfl)]; exact get_put (by simp only [put_len,h3.len]; decide)) (by
  have:=abin_shlk (d:=tyF 3) (M:=M ++ [.own (u8s' out) 0]) (a:=(bitF x (tk - 1)).toNat) (c:=7 - k % 8) (by omega) (by omega)
  rw [show (((bitF x (tk - 1)).toNat:Nat):Int) = bitF x (tk - 1) by omega] at this
  exact this)) ?_
 have hsh:(bitF x (tk - 1)).toNat * 2 ^ (7 - k % 8) ≤ 1 * 2 ^ 7:=Nat.mul_le_mul (by omega) (Nat.pow_le_pow_right (by decide) (by omega))
 refine QG.p (v:=.int .u8 (((bitF x (tk - 1)).toNat * 2 ^ (7 - k % 8):Nat):Int)) hG put_mem rfl (st_cv (by rw [see_get (by kernel_rfl)]; exact get_put (by simp only [put_len,h3.len]; decide)) (by
  show some (V.int .u8 (kwrap .u8 _),none) = _
  rw [kw8 (by omega) (by omega)])) ?_
 refine QG.p (v:=.int .u8 (pmV x tk k out[k / 8])) hG put_mem rfl (st_bin (by rw [see_get (by kernel_rfl)]; simp only [get_put_ne,ne_eq,Nat.reduceEqDiff,not_false_eq_true]; exact get_put (by simp only [put_len,h3.len]; decide)) (by rw [see_get (by kernel_rfl)]; exact get_put (by simp only [put_len,h3.len]; decide)) (by
  have:=abin_or8 (d:=tyF 5) (M:=M ++ [.own (u8s' out) 0]) (a:=(out[k / 8]).toNat) (b:=(bitF x (tk - 1)).toNat * 2 ^ (7 - k % 8)) (by omega) (by omega)
  rw [show ((out[k / 8]).toNat:Int) = out[k / 8] by omega] at this
  exact this)) ?_
 refine QG.p (v:=.ptr M.length (0 + k / 8)) hG put_mem rfl (st_ix sl22 (by rw [see_get (by kernel_rfl)]; simp only [get_put_ne,ne_eq,Nat.reduceEqDiff,not_false_eq_true]; exact get_put (by rw [h3.len]; decide)) (by rw [see_get (by kernel_rfl)]; simp only [get_put_ne,ne_eq,Nat.reduceEqDiff,not_false_eq_true]; exact get_put (by simp only [put_len,h3.len]; decide)) hko) ?_
 have hw:wr (M ++ [.own (u8s' out) 0]) M.length (k / 8) [.int .u8 (pmV x tk k out[k / 8])] = some (M ++ [.own (u8s' (pmStep x tb k out)) 0]):=by
  rw [wr_last (by rw [u8s'_len]; exact hkl) rfl]
  have e1:(tb[k]?).getD 1 = tk:=by rw [List.getElem?_eq_getElem hkt,htke]; rfl
  have e2:(out[k / 8]?).getD 0 = out[k / 8]:=by rw [List.getElem?_eq_getElem hkl]; rfl
  simp only [pmStep,e1,e2,u8s',List.map_set]
 refine QG.ls (Mc:=M ++ [.own (u8s' out) 0]) (M':=M ++ [.own (u8s' (pmStep x tb k out)) 0]) hG put_mem (by kernel_rfl) rfl (all_lt (by kernel_rfl)) rfl (st_st one5 (by rw [see_get (by kernel_rfl)]; exact get_put (by simp only [put_len,h3.len]; decide)) (by rw [see_get (by kernel_rfl),get_put_ne (by decide)]; exact get_put (by simp only [put_len,h3.len]; decide)) rfl (by rw [Nat.zero_add]; exact hw)) (Grow.toL (wr_grow hw)) ?_
 have hpin:=pmV_in (x:=x) (tk:=tk) (k:=k) hoo.1 hoo.2
 refine hQ _ ⟨by simp only [put_len,h3.len],by simp only [put_ds,h3.ds],by simp only [put_mem],by simp only [get_put_no,get_put_ne,ne_eq,Nat.reduceEqDiff,not_false_eq_true]; exact h3.g0,by simp only [get_put_no,get_put_ne,ne_eq,Nat.reduceEqDiff,not_false_eq_true]; exact h3.g1,by simp only [get_put_no,get_put_ne,ne_eq,Nat.reduceEqDiff,not_false_eq_true]; exact h3.g6,by simp only [get_put_no,get_put_ne,ne_eq,Nat.reduceEqDiff,not_false_eq_true]; exact h3.g15,by simp only [get_put_no,get_put_ne,ne_eq,Nat.reduceEqDiff,not_false_eq_true]; exact h3.g16,by simp [pmStep,h3.ol],?_⟩
 intro n hn
 rcases List.mem_or_eq_of_mem_set hn with hn | rfl
 ·exact h3.ob n hn
 ·have e1:(tb[k]?).getD 1 = tk:=by rw [List.getElem?_eq_getElem hkt,htke]; rfl
  have e2:(out[k / 8]?).getD 0 = out[k / 8]:=by rw [List.getElem?_eq_getElem hkl]; rfl
  rw [e1,e2]; exact hpin
theorem pm_round {G:GF} (hG:GOK G) {s:St} {M:Mem} {b o lb t ot lt:Nat} {lim limt:Option Nat} {x:List Int} {tb:List Nat} {k:Nat} {out:List Int} {Q:AExit → St → Prop} (hA:PmA M b o lb t ot lt lim limt x tb) (h:PmS s M b o lb t ot lt lim limt k out) (hk:k < lt)
  (hQ:∀ s',PmS s' M b o lb t ot lt lim limt (k + 1) (pmStep x tb k out) → LX G pmLoop s' Q):AWX G pmLoop s (nx Q fun s1 => LX G pmLoop s1 Q):=by
 obtain ⟨hl1,hl2⟩:=hA.small
 refine AWX.seq (AWX.region ?_)
 refine AOX.bin hG rfl h.g16 h.g15 abin_lss (AOX.nil ?_)
 refine AWX.seq (AWX.cond (t:=true) (by rw [get_put (by rw [h.len]; decide)]; simp [hk]) (AWX.skip ?_))
 refine AWX.cut (fun s1 => PmS s1 M b o lb t ot lt lim limt k (pmStep x tb k out)) (AWX.block ?_) ?_
 ·generalize hs:St.put _ _ _ _ = s0
  have h0:PmS s0 M b o lb t ot lt lim limt k out:=by
   subst hs
   exact ⟨by simp only [put_len,h.len],by simp only [put_ds,h.ds],by simp only [put_mem,h.mem],by simp [get_put_ne,h.g0],by simp [get_put_ne,h.g1],by simp [get_put_ne,h.g6],by simp [get_put_ne,h.g15],by simp [get_put_ne,h.g16],h.ol,h.ob⟩
  clear hs
  have hkt:k < tb.length:=by rw [hA.tl]; exact hk
  have htk:=hA.tin _ (List.getElem_mem hkt)
  have hrt:∀ E:Mem,rd (M ++ E) t (ot + k) 1 = some [.int .i64 (tb[k]:Nat)]:=fun E => rd_one (rd_app hA.rt) (by rw [List.getElem?_map,List.getElem?_eq_getElem hkt]; rfl)
  generalize htke:tb[k] = tk at *
  refine AWX.seq (AWX.region ?_)
  refine AOX.mv hG rfl h0.g16 (AOX.ws' hG rfl (get_put (by rw [h0.len]; decide)) (AOX.nil ?_))
  generalize hs:St.put _ _ _ _ = s1
  have h1:PmS s1 M b o lb t ot lt lim limt k out ∧ s1.get (.tmp 7) = some (.int .i64 k):=by
   subst hs
   exact ⟨⟨by simp only [put_len,h0.len],by simp only [put_ds,h0.ds],by simp only [put_mem,h0.mem],by simp [get_put_ne,h0.g0],by simp [get_put_ne,h0.g1],by simp [get_put_ne,h0.g6],by simp [get_put_ne,h0.g15],by simp [get_put_ne,h0.g16],h0.ol,h0.ob⟩,get_put (by simp only [put_len,h0.len]; decide)⟩
  clear hs
  obtain ⟨h1,h17⟩:=h1
  refine AWX.cut (fun s2 => PmS s2 M b o lb t ot lt lim limt k out ∧ s2.get (.tmp 7) = some (.int .i64 k)) (AWX.seq (AWX.region ?_)) ?_
  ·refine AOX.mv hG rfl h1.g1 (AOX.mv hG rfl (by rw [get_put_ne (by decide),h17]) ?_)
   refine AOX.p hG rfl (st_ix sl56 (by rw [get_put_ne (by decide),get_put (by rw [h1.len]; decide)]) (get_put (by simp only [put_len,h1.len]; decide)) hk) ?_
   refine AOX.p hG rfl (st_ld one3 (get_put (by simp only [put_len,h1.len]; decide)) (by simp only [put_mem,h1.mem]; exact hrt _)) ?_
   refine AOX.bin hG rfl (get_put (by simp only [put_len,h1.len]; decide)) get_int (by rw [abin_lss,decide_eq_false (by omega)]) ?_
   refine AOX.mv hG rfl (get_put (by simp only [put_len,h1.len]; decide)) ?_
   generalize hs:St.put _ _ _ _ = s2
   have h2:PmS s2 M b o lb t ot lt lim limt k out ∧ s2.get (.tmp 7) = some (.int .i64 k) ∧ s2.get (.tmp 24) = some (.bool false):=by
    subst hs
    exact ⟨⟨by simp only [put_len,h1.len],by simp only [put_ds,h1.ds],by simp only [put_mem,h1.mem],by simp [get_put_ne,h1.g0],by simp [get_put_ne,h1.g1],by simp [get_put_ne,h1.g6],by simp [get_put_ne,h1.g15],by simp [get_put_ne,h1.g16],h1.ol,h1.ob⟩,by simp [get_put_ne,h17],get_put (by simp only [put_len,h1.len]; decide)⟩
   clear hs
   obtain ⟨h2,h27,h224⟩:=h2
   refine AOX.pg hG rfl (wants_yes rfl rfl rfl h224) (st_mv h2.g1) ?_
   refine AOX.pg hG rfl (wants_yes rfl rfl rfl (by simp [get_put_ne,h224])) (st_mv (by rw [get_put_ne (by decide),h27])) ?_
   refine AOX.pg hG rfl (wants_yes rfl rfl rfl (by simp [get_put_ne,h224])) (st_ix sl56 (by rw [get_put_ne (by decide),get_put (by rw [h2.len]; decide)]) (get_put (by simp only [put_len,h2.len]; decide)) hk) ?_
   refine AOX.pg hG rfl (wants_yes rfl rfl rfl (by simp [get_put_ne,h224])) (st_ld one3 (get_put (by simp only [put_len,h2.len]; decide)) (by simp only [put_mem,h2.mem]; exact hrt _)) ?_
   refine AOX.pg hG rfl (wants_yes rfl rfl rfl (by simp [get_put_ne,h224])) (st_bin (get_put (by simp only [put_len,h2.len]; decide)) get_int (abin_sub (a:=(tk:Int)) (b:=1) (by omega) (by omega))) ?_
   rw [show ((tk:Int) - 1) = ((tk - 1:Nat):Int) by omega]
   refine AOX.pg hG rfl (wants_yes rfl rfl rfl (by simp [get_put_ne,h224])) (st_bin (get_put (by simp only [put_len,h2.len]; decide)) get_int (abin_quo8 (by omega))) ?_
   refine AOX.pg (v:=.sl b o lb lim) hG rfl (wants_yes rfl rfl rfl (by simp [get_put_ne,h224])) (st_mv (by simp [get_put_ne,h2.g0])) ?_
   refine AOX.pg hG rfl (wants_yes rfl rfl rfl (by simp [get_put_ne,h224])) (st_len sl22 (get_put (by simp only [put_len,h2.len]; decide))) ?_
   refine AOX.pg hG rfl (wants_yes rfl rfl rfl (by simp [get_put_ne,h224])) (st_bin (by rw [get_put_ne (by decide),get_put_ne (by decide),get_put (by simp only [put_len,h2.len]; decide)]) (get_put (by simp only [put_len,h2.len]; decide)) (by rw [abin_geq,decide_eq_false (by omega)])) ?_
   refine AOX.p hG rfl (st_pickF (by simp [get_put_ne,h224]) (get_put (by simp only [put_len,h2.len]; decide))) (AOX.nil ?_)
   refine AWX.condF (get_put (by simp only [put_len,h2.len]; decide)) (AWX.skip ?_)
   exact ⟨⟨by simp only [put_len,h2.len],by simp only [put_ds,h2.ds],by simp only [put_mem,h2.mem],by simp [get_put_ne,h2.g0],by simp [get_put_ne,h2.g1],by simp [get_put_ne,h2.g6],by simp [get_put_ne,h2.g15],by simp [get_put_ne,h2.g16],h2.ol,h2.ob⟩,by simp [get_put_ne,h27]⟩
  ·rintro s3 ⟨h3,h37⟩
   exact pm_draw hG hA h3 h37 hk fun _ h => h
 ·intro s1 h1
  refine AWX.region ?_
  refine AOX.bin hG rfl h1.g16 get_int (abin_add (a:=(k:Int)) (b:=1) (by omega) (by omega)) ?_
  refine AOX.mv hG rfl (get_put (by rw [h1.len]; decide)) (AOX.nil (hQ _ ?_))
  refine ⟨by simp only [put_len,h1.len],by simp only [put_ds,h1.ds],by simp only [put_mem,h1.mem],by simp [get_put_ne,h1.g0],by simp [get_put_ne,h1.g1],by simp [get_put_ne,h1.g6],by simp [get_put_ne,h1.g15],?_,h1.ol,h1.ob⟩
  rw [get_put (by simp only [put_len,h1.len]; decide)]; rfl
def pmF (x:List Int) (tb:List Nat):Nat → Nat → List Int → List Int
 | 0,_,out => out
 | n + 1,k,out => pmF x tb n (k + 1) (pmStep x tb k out)
theorem pm_loop {G:GF} (hG:GOK G) {M:Mem} {b o lb t ot lt:Nat} {lim limt:Option Nat} {x:List Int} {tb:List Nat} {Q:AExit → St → Prop} (hA:PmA M b o lb t ot lt lim limt x tb):∀ (n:Nat) {s:St} {k:Nat} {out:List Int},PmS s M b o lb t ot lt lim limt k out → k + n = lt →
  (∀ s',PmS s' M b o lb t ot lt lim limt lt (pmF x tb n k out) → Q (.exit 0) s') → LX G pmLoop s Q
 | 0,s,k,out,h,hk,hQ => by
  have hkl:k = lt:=by omega
  subst hkl
  refine LX.step (AWX.seq (AWX.region ?_))
  refine AOX.bin hG rfl h.g16 h.g15 abin_lss (AOX.nil ?_)
  refine AWX.seq (AWX.cond (t:=false) (by rw [get_put (by rw [h.len]; decide)]; simp) (AWX.exit ?_))
  exact hQ _ ⟨by simp only [put_len,h.len],by simp only [put_ds,h.ds],by rw [put_mem,h.mem]; rfl,by simp [get_put_ne,h.g0],by simp [get_put_ne,h.g1],by simp [get_put_ne,h.g6],by simp [get_put_ne,h.g15],by simp [get_put_ne,h.g16],h.ol,h.ob⟩
 | n + 1,s,k,out,h,hk,hQ => LX.step (pm_round hG hA h (by omega) fun s' h' => pm_loop hG hA n h' (by omega) hQ)
def pmOut (x:List Int) (tb:List Nat):List Int:=pmF x tb tb.length 0 (List.replicate ((tb.length + 7) / 8) 0)
theorem pm_call {G:GF} (hG:GOK G) {M:Mem} {b o lb t ot lt:Nat} {lim limt:Option Nat} {x:List Int} {tb:List Nat} (hA:PmA M b o lb t ot lt lim limt x tb) :
  ACall Tryz.prog G 105 [.sl b o lb lim,.sl t ot lt limt] M (.tup [.sl M.length 0 ((lt + 7) / 8) (some ((lt + 7) / 8)),.bool true]) (M ++ [.own (u8s' (pmOut x tb)) 0]):=by
 obtain ⟨hl1,hl2⟩:=hA.small
 refine acall_awx (fv:=fnOf Tryz.f105) rfl ?_
 generalize hs:(⟨start (fnOf Tryz.f105) [.sl b o lb lim,.sl t ot lt limt],[],M⟩:St) = s
 have g0:s.get (.tmp 0) = some (.sl b o lb lim):=by subst hs; rfl
 have g1:s.get (.tmp 1) = some (.sl t ot lt limt):=by subst hs; rfl
 have hl:s.ts.length = 55:=by subst hs; rfl
 have hd:s.ds = []:=by subst hs; rfl
 have hm:s.M = M:=by subst hs; rfl
 clear hs
 refine AWX.seq (AWX.region ?_)
 refine AOX.m hG hm rfl (st_as get_nilsl) (AOX.m hG put_mem rfl (st_as get_bool) (AOX.nil ?_))
 generalize hs:St.put _ _ _ _ = s1
 have h1:s1.get (.tmp 0) = some (.sl b o lb lim) ∧ s1.get (.tmp 1) = some (.sl t ot lt limt) ∧ s1.ts.length = 55 ∧ s1.ds = [] ∧ s1.M = M:=by
  subst hs
  exact ⟨by simp [get_put_ne,g0],by simp [get_put_ne,g1],by simp only [put_len,hl],by simp only [put_ds,hd],put_mem⟩
 clear hs g0 g1 hl hd hm
 obtain ⟨g0,g1,hl,hd,hm⟩:=h1
 refine AWX.seq (AWX.region ?_)
 refine AOX.m hG hm rfl (st_mv g1) ?_
 refine AOX.m (v:=.int .i64 lt) hG put_mem rfl (st_len sl56 (get_put (by rw [hl]; decide))) ?_
 refine AOX.m (v:=.int .i64 ((lt:Int) + 8)) hG put_mem rfl (st_bin (get_put (by simp only [put_len,hl]; decide)) get_int (abin_add (by omega) (by omega))) ?_
 refine AOX.m (v:=.int .i64 ((lt:Int) + 8 - 1)) hG put_mem rfl (st_bin (get_put (by simp only [put_len,hl]; decide)) get_int (abin_sub (by omega) (by omega))) ?_
 rw [show (lt:Int) + 8 - 1 = ((lt + 7:Nat):Int) by omega]
 refine AOX.m (v:=.int .i64 (((lt + 7) / 8:Nat):Int)) hG put_mem rfl (st_bin (get_put (by simp only [put_len,hl]; decide)) get_int (abin_quo8 (by omega))) ?_
 refine AOX.mn hG put_mem rfl (st_make (n:=(lt + 7) / 8) (by omega) (get_put (by simp only [put_len,hl]; decide))) ?_
 refine AOX.m hG put_mem rfl (st_as (get_put (by simp only [put_len,hl]; decide))) (AOX.nil ?_)
 generalize hs:St.put _ _ _ _ = s2
 have h2:s2.get (.tmp 0) = some (.sl b o lb lim) ∧ s2.get (.tmp 1) = some (.sl t ot lt limt) ∧ s2.get (.tmp 6) = some (.sl M.length 0 ((lt + 7) / 8) (some ((lt + 7) / 8))) ∧ s2.ts.length = 55 ∧ s2.ds = [] ∧ s2.M = M ++ [.own (List.replicate ((lt + 7) / 8) (.int .u8 0)) 0]:=by
  subst hs
  exact ⟨by simp [get_put_ne,g0],by simp [get_put_ne,g1],get_put (by simp only [put_len,hl]; decide),by simp only [put_len,hl],by simp only [put_ds,hd],put_mem⟩
 clear hs g0 g1 hl hd hm
 obtain ⟨g0,g1,g6,hl,hd,hm⟩:=h2
 refine AWX.seq (AWX.seq (AWX.region ?_))
 refine AOX.m hG hm rfl (st_mv g1) ?_
 refine AOX.m (v:=.int .i64 lt) hG put_mem rfl (st_len sl56 (get_put (by rw [hl]; decide))) ?_
 refine AOX.m hG put_mem rfl (st_mv get_int) (AOX.nil ?_)
 have hz:u8s' (List.replicate ((lt + 7) / 8) 0) = List.replicate ((lt + 7) / 8) (V.int .u8 0):=by simp [u8s']
 refine AWX.block (AWX.loop (pm_loop hG hA lt (k:=0) (out:=List.replicate ((lt + 7) / 8) 0) ⟨by simp only [put_len,hl],by simp only [put_ds,hd],by rw [hz,put_mem],by simp [get_put_ne,g0],by simp [get_put_ne,g1],by simp [get_put_ne,g6],?_,get_put (by simp only [put_len,hl]; decide),by simp,?_⟩ (by omega) ?_))
 ·rw [get_put_ne (by decide)]; exact get_put (by simp only [put_len,hl]; decide)
 ·intro n hn
  have:=(List.mem_replicate.1 hn).2
  omega
 intro s' h'
 refine AWX.seq (AWX.region ?_)
 refine AOX.mv hG rfl h'.g6 (AOX.ws' hG rfl (get_put (by rw [h'.len]; decide)) (AOX.ws' hG rfl get_bool (AOX.nil (AWX.ret ?_))))
 refine ⟨.inr rfl,by simp only [put_ds,h'.ds],by simp only [put_len,h'.len]; decide,?_,[.sl M.length 0 ((lt + 7) / 8) (some ((lt + 7) / 8)),.bool true],?_,rfl⟩
 ·simp only [put_mem,h'.mem,pmOut,hA.tl]
 ·show ((St.get _ (.tmp 4)).bind fun v => ((St.get _ (.tmp 5)).bind fun v => some [v]).map (v :: ·)) = _
  rw [get_put (by simp only [put_len,h'.len]; decide),get_put_ne (by decide),get_put (by simp only [put_len,h'.len]; decide)]
  rfl
end
end
section
open Go.Proofs
noncomputable section
structure Rp where
 gid:Nat
 f:FuncId
 tb:Tab
 args0:List V
 rows:List (List V)
 oks:List IntKind
 vT:V
 NT:List (List V × Nat)
abbrev Fnd:=List (Nat × V) × List (Nat × Wd)
def hasN {α:Type} (i:Nat):List (Nat × α) → Option α
 | [] => none
 | a :: l => match Nat.beq a.1 i with
  | true => some a.2
  | false => hasN i l
def seek (n:Nat) (rows:List (List V)) (M:Mem):Nat → List (V × V) → Fnd → Fnd
 | 0,_,e => e
 | _,[],e => e
 | fuel + 1,(v0,v) :: q,e => match v0,v with
  | .sym _ j _ _,v => seek n rows M fuel q ((j,v) :: e.1,e.2)
  | .sl b0 o0 _ _,.sl b o _ lim => match hasN (b0 - n) e.2,nth rows (b0 - n) with
   | none,some cs0 => match rd M b (o - o0) cs0.length with
    | some cs => seek n rows M fuel (cs0.zip cs ++ q) (e.1,(b0 - n,(b,o - o0,lim)) :: e.2)
    | none => seek n rows M fuel q e
   | _,_ => seek n rows M fuel q e
  | .ptr b0 o0,.ptr b o => match hasN (b0 - n) e.2,nth rows (b0 - n) with
   | none,some cs0 => match rd M b (o - o0) cs0.length with
    | some cs => seek n rows M fuel (cs0.zip cs ++ q) (e.1,(b0 - n,(b,o - o0,some cs0.length)) :: e.2)
    | none => seek n rows M fuel q e
   | _,_ => seek n rows M fuel q e
  | .agg l0,.agg l => seek n rows M fuel (l0.zip l ++ q) e
  | .tup l0,.tup l => seek n rows M fuel (l0.zip l ++ q) e
  | .fn _ l0,.fn _ l => seek n rows M fuel (l0.zip l ++ q) e
  | _,_ => seek n rows M fuel q e
def colN (e:List (Nat × V)):Nat → Nat → Option (List V)
 | 0,_ => some []
 | m + 1,i => match hasN i e with
  | some v => (colN e m (i + 1)).map (v :: ·)
  | none => none
def colW (e:List (Nat × Wd)):Nat → Nat → Option (List Wd)
 | 0,_ => some []
 | m + 1,i => match hasN i e with
  | some v => (colW e m (i + 1)).map (v :: ·)
  | none => none
def insOk:Tab → List V → Bool
 | [],[] => true
 | t :: tb,v :: vs => (match t,v with
  | some p,.int _ n => leI p.1 n && leI n p.2
  | some p,.sym _ _ lo hi => leI p.1 lo && leI hi p.2
  | _,_ => false) && insOk tb vs
 | _,_ => false
def rowsOk (B:Bd) (M:Mem):List (List V) → List Wd → Bool
 | [],[] => true
 | cs0 :: R,p :: ps => (match B.subs cs0,rd M p.1 p.2.1 cs0.length with
  | some a,some b => eqVs a b && (match p.2.2 with
   | some c => Nat.ble cs0.length c
   | none => Nat.ble (p.2.1 + cs0.length) (known M p.1))
  | _,_ => false) && rowsOk B M R ps
 | _,_ => false
def kWds {α:Type} (l:List Wd):(List Wd → α) → α:=List.rec (motive:=fun _ => (List Wd → α) → α) (fun k => k []) (fun a _ ih k => kNat a.1 fun x => kNat a.2.1 fun y => kOpt a.2.2 fun z => ih fun l => k ((x,y,z) :: l)) l
theorem kWds_eq {α:Type} (l:List Wd):∀ (k:List Wd → α),kWds l k = k l:=by
 induction l with
 | nil => intro k; rfl
 | cons a l ih =>
  intro k
  show kNat a.1 (fun x => kNat a.2.1 fun y => kOpt a.2.2 fun z => kWds l fun l => k ((x,y,z) :: l)) = _
  rw [kNat_eq,kNat_eq,kOpt_eq]; exact ih _
def agree:List V → List V → Bool
 | .int _ n :: l,.int _ m :: l' => match eqI n m with
  | true => agree l l'
  | false => false
 | _ :: l,_ :: l' => agree l l'
 | _,_ => true
def rpS (X:Rule) (r:Rp):Known:=fun g args M =>
 match Nat.beq g r.f && agree r.args0 args with
 | true => match seek r.tb.length r.rows M 1000 (r.args0.zip args) ([],[]) with
  | e => match colN e.1 r.tb.length 0,colW e.2 r.rows.length 0 with
   | some ins,some nm => kVs ins fun ins => kWds nm fun nm =>
    match (insOk r.tb ins && rowsOk ⟨ins,nm⟩ M r.rows nm),Bd.subs ⟨ins,nm⟩ r.args0 with
    | true,some a => match eqVs a args with
     | true => mksK X r.gid ins r.oks 0 M fun ys M1 => match insT ys M1.length r.vT,insN ys M1.length r.NT with
      | some v,some N => some (v,M1 ++ N,[])
      | _,_ => none
     | false => none
    | _,_ => none
   | _,_ => none
 | false => none
structure RpOK (G:GF) (r:Rp) (v0:V) (M0':Mem) (bl:List Nat) (outs:List (IntKind × Nat)):Prop where
 call:ACall Tryz.prog G r.f r.args0 (small r.tb.length r.rows) v0 M0'
 nd:∀ i j b:Nat,bl[i]? = some b → bl[j]? = some b → i = j
 ren:renT outs bl v0 = some r.vT
 renN:renN outs bl M0' bl = some r.NT
 kinds:∀ (j:Nat) (k:IntKind) (q:Nat),outs[j]? = some (k,q) → r.oks[j]? = some k
 sol:∀ (ns:List Int),Fits r.tb (ns.map some) → ∀ (j:Nat) (k:IntKind) (q:Nat),outs[j]? = some (k,q) → (solve G (M0'.drop r.tb.length) (ns.map some))[q]? = some (some (G r.gid ns j))
theorem insOk_len:∀ {tb:Tab} {ins:List V},insOk tb ins = true → ins.length = tb.length
 | [],[],_ => rfl
 | [],_ :: _,h => by simp [insOk] at h
 | _ :: _,[],h => by simp [insOk] at h
 | t :: tb,v :: vs,h => by
  simp only [insOk,Bool.and_eq_true] at h
  simp [insOk_len h.2]
theorem insOk_fits {φ:Pl}:∀ {tb:Tab} {ins:List V} {ns:List Int},insOk tb ins = true → nums φ ins = some ns → Fits tb (ns.map some)
 | [],[],ns,_,h => by simp only [nums,Option.some.injEq] at h; subst h; exact ⟨rfl,fun j a b hj => by simp at hj⟩
 | [],_ :: _,_,h,_ => by simp [insOk] at h
 | _ :: _,[],_,h,_ => by simp [insOk] at h
 | t :: tb,v :: vs,ns,h,hn => by
  simp only [insOk,Bool.and_eq_true] at h
  simp only [nums,Option.bind_eq_some_iff,Option.map_eq_some_iff] at hn
  obtain ⟨n,h1,l,h2,rfl⟩:=hn
  have ih:=insOk_fits h.2 h2
  have h3:=h.1
  have hb:=V.bnd h1
  split at h3
  ·rename_i p k m
   simp only [Bool.and_eq_true,leI_iff] at h3
   simp only [V.lo,V.hi] at hb
   exact ih.cons (lo:=p.1) (hi:=p.2) (by omega) (by omega)
  ·rename_i p k i lo hi
   simp only [Bool.and_eq_true,leI_iff] at h3
   simp only [V.lo,V.hi] at hb
   exact ih.cons (lo:=p.1) (hi:=p.2) (by omega) (by omega)
  ·cases h3
theorem rowsOk_fits {B:Bd} {M:Mem}:∀ {R:List (List V)} {ps:List Wd},rowsOk B M R ps = true → ps.length = R.length ∧ ∀ (i:Nat) (cs0:List V) (p:Wd),R[i]? = some cs0 → ps[i]? = some p → FitsRow B M cs0 p
 | [],[],_ => ⟨rfl,fun i cs0 p h => by simp at h⟩
 | [],_ :: _,h => by simp [rowsOk] at h
 | _ :: _,[],h => by simp [rowsOk] at h
 | cs :: R,q :: ps,h => by
  simp only [rowsOk,Bool.and_eq_true] at h
  obtain ⟨h1,h2⟩:=h
  obtain ⟨e1,e2⟩:=rowsOk_fits h2
  refine ⟨by simp [e1],fun i cs0 p hi hp => ?_⟩
  cases i with
  | zero =>
   simp only [List.getElem?_cons_zero,Option.some.injEq] at hi hp
   subst hi hp
   split at h1
   ·rename_i a b ha hb
    simp only [Bool.and_eq_true] at h1
    have:=eqVs_iff h1.1; subst this
    refine ⟨a,ha,hb,?_⟩
    have h4:=h1.2
    cases hq:q.2.2 with
    | some c => rw [hq] at h4; simpa using h4
    | none => rw [hq] at h4; simpa using h4
   ·cases h1
  | succ i => exact e2 i cs0 p (by simpa using hi) (by simpa using hp)
theorem rpS_ok {G:GF} {X:Rule} (hG:GOK G) (hX:RuleOK G X) {r:Rp} {v0:V} {M0':Mem} {bl:List Nat} {outs:List (IntKind × Nat)} (h:RpOK G r v0 M0' bl outs) (hall:∀ {G':GF} {prot:Pr} {W0 w:World} {φ:Pl} {M:Mem} {ins:List V} {nm:List Wd} {args:List V} {us:List Value},MR G' prot W0 φ M w → insOk r.tb ins = true → rowsOk ⟨ins,nm⟩ M r.rows nm = true → Bd.subs ⟨ins,nm⟩ r.args0 = some args → concs φ args = some us → ∃ ns,nums φ ins = some ns):CallOK Tryz.prog G (rpS X r):=by
 intro g args M v M' ch hh
 unfold rpS at hh
 split at hh
 ·rename_i hg
  rw [Bool.and_eq_true] at hg
  have:=Nat.eq_of_beq_eq_true hg.1; subst this
  simp only at hh
  split at hh
  ·rename_i ins nm hci hcw
   rw [kVs_eq,kWds_eq] at hh
   split at hh
   ·rename_i a hok hsub
    simp only [Bool.and_eq_true] at hok
    split at hh
    ·rename_i heq
     have:=eqVs_iff heq; subst this
     obtain ⟨ys,E,h1,h2,h3⟩:=mksK_ok hG hX hh
     split at h1
     ·rename_i v' N hv hN
      simp only [Option.some.injEq,Prod.mk.injEq] at h1
      obtain ⟨rfl,rfl,rfl⟩:=h1
      refine ⟨⟨h.call.1,?_⟩,Grow.toL (c:=none) (h2.trans (Grow.app _ _ _ (insN_noro hN)))⟩
      intro prot W0 φ w us hM hus
      have hil:=insOk_len hok.1
      obtain ⟨hr1,hr2⟩:=rowsOk_fits hok.2
      obtain ⟨ns,hns⟩:=hall hM hok.1 hok.2 hsub hus
      obtain ⟨φ1,b1,b2,b3⟩:=h3 prot W0 w φ ns hM hns
      have hsol:=h.sol ns (insOk_fits hok.1 hns)
      have ho:Outs outs ys (solve G (M0'.drop (Bd.mk ins nm).ins.length) (ns.map some)) φ1:=by
       intro j k q hj
       obtain ⟨y,c1,c2⟩:=b3 j k (h.kinds j k q hj)
       rw [Nat.zero_add] at c2
       refine ⟨y,_,c1,?_,c2⟩
       rw [show (Bd.mk ins nm).ins.length = r.tb.length from hil]
       exact hsol j k q hj
      obtain ⟨v',d1,d2⟩:=tpl_ok ho v0 h.ren hv
      obtain ⟨N3,d3,d4,d5⟩:=tplN_ok ho h.renN hN
      have hc:=h.call
      rw [← hil] at hc
      have hf:(Bd.mk ins nm).fits M r.rows:=⟨hr1,hr2⟩
      refine Calls.mono (sumcall (B:=⟨ins,nm⟩) hc hsub (hf.app E) h.nd b2 (concs_mono b1 _ hus) (nums_mono b1 hns) d1 d3) ?_
      intro e w' he
      cases e with
      | returned u =>
       obtain ⟨φ2,e1,e2,e3⟩:=he
       refine ⟨φ2,Pl.le_trans b1 e1,d2 φ2 u e1 e2,e3.recell (by simp [d4]) ?_⟩
       intro i k hi
       by_cases hlt:i < (M ++ E).length
       ·rw [List.getElem?_append_left hlt] at hi ⊢
        exact .inl hi
       ·rw [List.getElem?_append_right (by omega)] at hi ⊢
        obtain ⟨cs,cs',gs,f1,f2,f3⟩:=d5 _ k hi
        exact .inr ⟨cs,cs',gs,f1,f2,fun us hus => f3 φ2 us e1 hus⟩
      | panicked c => exact he.elim
      | outgrown => exact he.elim
     ·cases h1
    ·cases hh
   ·cases hh
  ·cases hh
 ·cases hh
end
end
section
open Go.Proofs
noncomputable section
def look:List (Nat × V) → Nat → Option V
 | [],_ => none
 | p :: l,t => bif Nat.beq p.1 t then some p.2 else look l t
def mkSt (n:Nat) (l:List (Nat × V)) (M:Mem):St:=⟨(List.range n).map (look l),[],M⟩
def getL (n:Nat) (l:List (Nat × V)):Operand → Option V
 | .tmp t => bif Nat.blt t n then look l t else none
 | .const v => ofVal v
 | .global g => some (.gptr g 0)
 | .func f => some (.fn f [])
def getD (bad:List Nat) (n:Nat) (l:List (Nat × V)):Operand → Option V
 | .tmp t => bif memN bad t then none else bif Nat.blt t n then look l t else none
 | .const v => ofVal v
 | .global g => some (.gptr g 0)
 | .func f => some (.fn f [])
section
variable {n:Nat} {l l':List (Nat × V)} {M M':Mem} {v:V} {d t:Nat}
theorem mk_len:(mkSt n l M).ts.length = n:=by simp [mkSt]
theorem mk_ts:(mkSt n l M).ts[t]? = if t < n then some (look l t) else none:=by
 simp only [mkSt,List.getElem?_map]
 split
 ·rename_i h; rw [List.getElem?_range h]; rfl
 ·rename_i h; rw [List.getElem?_eq_none (by simpa using h)]; rfl
theorem mk_get:(mkSt n l M).get = getL n l:=by
 funext x
 cases x with
 | tmp t =>
  simp only [St.get,getL,mk_ts]
  by_cases h:t < n
  ·rw [if_pos h,show Nat.blt t n = true by simpa [Nat.blt_eq] using h]; cases look l t <;> rfl
  ·rw [if_neg h,show Nat.blt t n = false by simpa [← Bool.not_eq_true,Nat.blt_eq] using h]; rfl
 | const c => rfl
 | global g => rfl
 | func f => rfl
theorem mk_put (h:Nat.blt d n = true):(mkSt n l M).put (some d) v M' = mkSt n ((d,v) :: l) M':=by
 have h:d < n:=by simpa [Nat.blt_eq] using h
 simp only [St.put,mkSt,St.mk.injEq,and_true]
 refine List.ext_getElem? fun t => ?_
 by_cases e:d = t
 ·subst e
  rw [List.getElem?_set_self (by simpa using h),List.getElem?_map,List.getElem?_range h]
  simp [look]
 ·rw [List.getElem?_set_ne e,List.getElem?_map,List.getElem?_map]
  by_cases ht:t < n
  ·rw [List.getElem?_range ht]
   have:Nat.beq d t = false:=Bool.eq_false_iff.2 fun h => e (Nat.eq_of_beq_eq_true h)
   simp only [Option.map_some,look,this,cond_false]
  ·rw [List.getElem?_eq_none (by simpa using ht)]; rfl
def Has (s:St):List (Nat × V) → Prop
 | [] => True
 | p :: l => s.get (.tmp p.1) = some p.2 ∧ Has s l
theorem Has.look {s:St}:∀ {l:List (Nat × V)},Has s l → ∀ {t v},look l t = some v → s.get (.tmp t) = some v
 | [],_,_,_,e => by cases e
 | p :: l,h,t,v,e => by
  simp only [Rel.look] at e
  cases hb:Nat.beq p.1 t with
  | true =>
   rw [hb] at e
   injection e with e; subst e
   rw [← Nat.eq_of_beq_eq_true hb]; exact h.1
  | false => rw [hb] at e; exact Has.look h.2 e
def subL (n:Nat) (l:List (Nat × V)):List (Nat × V) → Prop
 | [] => True
 | p :: r => getL n l (.tmp p.1) = some p.2 ∧ subL n l r
theorem subL.has:∀ {r:List (Nat × V)},subL n l r → Has (mkSt n l M) r
 | [],_ => trivial
 | p :: _,h => ⟨by rw [mk_get]; exact h.1,subL.has h.2⟩
section
variable {G:GF} {s:St} {c:Code} {Q:AExit → St → Prop} {K:St → Prop}
theorem AWX.to (hl:s.ts.length = n) (hd:s.ds = []) (hM:s.M = M) (hg:Has s l) (h:AWX G c (mkSt n l M) Q):AWX G c s Q:=by
 obtain ⟨x,s',h1,h2⟩:=h
 refine ⟨x,s',?_,h2⟩
 intro prot W0 φ a w Q' hs hk
 refine h1 prot W0 φ a w Q' ⟨?_,?_,?_,?_⟩ hk
 ·subst hM; exact hs.mr
 ·rw [mk_len,← hl]; exact hs.size
 ·intro t v ht
  rw [mk_ts] at ht
  split at ht
  ·injection ht with ht
   have:=hg.look ht
   refine hs.tm t v ?_
   simp only [St.get] at this
   split at this
   ·rename_i e; rw [e,this]
   ·cases this
  ·cases ht
 ·rw [← hs.ds,hd]; rfl
theorem AWX.ff (r:List (Nat × V)) (h:subL n l r) (h':AWX G c (mkSt n r M) Q):AWX G c (mkSt n l M) Q:=AWX.to mk_len rfl rfl h.has h'
def argL:Nat → List V → List (Nat × V)
 | _,[] => []
 | i,v :: vs => (i,v) :: argL (i + 1) vs
theorem argL_has {s:St}:∀ {vs:List V} {i:Nat},(∀ (j:Nat) (v:V),vs[j]? = some v → s.get (.tmp (i + j)) = some v) → Has s (argL i vs)
 | [],_,_ => trivial
 | v :: vs,i,h => ⟨by have:=h 0 v rfl; simpa using this,argL_has fun j v hj => by
   have:=h (j + 1) v (by simpa using hj)
   rw [show i + 1 + j = i + (j + 1) by omega]; exact this⟩
def resL (g:Operand → Option V):List ResultVar → Option (List V)
 | [] => some []
 | .tmp t :: rs => (g (.tmp t)).bind fun v => (resL g rs).map (v :: ·)
 | .cell _ _ :: _ => none
theorem resL_ok {T:Nat → Option Ty}:∀ {rs:List ResultVar} {vs:List V},resL s.get rs = some vs → resS T s rs = some vs
 | [],_,h => h
 | .tmp t :: rs,vs,h => by
  simp only [resL,resS,Option.bind_eq_some_iff,Option.map_eq_some_iff] at h ⊢
  obtain ⟨v,h1,r,h2,rfl⟩:=h
  exact ⟨v,h1,r,resL_ok h2,rfl⟩
 | .cell _ _ :: _,_,h => by cases h
def Fini (n:Nat) (rs:List ResultVar) (v:V) (M':Mem):AExit → St → Prop:=fun x s => (x = .normal ∨ x = .ret) ∧ ∃ l vs,s = mkSt n l M' ∧ resL (getL n l) rs = some vs ∧ retV vs = v
theorem acall_mk {f:Nat} {fv:FnV} {args:List V} (hf:fn f = some fv) (hn:fv.ntmps = n) (ha:args.length ≤ n) (hb:n ≤ 320) (h:AWX G fv.body (mkSt n (argL 0 args) M) (Fini n fv.results v M')):ACall Tryz.prog G f args M v M':=by
 refine acall_awx hf (AWX.mono (AWX.to (n:=n) (M:=M) (l:=argL 0 args) ?_ rfl rfl ?_ h) ?_)
 ·simp only [start,List.length_append,List.length_map,List.length_replicate,hn]; omega
 ·refine argL_has fun j v hj => ?_
  have hlt:=(List.getElem?_eq_some_iff.1 hj).1
  simp only [St.get,start,Nat.zero_add]
  rw [List.getElem?_append_left (by simpa using hlt),List.getElem?_map,hj]; rfl
 ·rintro x s ⟨hx,l,vs,rfl,h1,h2⟩
  refine ⟨hx,rfl,by rw [mk_len]; exact hb,rfl,vs,resL_ok (by rw [mk_get]; exact h1),h2⟩
end
end
section
variable {n:Nat} {l:List (Nat × V)} {M M' Mc:Mem} {v:V} {G:GF} {ops:Array Oper} {L:List Nat} {i d:Nat} {K:St → Prop} {op:Op} {ty:TypeId} {pos:String} {af:Array Edge} {Q:AExit → St → Prop} {a b c:Code}
theorem AOX.q (hG:GOK G) (ho:ops[i]? = some ⟨some d,op,ty,pos,af,none⟩) (hr:astep noX tyF (getL n l) M op = some (.pure v)) (hd:Nat.blt d n = true) (h:AOX G ops L (mkSt n ((d,v) :: l) M) K):AOX G ops (i :: L) (mkSt n l M) K :=
 AOX.p hG ho (by rw [mk_get]; exact hr) (by rw [mk_put hd]; exact h)
theorem AOX.qv (hG:GOK G) (ho:ops[i]? = some ⟨some d,op,ty,pos,af,none⟩) (hr:astep noX tyF (getL n l) M op = some (.val v M')) (hd:Nat.blt d n = true) (h:AOX G ops L (mkSt n ((d,v) :: l) M') K):AOX G ops (i :: L) (mkSt n l M) K :=
 AOX.vl hG ho (by rw [mk_get]; exact hr) (by rw [mk_put hd]; exact h)
theorem AOX.qs (hG:GOK G) (ho:ops[i]? = some ⟨none,op,ty,pos,af,none⟩) (hr:astep noX tyF (getL n l) M op = some (.skip M')) (h:AOX G ops L (mkSt n l M') K):AOX G ops (i :: L) (mkSt n l M) K :=
 AOX.sk hG ho (by rw [mk_get]; exact hr) h
theorem AOX.qc {f:Nat} {al:List V} (hG:GOK G) (ho:ops[i]? = some ⟨some d,op,ty,pos,af,none⟩) (hr:astep noX tyF (getL n l) M op = some (.call f al)) (hc:ACall Tryz.prog G f al M v M') (hd:Nat.blt d n = true) (h:AOX G ops L (mkSt n ((d,v) :: l) M') K):AOX G ops (i :: L) (mkSt n l M) K :=
 AOX.cl hG ho (by rw [mk_get]; exact hr) hc (by rw [mk_put hd]; exact h)
def gaveL (ops:Array Oper) (g:Operand → Option V) (j:Nat):Option (Option Bool) :=
 match ops[j]? with
 | some p => match p.dst with
  | some d => match g (.tmp d) with
   | some (.bool b) => some (some b)
   | some (.tup []) => some none
   | _ => none
  | none => none
 | none => none
theorem gave_mk {j:Nat} {b:Option Bool} (h:gaveL ops (getL n l) j = some b):gave ops (mkSt n l M) j = some b:=by
 unfold gaveL at h
 unfold gave
 split at h
 ·rename_i p hp
  rw [hp]
  split at h
  ·rename_i d hd
   simp only [hd]
   have e:getL n l (.tmp d) = (mkSt n l M).get (.tmp d):=by rw [mk_get]
   rw [e] at h
   simp only [St.get] at h
   split at h
   ·rename_i x hx
    split at hx
    ·rename_i y hy
     subst hx; rw [hy]; exact h
    ·cases hx
   ·rename_i hx
    split at hx
    ·rename_i y hy
     subst hx; rw [hy]; exact h
    ·cases hx
   ·cases h
  ·cases h
 ·cases h
theorem AOX.qg {j:Nat} {w:Bool} (hG:GOK G) (ho:ops[i]? = some ⟨some d,op,ty,pos,af,some (j,w)⟩) (hg:gaveL ops (getL n l) j = some (some w)) (hr:astep noX tyF (getL n l) M op = some (.pure v)) (hd:Nat.blt d n = true) (h:AOX G ops L (mkSt n ((d,v) :: l) M) K):AOX G ops (i :: L) (mkSt n l M) K :=
 AOX.pg hG ho (by simp [wants,gave_mk hg]) (by rw [mk_get]; exact hr) (by rw [mk_put hd]; exact h)
theorem AOX.qn {j:Nat} {w:Bool} {y:Option Bool} (ho:ops[i]? = some ⟨some d,op,ty,pos,af,some (j,w)⟩) (hg:gaveL ops (getL n l) j = some y) (hy:(y == some w) = false) (hd:Nat.blt d n = true) (h:AOX G ops L (mkSt n ((d,undefV) :: l) M) K):AOX G ops (i :: L) (mkSt n l M) K:=by
 obtain ⟨s',h1,h2⟩:=h
 rw [← mk_put (v:=undefV) (M':=M) hd] at h1
 refine ⟨s',AOps.cons (AOpV.op (AOpV.idle ho ?_)) h1,h2⟩
 simp [wants,gave_mk hg,hy]
theorem AWX.ct {x:Operand} (hc:getL n l x = some (.bool true)) (h:AWX G a (mkSt n l M) Q):AWX G (.cond x a b) (mkSt n l M) Q:=AWX.condT (by rw [mk_get]; exact hc) h
theorem AWX.cf {x:Operand} (hc:getL n l x = some (.bool false)) (h:AWX G b (mkSt n l M) Q):AWX G (.cond x a b) (mkSt n l M) Q:=AWX.condF (by rw [mk_get]; exact hc) h
theorem AWX.fin {rs:List ResultVar} {vs:List V} (h1:resL (getL n l) rs = some vs) (h2:retV vs = v):AWX G .ret (mkSt n l M) (Fini n rs v M):=AWX.ret ⟨.inr rfl,l,vs,rfl,h1,h2⟩
end
end
end
section
open Go.Proofs
noncomputable section
def isN (j:Nat):V → Bool
 | .sym _ i _ _ => Nat.beq i j
 | _ => false
def anyN (j:Nat):List V → Bool
 | [] => false
 | v :: vs => isN j v || anyN j vs
def anyR (j:Nat):List (List V) → Bool
 | [] => false
 | r :: R => anyN j r || anyR j R
def occ (args0:List V) (rows:List (List V)):Nat → Bool
 | 0 => true
 | n + 1 => (anyN n args0 || anyR n rows) && occ args0 rows n
theorem anyN_num {B:Bd} {φ:Pl} {j:Nat}:∀ {l l':List V} {us:List Value},anyN j l = true → B.subs l = some l' → concs φ l' = some us → ∃ v n,B.ins[j]? = some v ∧ v.num φ = some n
 | [],_,_,h,_,_ => by simp [anyN] at h
 | v :: vs,l',us,h,hs,hu => by
  simp only [Bd.subs] at hs
  split at hs
  ·rename_i x hx
   simp only [Option.map_eq_some_iff] at hs
   obtain ⟨l1,h1,rfl⟩:=hs
   obtain ⟨u,us',hu1,hu2,rfl⟩:=concs_cons.1 hu
   simp only [anyN,Bool.or_eq_true] at h
   rcases h with h | h
   ·cases v <;> simp only [isN,Bool.false_eq_true] at h
    rename_i k i lo hi
    have:=Nat.eq_of_beq_eq_true h
    subst this
    simp only [Bd.sub] at hx
    split at hx
    ·rename_i y hy
     split at hx
     ·rename_i hc
      injection hx with hx; subst hx
      obtain ⟨n,_,hn⟩:=kind_num hc.1 hu1
      exact ⟨y,n,hy,hn⟩
     ·cases hx
    ·cases hx
   ·exact anyN_num h h1 hu2
  ·cases hs
theorem anyR_num {B:Bd} {G:GF} {prot:Pr} {W0 w:World} {φ:Pl} {M:Mem} (hM:MR G prot W0 φ M w) {j:Nat}:∀ {R:List (List V)} {ps:List Wd},anyR j R = true → rowsOk B M R ps = true → ∃ v n,B.ins[j]? = some v ∧ v.num φ = some n
 | [],_,h,_ => by simp [anyR] at h
 | _ :: _,[],_,h => by simp [rowsOk] at h
 | r :: R,p :: ps,h,hr => by
  simp only [rowsOk,Bool.and_eq_true] at hr
  simp only [anyR,Bool.or_eq_true] at h
  rcases h with h | h
  ·have h1:=hr.1
   split at h1
   ·rename_i a b ha hb
    simp only [Bool.and_eq_true] at h1
    have:=eqVs_iff h1.1; subst this
    obtain ⟨q,us,_,h4,_⟩:=hM.read hb
    exact anyN_num h ha h4
   ·cases h1
  ·exact anyR_num hM h hr.2
theorem occ_get {args0:List V} {rows:List (List V)}:∀ {n j:Nat},occ args0 rows n = true → j < n → anyN j args0 = true ∨ anyR j rows = true
 | n + 1,j,h,hj => by
  simp only [occ,Bool.and_eq_true,Bool.or_eq_true] at h
  by_cases e:j = n
  ·subst e; exact h.1
  ·exact occ_get h.2 (by omega)
theorem nums_all {φ:Pl}:∀ {l:List V},(∀ (j:Nat) (v:V),l[j]? = some v → ∃ n,v.num φ = some n) → ∃ ns,nums φ l = some ns
 | [],_ => ⟨[],rfl⟩
 | v :: l,h => by
  obtain ⟨n,hn⟩:=h 0 v rfl
  obtain ⟨ns,hns⟩:=nums_all (l:=l) fun j x hx => h (j + 1) x (by simpa using hx)
  exact ⟨n :: ns,by simp [nums,hn,hns]⟩
theorem rpS_ok' {G:GF} {X:Rule} (hG:GOK G) (hX:RuleOK G X) {r:Rp} {v0:V} {M0':Mem} {bl:List Nat} {outs:List (IntKind × Nat)} (h:RpOK G r v0 M0' bl outs) (ho:occ r.args0 r.rows r.tb.length = true):CallOK Tryz.prog G (rpS X r):=by
 refine rpS_ok hG hX h ?_
 intro G' prot W0 w φ M ins nm args us hM hi hr hs hu
 refine nums_all fun j v hv => ?_
 have hlt:j < r.tb.length:=by rw [← insOk_len hi]; exact (List.getElem?_eq_some_iff.1 hv).1
 rcases occ_get ho hlt with ha | ha
 ·obtain ⟨v',n,h1,h2⟩:=anyN_num (B:=⟨ins,nm⟩) ha hs hu
  have:v' = v:=Option.some.inj (h1.symm.trans hv)
  exact ⟨n,this ▸ h2⟩
 ·obtain ⟨v',n,h1,h2⟩:=anyR_num (B:=⟨ins,nm⟩) hM ha hr
  have:v' = v:=Option.some.inj (h1.symm.trans hv)
  exact ⟨n,this ▸ h2⟩
def resP (X:Rule) (S:Known) (m:Nat) (r:Rp):Option (V × Mem × List Nat):=kFN X S m r.f r.args0 (small r.tb.length r.rows)
def entP (X:Rule) (S:Known) (m:Nat) (r:Rp):Lvl :=
 match resP X S m r with
 | some p => (r.gid,dropK p.2.1 r.tb.length,(outsOf p).map (·.2))
 | none => (r.gid,[],[])
def rpChk (X:Rule) (S:Known) (m:Nat) (r:Rp) (bad:List Nat):Bool :=
 match resP X S m r with
 | some p => kBlks p.1 p.2.1 fun bl => kOuts (symN p.2.1 bl (syms p.1 [])) fun outs =>
   ndN bl && ((match renT outs bl p.1 with | some v => eqV v r.vT | none => false) && ((match renN outs bl p.2.1 bl with | some N => eqNT N r.NT | none => false) &&
    (eqKs outs r.oks && (avoid bad (dropK p.2.1 r.tb.length) && (occ r.args0 r.rows r.tb.length && tabsK (dropK p.2.1 r.tb.length) r.tb fun tb => outIn r.gid tb outs)))))
 | none => false
theorem rp_ok {G:GF} {X:Rule} {S:Known} (hG:GOK G) (hX:RuleOK G X) (hS:CallOK Tryz.prog G S) {m:Nat} {r:Rp} {bad:List Nat} (h:rpChk X S m r bad = true)
  (hg:∀ ns j,G r.gid ns j = clampG r.gid (numAt (solve G (entP X S m r).2.1 (ns.map some)) (entP X S m r).2.2 j)):CallOK Tryz.prog G (rpS X r):=by
 unfold rpChk at h
 split at h
 ·rename_i p hp
  obtain ⟨v0,M0',ch⟩:=p
  have hent:entP X S m r = (r.gid,dropK M0' r.tb.length,(outsOf (v0,M0',ch)).map (·.2)):=by unfold entP; rw [hp]
  rw [hent] at hg
  have hout:outsOf (v0,M0',ch) = kBlks v0 M0' fun bl => symN M0' bl (syms v0 []):=rfl
  rw [hout] at hg
  simp only [kBlks,kNats_eq,kOuts_eq,tabsK_eq,dropK_eq] at h hg
  generalize more M0' _ _ = bl at h hg
  generalize symN M0' bl (syms v0 []) = outs at h hg
  simp only [Bool.and_eq_true] at h
  obtain ⟨h1,h2,h3,h4,h5,h6,h7⟩:=h
  split at h2
  ·rename_i v hv
   split at h3
   ·rename_i N hN
    have e2:=eqV_iff h2
    have e3:=eqNT_iff h3
    subst e2 e3
    refine rpS_ok' (v0:=v0) (M0':=M0') (bl:=bl) (outs:=outs) hG hX ⟨(run hG hX hS m _ _ _ _ _ _ (by rw [resP,kFN_eq] at hp; exact hp)).1,ndN_ok h1,hv,hN,eqKs_iff h4,?_⟩ h6
    intro ns hf j k q hj
    have hf2:=tabs_ok (G:=G) hG (M0'.drop r.tb.length) hf
    obtain ⟨lo,hi,a1,a2,a3⟩:=outIn_ok h7 j k q hj
    obtain ⟨n,b1,b2,b3⟩:=hf2.num q lo hi a1
    rw [b1,hg ns j]
    have e1:numAt (solve G (M0'.drop r.tb.length) (ns.map some)) (outs.map (·.2)) j = n:=by
     unfold numAt
     simp only [List.getElem?_map,hj,Option.map_some,b1]
    rw [e1]
    unfold clampG
    rw [if_pos ⟨by omega,by omega⟩]
   ·cases h3
  ·cases h2
 ·cases h
theorem rpChk_avoid {X:Rule} {S:Known} {m:Nat} {r:Rp} {bad:List Nat} (h:rpChk X S m r bad = true):avoid bad (entP X S m r).2.1 = true:=by
 unfold rpChk at h
 unfold entP
 split at h
 ·simp only [kBlks,kNats_eq,kOuts_eq,Bool.and_eq_true] at h
  exact h.2.2.2.2.1
 ·cases h
end
end
section
open Go.Proofs
noncomputable section
section
variable {G:GF} {ops:Array Oper} {i:Nat} {s s0:St} {v:V} {M':Mem}
def deads (M:Mem):Mem:=List.replicate M.length .dead
def maskK (keep:List Nat) (M:Mem):Mem:=M.mapIdx fun i k => bif memN keep i then k else .dead
theorem maskK_len {keep:List Nat} {M:Mem}:(maskK keep M).length = M.length:=by simp [maskK]
theorem maskK_get {keep:List Nat} {M:Mem} {b:Nat} (h:b ∈ keep):(maskK keep M)[b]? = M[b]?:=by
 have h:=memN_iff.2 h
 simp only [maskK,List.getElem?_mapIdx]
 cases M[b]? <;> simp [h]
theorem maskK_cases {keep:List Nat} {M:Mem} {b:Nat} {k:Blk} (h:(maskK keep M)[b]? = some k):k = .dead ∨ (b ∈ keep ∧ M[b]? = some k):=by
 cases hm:memN keep b with
 | true => exact .inr ⟨memN_iff.1 hm,by rw [← maskK_get (memN_iff.1 hm)]; exact h⟩
 | false =>
  simp only [maskK,List.getElem?_mapIdx,hm,cond_false,Option.map_eq_some_iff] at h
  obtain ⟨_,_,h⟩:=h
  exact .inl h.symm
theorem maskK_known {keep:List Nat} {M:Mem} {b:Nat} (h:b ∈ keep):known (maskK keep M) b = known M b:=by unfold known; rw [maskK_get h]
theorem maskK_rd {keep:List Nat} {M:Mem} {b o n:Nat} (h:b ∈ keep):rd (maskK keep M) b o n = rd M b o n:=by unfold rd; rw [maskK_get h]
abbrev Lo:=List (Nat × List Nat × Nat)
variable {lo:Lo}
def LoK (ops:Array Oper) (i:Nat) (keep:List Nat):Lo → Prop
 | [] => True
 | p :: lo => (bf (msOf ops) p.1 i = true ∨ ∀ b ∈ keep,b ∉ p.2.1 ∧ b < p.2.2) ∧ LoK ops i keep lo
theorem LoK.all {keep:List Nat} {b:Nat} (hb:b ∈ keep):∀ {lo:Lo},LoK ops i keep lo → ∀ p ∈ lo,bf (msOf ops) p.1 i = true ∨ (b ∉ p.2.1 ∧ b < p.2.2)
 | [],_,p,hp => by cases hp
 | q :: lo,h,p,hp => by
  rcases List.mem_cons.1 hp with rfl | hp
  ·rcases h.1 with h1 | h1
   ·exact .inl h1
   ·exact .inr (h1 b hb)
  ·exact LoK.all hb h.2 p hp
def QJ (G:GF) (ops:Array Oper) (s0:St) (i:Nat) (s:St) (lo:Lo):Prop:=∃ (e:Nat → Ent) (st:Nat → St),st 0 = s0 ∧ st i = s ∧ (∀ j,j < i → StepOK Tryz.prog G ops (bf (msOf ops)) e st j) ∧ (∀ j,j < i → ∀ b,(e j).tch b = true → ∃ p ∈ lo,p.1 = j ∧ (b ∈ p.2.1 ∨ p.2.2 ≤ b)) ∧ ∀ j,j < i → (e j).K.M.length ≤ s.M.length ∧ (e j).R.length ≤ s.M.length
theorem QJ.zero:QJ G ops s0 0 s0 []:=⟨fun _ => default,fun _ => s0,rfl,rfl,fun j hj => by omega,fun j hj => by omega,fun j hj => by omega⟩
theorem QJ.stepG {o:Oper} (h:QJ G ops s0 i s lo) (ho:ops[i]? = some o) {kM R:Mem} {T:List Nat} {lo':Lo} (hl:kM.length = s.M.length) (hk:∀ (b:Nat) (k:Blk),kM[b]? = some k → k = .dead ∨ (s.M[b]? = some k ∧ ∀ p ∈ lo,bf (msOf ops) p.1 i = true ∨ (b ∉ p.2.1 ∧ b < p.2.2)))
  (hop:AOpV Tryz.prog G ops i (seen ops (msOf ops) i s kM) o.dst v R) (hg:GrowL kM R T) (hall:T = [] ∨ ∀ j,j < i → bf (msOf ops) j i = true)
  (hM'l:M'.length = R.length) (hM:∀ b,b < R.length → M'[b]? = if (b < kM.length ∧ b ∈ T) ∨ kM.length ≤ b then R[b]? else s.M[b]?) (hlo:∀ p ∈ lo,p ∈ lo') (hi:(∃ p ∈ lo',p.1 = i ∧ p.2.1 = T ∧ p.2.2 = kM.length) ∨ (R = kM ∧ T = [])) :
  QJ G ops s0 (i + 1) (s.put o.dst v M') lo':=by
 obtain ⟨e,st,h0,hi',hok,htch,hlen⟩:=h
 let E:Ent:={ K:=seen ops (msOf ops) i s kM,R:=R,v:=v,T:=T }
 have hKM:E.K.M = kM:=rfl
 let e':Nat → Ent:=fun j => if j = i then E else e j
 let st':Nat → St:=fun j => if j = i + 1 then s.put o.dst v M' else st j
 have e1:e' i = E:=if_pos rfl
 have e2:∀ j,j < i → e' j = e j:=fun j hj => if_neg (by omega)
 have s1:st' (i + 1) = s.put o.dst v M':=if_pos rfl
 have s2:∀ j,j ≤ i → st' j = st j:=fun j hj => if_neg (by omega)
 have hput:(s.put o.dst v M').M = M':=put_mem
 have hle:=hg.le
 have htE:∀ b,E.tch b = true → (b < kM.length ∧ b ∈ T) ∨ (kM.length ≤ b ∧ b < R.length):=by
  intro b hb
  simp only [Ent.tch,hKM,Bool.or_eq_true,Bool.and_eq_true,decide_eq_true_eq,List.contains_iff_mem] at hb
  exact hb
 refine ⟨e',st',?_,s1,?_,?_,?_⟩
 ·rw [s2 0 (by omega)]; exact h0
 ·intro j hj
  by_cases hji:j = i
  ·subst hji
   have hst:st' j = s:=by rw [s2 j (Nat.le_refl _)]; exact hi'
   refine ⟨?_,?_,?_,?_,?_,?_,?_,?_,?_,?_,?_,?_⟩
   ·rw [e1,s1,hst]
    exact ⟨o,ho,hop,by rw [hput]⟩
   ·intro t x hx
    rw [e1] at hx
    rw [hst]
    exact seen_mask hx
   ·rw [e1,hst]; exact seen_len
   ·rw [e1,hst]; rfl
   ·rw [e1,hst]; exact hl
   ·rw [e1,s1,hput]; exact hM'l
   ·rw [e1]; exact hg.le
   ·intro b hb ht
    rw [e1] at hb ht ⊢
    by_cases hne:R[b]? = kM[b]?
    ·exact hne
    ·have:=hg.same b hb hne
     exfalso
     have:E.tch b = true:=by
      simp only [Ent.tch,Bool.or_eq_true,Bool.and_eq_true,decide_eq_true_eq,List.contains_iff_mem]
      exact .inl ⟨hb,this⟩
     rw [this] at ht; cases ht
   ·intro b k hk'
    rw [e1] at hk'
    rcases hk b k hk' with h1 | ⟨h1,h2⟩
    ·exact .inl h1
    ·refine .inr ⟨by rw [hst]; exact h1,fun j' hj' hA => ?_⟩
     rw [e2 j' hj']
     cases ht:(e j').tch b with
     | false => rfl
     | true =>
      obtain ⟨p,hp,rfl,hpt⟩:=htch j' hj' b ht
      rcases h2 p hp with h3 | ⟨h3,h4⟩
      ·rw [h3] at hA; cases hA
      ·rcases hpt with h5 | h5
       ·exact absurd h5 h3
       ·omega
   ·intro b hb
    rw [e1] at hb
    rw [s1,e1,hst,hput]
    rw [hM b hb]
    have he:E.tch b = true ↔ (b < kM.length ∧ b ∈ T) ∨ kM.length ≤ b:=by
     constructor
     ·intro h; exact (htE b h).imp id And.left
     ·intro h
      simp only [Ent.tch,hKM,Bool.or_eq_true,Bool.and_eq_true,decide_eq_true_eq,List.contains_iff_mem]
      exact h.imp id fun h => ⟨h,hb⟩
    by_cases ht:E.tch b = true
    ·rw [if_pos (he.1 ht),if_pos ht]
    ·rw [if_neg (fun h => ht (he.2 h)),if_neg ht]
   ·intro j' hj' hA b ht
    rw [e1] at ht
    rcases hall with hT | hall
    ·subst hT
     rcases htE b ht with ⟨_,hb⟩ | ⟨h1,h2⟩
     ·cases hb
     ·rw [e2 j' hj']
      obtain ⟨l1,l2⟩:=hlen j' hj'
      refine ⟨?_,fun k hk' => ?_⟩
      ·cases hc:(e j').tch b with
       | false => rfl
       | true =>
        simp only [Ent.tch,Bool.or_eq_true,Bool.and_eq_true,decide_eq_true_eq] at hc
        omega
      ·have:=(List.getElem?_eq_some_iff.1 hk').1; omega
    ·rw [hall j' hj'] at hA; cases hA
   ·intro b cs hb
    rw [e1] at hb ⊢
    cases ht:E.tch b with
    | false => rfl
    | true =>
     have hro:=hg.ro b cs hb
     rcases htE b ht with ⟨_,h2⟩ | ⟨h1,_⟩
     ·exact absurd hro (hg.own b h2 cs)
     ·have:=(List.getElem?_eq_some_iff.1 hro).1; omega
  ·have hlt:j < i:=by omega
   have hk:=hok j hlt
   have hsj:st' j = st j:=s2 j (by omega)
   have hsj1:st' (j + 1) = st (j + 1):=s2 (j + 1) (by omega)
   have hej:e' j = e j:=e2 j hlt
   refine ⟨?_,?_,?_,?_,?_,?_,?_,?_,?_,?_,?_,?_⟩
   ·rw [hej,hsj1,hsj]; exact hk.op
   ·rw [hej,hsj]; exact hk.mask
   ·rw [hej,hsj]; exact hk.kts
   ·rw [hej,hsj]; exact hk.kds
   ·rw [hej,hsj]; exact hk.len
   ·rw [hej,hsj1]; exact hk.len'
   ·rw [hej]; exact hk.le
   ·rw [hej]; exact hk.same
   ·intro b k hb
    rw [hej] at hb
    rcases hk.km b k hb with h1 | ⟨h1,h2⟩
    ·exact .inl h1
    ·exact .inr ⟨by rw [hsj]; exact h1,fun j' hj' hA => by rw [e2 j' (by omega)]; exact h2 j' hj' hA⟩
   ·intro b hb
    rw [hej] at hb
    rw [hsj1,hej,hsj]; exact hk.nx b hb
   ·intro j' hj' hA b ht
    rw [hej] at ht
    rw [e2 j' (by omega)]
    exact hk.post j' hj' hA b ht
   ·rw [hej]; exact hk.noro
 ·intro j hj b ht
  by_cases hji:j = i
  ·subst hji
   rw [e1] at ht
   rcases hi with ⟨p,hp,hpj,hpT,hpn⟩ | ⟨rfl,rfl⟩
   ·refine ⟨p,hp,hpj,?_⟩
    rcases htE b ht with ⟨_,hb⟩ | ⟨h1,_⟩
    ·exact .inl (by rw [hpT]; exact hb)
    ·exact .inr (by rw [hpn]; exact h1)
   ·rcases htE b ht with ⟨_,hb⟩ | ⟨h1,h2⟩
    ·cases hb
    ·omega
  ·rw [e2 j (by omega)] at ht
   obtain ⟨p,hp,h1,h2⟩:=htch j (by omega) b ht
   exact ⟨p,hlo p hp,h1,h2⟩
 ·intro j hj
  rw [hput]
  by_cases hji:j = i
  ·subst hji
   rw [e1]
   exact ⟨by rw [hKM]; omega,by show R.length ≤ _; omega⟩
  ·rw [e2 j (by omega)]
   have:=hlen j (by omega)
   omega
theorem QJ.step {o:Oper} (h:QJ G ops s0 i s lo) (ho:ops[i]? = some o) {kM R:Mem} {T:List Nat} {lo':Lo} (hl:kM.length = s.M.length) (hk:∀ (b:Nat) (k:Blk),kM[b]? = some k → k = .dead ∨ (s.M[b]? = some k ∧ ∀ p ∈ lo,bf (msOf ops) p.1 i = true ∨ (b ∉ p.2.1 ∧ b < p.2.2)))
  (hop:AOpV Tryz.prog G ops i (seen ops (msOf ops) i s kM) o.dst v R) (hg:GrowL kM R T) (hall:T = [] ∨ ∀ j,j < i → bf (msOf ops) j i = true)
  (hM:(kM = s.M ∧ M' = R) ∨ (R = kM ∧ T = [] ∧ M' = s.M)) (hlo:∀ p ∈ lo,p ∈ lo') (hi:(∃ p ∈ lo',p.1 = i ∧ p.2.1 = T ∧ p.2.2 = kM.length) ∨ (R = kM ∧ T = [])) :
  QJ G ops s0 (i + 1) (s.put o.dst v M') lo':=by
 refine h.stepG ho hl hk hop hg hall ?_ ?_ hlo hi
 ·rcases hM with ⟨_,rfl⟩ | ⟨rfl,_,rfl⟩
  ·rfl
  ·exact hl.symm
 ·intro b hb
  rcases hM with ⟨rfl,rfl⟩ | ⟨rfl,rfl,rfl⟩
  ·split
   ·rfl
   ·rename_i hn
    by_cases hne:M'[b]? = s.M[b]?
    ·exact hne
    ·have hlt:b < s.M.length:=by omega
     exact absurd (.inl ⟨hlt,hg.same b hlt hne⟩) hn
  ·rw [if_neg (by simp; omega)]
def QG2 (G:GF) (ops:Array Oper) (id:Nat) (s0:St) (i:Nat) (s:St) (lo:Lo) (Q:AExit → St → Prop):Prop:=QJ G ops s0 i s lo → AWX G (.region id ops true) s0 Q
variable {id:Nat} {Q:AExit → St → Prop} {op:Op} {ty:TypeId} {pos:String} {af:Array Edge} {n d:Nat} {l:List (Nat × V)} {M:Mem} {bad:List Nat}
theorem seen_getD {kM:Mem} (hb:badT ops (msOf ops) i = bad):(seen ops (msOf ops) i (mkSt n l M) kM).get = getD bad n l:=by
 funext x
 cases x with
 | tmp t =>
  have e:getL n l (.tmp t) = (mkSt n l M).get (.tmp t):=by rw [mk_get]
  simp only [getL] at e
  simp only [getD,e]
  simp only [seen,St.get,mask_ts,hb]
  cases memN bad t
  ·simp only [cond_false]; cases (mkSt n l M).ts[t]? <;> simp
  ·simp only [cond_true]; cases (mkSt n l M).ts[t]? <;> simp
 | const c => rfl
 | global g => rfl
 | func f => rfl
theorem AWX.draw (h:QG2 G ops id s0 0 s0 [] Q):AWX G (.region id ops true) s0 Q:=h QJ.zero
theorem QG2.done (hd:dGood ops = true) (hi:i = ops.size) (h:Q .normal s):QG2 G ops id s0 i s lo Q:=by
 rintro ⟨e,st,h0,h1,h2,_⟩
 subst hi
 have:=par_aw (id:=id) hd h2
 rw [h0,h1] at this
 exact ⟨.normal,s,this,h⟩
theorem QG2.q (hG:GOK G) (hb:badT ops (msOf ops) i = bad) (hlo:(lo.all fun p => bf (msOf ops) p.1 i) = true) (ho:ops[i]? = some ⟨some d,op,ty,pos,af,none⟩) (hr:astep noX tyF (getD bad n l) M op = some (.pure v)) (hd:Nat.blt d n = true) (h:QG2 G ops id s0 (i + 1) (mkSt n ((d,v) :: l) M) lo Q):QG2 G ops id s0 i (mkSt n l M) lo Q:=by
 intro hq
 refine h ?_
 rw [← mk_put (v:=v) (M':=M) hd]
 refine hq.step ho (kM:=M) (R:=M) (T:=[]) rfl (fun _ _ hk => .inr ⟨hk,fun p hp => .inl (List.all_eq_true.1 hlo p hp)⟩) (AOpV.step (r:=.pure v) hG noX_ok tyF_ok ho rfl (by rw [seen_getD hb]; exact hr) (v:=v) (M':=M) ⟨rfl,rfl⟩) (GrowL.refl _) (.inl rfl) (.inl ⟨rfl,rfl⟩) (fun _ h => h) (.inr ⟨rfl,rfl⟩)
theorem deads_dead {M:Mem} {b:Nat} {k:Blk} (h:(deads M)[b]? = some k):k = .dead:=by
 obtain ⟨hl,e⟩:=List.getElem?_eq_some_iff.1 h
 rw [← e]; simp [deads]
theorem QG2.b (hG:GOK G) (hb:badT ops (msOf ops) i = bad) (ho:ops[i]? = some ⟨some d,op,ty,pos,af,none⟩) (hr:astep noX tyF (getD bad n l) (deads M) op = some (.pure v)) (hd:Nat.blt d n = true) (h:QG2 G ops id s0 (i + 1) (mkSt n ((d,v) :: l) M) lo Q):QG2 G ops id s0 i (mkSt n l M) lo Q:=by
 intro hq
 refine h ?_
 rw [← mk_put (v:=v) (M':=M) hd]
 refine hq.step ho (kM:=deads M) (R:=deads M) (T:=[]) (by simp [deads,mkSt]) (fun _ _ hk => .inl (deads_dead hk)) (AOpV.step (r:=.pure v) hG noX_ok tyF_ok ho rfl (by rw [seen_getD hb]; exact hr) (v:=v) (M':=deads M) ⟨rfl,rfl⟩) (GrowL.refl _) (.inl rfl) (.inr ⟨rfl,rfl,rfl⟩) (fun _ h => h) (.inr ⟨rfl,rfl⟩)
theorem QG2.k (keep:List Nat) (hG:GOK G) (hb:badT ops (msOf ops) i = bad) (hlo:LoK ops i keep lo) (ho:ops[i]? = some ⟨some d,op,ty,pos,af,none⟩) (hr:astep noX tyF (getD bad n l) (maskK keep M) op = some (.pure v)) (hd:Nat.blt d n = true) (h:QG2 G ops id s0 (i + 1) (mkSt n ((d,v) :: l) M) lo Q):QG2 G ops id s0 i (mkSt n l M) lo Q:=by
 intro hq
 refine h ?_
 rw [← mk_put (v:=v) (M':=M) hd]
 refine hq.step ho (kM:=maskK keep M) (R:=maskK keep M) (T:=[]) maskK_len (fun b k hk => ?_) (AOpV.step (r:=.pure v) hG noX_ok tyF_ok ho rfl (by rw [seen_getD hb]; exact hr) (v:=v) (M':=maskK keep M) ⟨rfl,rfl⟩) (GrowL.refl _) (.inl rfl) (.inr ⟨rfl,rfl,rfl⟩) (fun _ h => h) (.inr ⟨rfl,rfl⟩)
 rcases maskK_cases hk with h1 | ⟨h1,h2⟩
 ·exact .inl h1
 ·exact .inr ⟨h2,LoK.all h1 hlo⟩
theorem QG2.av {T:List Nat} (hG:GOK G) (hb:badT ops (msOf ops) i = bad) (hlo:(lo.all fun p => bf (msOf ops) p.1 i) = true) (hT:T = [] ∨ ∀ j,j < i → bf (msOf ops) j i = true) (ho:ops[i]? = some ⟨some d,op,ty,pos,af,none⟩) (hr:astep noX tyF (getD bad n l) M op = some (.val v M')) (hg:GrowL M M' T) (hd:Nat.blt d n = true) (h:QG2 G ops id s0 (i + 1) (mkSt n ((d,v) :: l) M') ((i,T,M.length) :: lo) Q):QG2 G ops id s0 i (mkSt n l M) lo Q:=by
 intro hq
 refine h ?_
 rw [← mk_put (v:=v) (M':=M') (M:=M) hd]
 exact hq.step ho (kM:=M) (R:=M') (T:=T) rfl (fun _ _ hk => .inr ⟨hk,fun p hp => .inl (List.all_eq_true.1 hlo p hp)⟩) (AOpV.step (r:=.val v M') hG noX_ok tyF_ok ho rfl (by rw [seen_getD hb]; exact hr) (v:=v) (M':=M') ⟨rfl,rfl⟩) hg hT (.inl ⟨rfl,rfl⟩) (fun _ h => List.mem_cons_of_mem _ h) (.inl ⟨_,List.mem_cons_self ..,rfl,rfl,rfl⟩)
theorem QG2.c {T:List Nat} {f:Nat} {al:List V} (hG:GOK G) (hb:badT ops (msOf ops) i = bad) (hlo:(lo.all fun p => bf (msOf ops) p.1 i) = true) (hT:T = [] ∨ ∀ j,j < i → bf (msOf ops) j i = true) (ho:ops[i]? = some ⟨some d,op,ty,pos,af,none⟩) (hr:astep noX tyF (getD bad n l) M op = some (.call f al)) (hc:ACall Tryz.prog G f al M v M') (hg:GrowL M M' T) (hd:Nat.blt d n = true) (h:QG2 G ops id s0 (i + 1) (mkSt n ((d,v) :: l) M') ((i,T,M.length) :: lo) Q):QG2 G ops id s0 i (mkSt n l M) lo Q:=by
 intro hq
 refine h ?_
 rw [← mk_put (v:=v) (M':=M') (M:=M) hd]
 exact hq.step ho (kM:=M) (R:=M') (T:=T) rfl (fun _ _ hk => .inr ⟨hk,fun p hp => .inl (List.all_eq_true.1 hlo p hp)⟩) (AOpV.step (r:=.call f al) hG noX_ok tyF_ok ho rfl (by rw [seen_getD hb]; exact hr) (v:=v) (M':=M') hc) hg hT (.inl ⟨rfl,rfl⟩) (fun _ h => List.mem_cons_of_mem _ h) (.inl ⟨_,List.mem_cons_self ..,rfl,rfl,rfl⟩)
theorem QG2.st {T:List Nat} (hG:GOK G) (hb:badT ops (msOf ops) i = bad) (hlo:(lo.all fun p => bf (msOf ops) p.1 i) = true) (hT:T = [] ∨ ∀ j,j < i → bf (msOf ops) j i = true) (ho:ops[i]? = some ⟨none,op,ty,pos,af,none⟩) (hr:astep noX tyF (getD bad n l) M op = some (.skip M')) (hg:GrowL M M' T) (h:QG2 G ops id s0 (i + 1) (mkSt n l M') ((i,T,M.length) :: lo) Q):QG2 G ops id s0 i (mkSt n l M) lo Q:=by
 intro hq
 refine h ?_
 exact hq.step ho (kM:=M) (R:=M') (T:=T) (v:=undefV) rfl (fun _ _ hk => .inr ⟨hk,fun p hp => .inl (List.all_eq_true.1 hlo p hp)⟩) (AOpV.step (r:=.skip M') hG noX_ok tyF_ok ho rfl (by rw [seen_getD hb]; exact hr) (v:=undefV) (M':=M') ⟨rfl,rfl⟩) hg hT (.inl ⟨rfl,rfl⟩) (fun _ h => List.mem_cons_of_mem _ h) (.inl ⟨_,List.mem_cons_self ..,rfl,rfl,rfl⟩)
theorem deads_len {M:Mem}:(deads M).length = M.length:=by simp [deads]
theorem GrowL.app (M E:Mem) (hE:∀ k ∈ E,∀ cs,k ≠ .ro cs):GrowL M (M ++ E) []:=by
 refine ⟨by simp,fun b hb hne => ?_,fun b cs h => ?_,fun b cs h => ?_,fun _ h => by cases h⟩
 ·rw [List.getElem?_append_left hb] at hne; exact absurd rfl hne
 ·by_cases hb:b < M.length
  ·rwa [List.getElem?_append_left hb] at h
  ·rw [List.getElem?_append_right (by omega)] at h
   exact absurd rfl (hE _ (List.mem_of_getElem? h) cs)
 ·rw [List.getElem?_append_left (List.getElem?_eq_some_iff.1 h).1]; exact h
theorem QG2.al {cs:List V} {g:Nat} (hG:GOK G) (hb:badT ops (msOf ops) i = bad) (ho:ops[i]? = some ⟨some d,op,ty,pos,af,none⟩) (hr:astep noX tyF (getD bad n l) (deads M) op = some (.val v (deads M ++ [.own cs g]))) (hd:Nat.blt d n = true) (h:QG2 G ops id s0 (i + 1) (mkSt n ((d,v) :: l) (M ++ [.own cs g])) ((i,[],M.length) :: lo) Q):QG2 G ops id s0 i (mkSt n l M) lo Q:=by
 intro hq
 refine h ?_
 rw [← mk_put (v:=v) (M':=M ++ [Blk.own cs g]) (M:=M) hd]
 refine hq.stepG ho (kM:=deads M) (R:=deads M ++ [.own cs g]) (T:=[]) deads_len (fun _ _ hk => .inl (deads_dead hk)) (AOpV.step (r:=.val v (deads M ++ [.own cs g])) hG noX_ok tyF_ok ho rfl (by rw [seen_getD hb]; exact hr) (v:=v) (M':=deads M ++ [.own cs g]) ⟨rfl,rfl⟩) (GrowL.app _ _ (by simp)) (.inl rfl) (by simp [deads_len]) (fun b hb' => ?_) (fun _ h => List.mem_cons_of_mem _ h) (.inl ⟨_,List.mem_cons_self ..,rfl,rfl,deads_len.symm⟩)
 simp only [List.length_append,deads_len,List.length_singleton] at hb'
 simp only [List.not_mem_nil,and_false,false_or,deads_len]
 by_cases hlt:b < M.length
 ·rw [if_neg (by omega),List.getElem?_append_left hlt]; rfl
 ·rw [if_pos (by omega),List.getElem?_append_right (by omega),List.getElem?_append_right (by rw [deads_len]; omega),deads_len]
end
end
end
section
open Go.Proofs
noncomputable section
def reB (cs':List V):Blk → Blk
 | .own _ g => .own cs' g
 | .ro _ => .ro cs'
 | k => k
theorem MR.reset {G:GF} {prot:Pr} {W0 w:World} {φ:Pl} {M:Mem} (h:MR G prot W0 φ M w) {b:Nat} {k:Blk} {cs cs':List V} (hb:M[b]? = some k) (hc:k.cells = some cs) (hl:cs'.length = cs.length) (he:∀ us,concs φ cs = some us → concs φ cs' = some us):MR G prot W0 φ (M.set b (reB cs' k)) w:=by
 have hlt:=(List.getElem?_eq_some_iff.1 hb).1
 have back:∀ {i:Nat} {k':Blk},(M.set b (reB cs' k))[i]? = some k' → (i = b ∧ k' = reB cs' k) ∨ (i ≠ b ∧ M[i]? = some k'):=by
  intro i k' hi
  by_cases hib:i = b
  ·subst hib; rw [List.getElem?_set_self hlt] at hi; injection hi with hi; exact .inl ⟨rfl,hi.symm⟩
  ·rw [List.getElem?_set_ne (Ne.symm hib)] at hi; exact .inr ⟨hib,hi⟩
 refine ⟨h.os,h.tape,h.output,h.size,h.lt,h.kept,h.laid,fun i hi => h.fresh i (by simpa using hi),by simpa using h.nbl,h.base,?_,?_,?_,?_⟩
 ·intro i ds g hi
  rcases back hi with ⟨rfl,hk⟩ | ⟨_,hi⟩
  ·cases k <;> simp [Blk.cells] at hc <;> simp [reB] at hk
   obtain ⟨rfl,rfl⟩:=hk
   subst hc
   obtain ⟨p,us,cur,e,a0,a1,a2,a3⟩:=h.own i _ _ hb
   exact ⟨p,us,cur,e,a0,a1,he us a2,a3⟩
  ·exact h.own i ds g hi
 ·intro i j ds g k' p q hi hj hk' hne hp hq
  have hi':∃ ds,M[i]? = some (.own ds g):=by
   rcases back hi with ⟨rfl,hk⟩ | ⟨_,hi⟩
   ·cases k <;> simp [reB] at hk
    exact ⟨_,by rw [hb,hk.2]⟩
   ·exact ⟨_,hi⟩
  have hj':∃ k0,M[j]? = some k0 ∧ k0.isRow = true:=by
   rcases back hj with ⟨rfl,hk⟩ | ⟨_,hj⟩
   ·subst hk
    exact ⟨k,hb,by cases k <;> simp [reB,Blk.isRow] at hk' ⊢⟩
   ·exact ⟨k',hj,hk'⟩
  obtain ⟨ds',hi'⟩:=hi'
  obtain ⟨k0,hj',hk0⟩:=hj'
  exact h.sep i j ds' g k0 p q hi' hj' hk0 hne hp hq
 ·intro i ds hi
  rcases back hi with ⟨rfl,hk⟩ | ⟨_,hi⟩
  ·cases k <;> simp [Blk.cells] at hc <;> simp [reB] at hk
   subst hk hc
   obtain ⟨p,us,cur,e,fr,a0,a2,a3,a4,a5⟩:=h.ro i _ hb
   exact ⟨p,us,cur,e,fr,a0,he us a2,a3,a4,by rw [hl]; exact a5⟩
  ·exact h.ro i ds hi
 ·intro i d v hi
  rcases back hi with ⟨rfl,hk⟩ | ⟨_,hi⟩
  ·cases k <;> simp [Blk.cells] at hc <;> simp [reB] at hk
  ·exact h.eqn i d v hi
theorem concs_win {φ:Pl} {cs ws:List V} {o n:Nat} (he:∀ us,concs φ ((cs.drop o).take n) = some us → concs φ ws = some us):∀ us,concs φ cs = some us → concs φ (cs.take o ++ ws ++ cs.drop (o + n)) = some us:=by
 intro us h
 have e:cs = cs.take o ++ ((cs.drop o).take n ++ cs.drop (o + n)):=by
  rw [← List.drop_drop,List.take_append_drop,List.take_append_drop]
 rw [e] at h
 obtain ⟨a,b,h1,h2,rfl⟩:=concs_append_inv h
 obtain ⟨c,d,h3,h4,rfl⟩:=concs_append_inv h2
 have:=concs_append (concs_append h1 (he c h3)) h4
 simpa [List.append_assoc] using this
theorem conc_ints {φ:Pl} {lo hi:Int}:∀ {cs:List V} {us:List Value},cs.all (numOk .u8 lo hi) = true → concs φ cs = some us → ∃ x,nums φ cs = some x ∧ x.length = cs.length ∧ concs φ (u8s' x) = some us
 | [],us,_,h => ⟨[],rfl,rfl,h⟩
 | v :: cs,us,ha,h => by
  simp only [List.all_cons,Bool.and_eq_true] at ha
  obtain ⟨u,us',h1,h2,rfl⟩:=concs_cons.1 h
  obtain ⟨n,rfl,hn⟩:=kind_num (numOk_iff ha.1).1 h1
  obtain ⟨x,hx,hl,hc⟩:=conc_ints ha.2 h2
  exact ⟨n :: x,by simp [nums,hn,hx],by simp [hl],concs_cons.2 ⟨_,_,rfl,hc,rfl⟩⟩
def permS (X:Rule) (gid lb:Nat) (T:List Nat):Known:=fun f args M =>
 match Nat.beq f 105,args with
 | true,[.sl b o l lim,.sl t ot lt _] => match Nat.beq l lb && (Nat.beq lt T.length && (limOk M b o lb lim && !Nat.beq b t)),rd M b o lb,rd M t ot lt with
  | true,some cs,some tc => match cs.all (numOk .u8 0 255) && eqVs tc (T.map fun n:Nat => V.int .i64 n) with
   | true => kVs cs fun cs => mksK X gid cs (List.replicate ((T.length + 7) / 8) .u8) 0 M fun ys M1 => some (.tup [.sl M1.length 0 ((T.length + 7) / 8) (some ((T.length + 7) / 8)),.bool true],M1 ++ [.own ys 0],[])
   | false => none
  | _,_,_ => none
 | _,_ => none
def pmAt (x:List Int) (T:List Nat) (j:Nat):Int:=((pmOut x T)[j]?).getD 0
theorem List.set_getElem?_self' {α:Type} {l:List α} {i:Nat} {a:α} (h:l[i]? = some a):l.set i a = l:=by
 apply List.ext_getElem?
 intro j
 by_cases e:i = j
 ·subst e
  rw [List.getElem?_set_self (List.getElem?_eq_some_iff.1 h).1,h]
 ·rw [List.getElem?_set_ne e]
theorem mksK_ok2 {G:GF} {X:Rule} (hG:GOK G) (hX:RuleOK G X) {gid:Nat} {ins:List V}:∀ {ks:List IntKind} {j0:Nat} {M:Mem} {k:List V → Mem → Option (V × Mem × List Nat)} {r:V × Mem × List Nat},mksK X gid ins ks j0 M k = some r →
  ∃ ys E,ys.length = ks.length ∧ k ys (M ++ E) = some r ∧ Grow M (M ++ E) none ∧ ∀ (prot:Pr) (W0 w:World) (φ:Pl) (ns:List Int),MR G prot W0 φ M w → nums φ ins = some ns →
   ∃ φ1,φ.le φ1 ∧ MR G prot W0 φ1 (M ++ E) w ∧ ∀ (j:Nat) (kd:IntKind),ks[j]? = some kd → ∃ y,ys[j]? = some y ∧ y.conc φ1 = some (.int kd (G gid ns (j0 + j)))
 | [],j0,M,k,r,h => ⟨[],[],rfl,by rw [List.append_nil]; exact h,by simpa using Grow.refl M none,fun prot W0 w φ ns hM _ => ⟨φ,Pl.le_refl _,by simpa using hM,fun j kd hj => by simp at hj⟩⟩
 | kd :: ks,j0,M,k,r,h => by
  simp only [mksK] at h
  split at h
  ·rename_i p hp
   obtain ⟨v,m⟩:=p
   rw [kV1_eq] at h
   have h':mksK X gid ins ks (j0 + 1) (m.getD M) (fun vs => k (v :: vs)) = some r:=by
    cases m with
    | some M' => simpa [kNew_eq] using h
    | none => exact h
   obtain ⟨E1,hE1⟩:=mkInt_ext hp
   have hgr:=mkInt_grow hp
   rw [hE1] at h' hgr
   obtain ⟨ys,E,a0,a1,a2,a3⟩:=mksK_ok2 hG hX h'
   refine ⟨v :: ys,E1 ++ E,by simp [a0],by rw [← List.append_assoc]; exact a1,by rw [← List.append_assoc]; exact hgr.trans a2,?_⟩
   intro prot W0 w φ ns hM hn
   obtain ⟨φ1,b1,b2,b3⟩:=mkInt_sound hG hX hM hp (k:=kd) (n:=G gid ns j0) (by simp only [Def.val,hn,Option.map_some])
   rw [hE1] at b3
   obtain ⟨φ2,c1,c2,c3⟩:=a3 prot W0 w φ1 ns b3 (nums_mono b1 hn)
   refine ⟨φ2,Pl.le_trans b1 c1,by rw [← List.append_assoc]; exact c2,?_⟩
   intro j kd' hj
   cases j with
   | zero =>
    simp only [List.getElem?_cons_zero,Option.some.injEq] at hj; subst hj
    exact ⟨v,by simp,V.conc_mono c1 _ b2⟩
   | succ j =>
    obtain ⟨y,d1,d2⟩:=c3 j kd' (by simpa using hj)
    exact ⟨y,by simpa using d1,by rw [show j0 + (j + 1) = j0 + 1 + j by omega]; exact d2⟩
  ·cases h
theorem pmF_len (x:List Int) (tb:List Nat):∀ (n k:Nat) (out:List Int),(pmF x tb n k out).length = out.length
 | 0,_,_ => rfl
 | n + 1,k,out => by rw [pmF,pmF_len x tb n]; simp [pmStep]
theorem pmOut_len (x:List Int) (T:List Nat):(pmOut x T).length = (T.length + 7) / 8:=by unfold pmOut; rw [pmF_len]; simp
theorem concs_same {φ:Pl}:∀ {ys:List V} {out:List Int},ys.length = out.length → (∀ (j:Nat) (n:Int),out[j]? = some n → ∃ y,ys[j]? = some y ∧ y.conc φ = some (.int .u8 n)) → concs φ ys = concs φ (u8s' out)
 | [],[],_,_ => rfl
 | [],_ :: _,h,_ => by simp at h
 | _ :: _,[],h,_ => by simp at h
 | y :: ys,n :: out,h,hy => by
  obtain ⟨y',h1,h2⟩:=hy 0 n rfl
  simp only [List.getElem?_cons_zero,Option.some.injEq] at h1
  subst h1
  have:=concs_same (ys:=ys) (out:=out) (by simpa using h) fun j m hj => by simpa using hy (j + 1) m (by simpa using hj)
  simp only [u8s',List.map_cons,concs,h2,V.conc,Option.bind_some] at this ⊢
  rw [this]
theorem permS_ok {G:GF} {X:Rule} (hG:GOK G) (hX:RuleOK G X) {gid lb:Nat} {T:List Nat} (hrun:bitRuns lb) (hlb:lb ≤ 8) (hTl:T.length ≤ 1000) (hT:∀ n ∈ T,1 ≤ n ∧ n ≤ 8 * lb) (hg:∀ x j,x.length = lb → Bytes x → G gid x j = pmAt x T j):CallOK Tryz.prog G (permS X gid lb T):=by
 intro f args M v M' ch hh
 unfold permS at hh
 split at hh
 ·rename_i b o l lim t ot lt limt hf
  have:=Nat.eq_of_beq_eq_true hf; subst this
  split at hh
  ·rename_i cs tc hc hr hrt
   simp only [Bool.and_eq_true] at hc
   obtain ⟨hc1,hc2,hc3,hc4⟩:=hc
   have:=Nat.eq_of_beq_eq_true hc1; subst this
   have:=Nat.eq_of_beq_eq_true hc2; subst this
   have hbt:b ≠ t:=by
    intro e; subst e; simp at hc4
   split at hh
   ·rename_i hok
    simp only [Bool.and_eq_true] at hok
    have:=eqVs_iff hok.2; subst this
    rw [kVs_eq] at hh
    obtain ⟨ys,E,hyl,h1,h2,h3⟩:=mksK_ok2 hG hX hh
    simp only [Option.some.injEq,Prod.mk.injEq] at h1
    obtain ⟨rfl,rfl,rfl⟩:=h1
    have hp:Plain Tryz.prog 105:=plain_of (v:=fnOf Tryz.f105) rfl
    refine ⟨⟨hp,?_⟩,Grow.toL (c:=none) (h2.trans (Grow.app _ _ _ (by simp)))⟩
    intro prot W0 φ w us hM hus
    obtain ⟨q,ucs,hq,hucs,_⟩:=hM.read hr
    obtain ⟨x,hx,hxl,hxc⟩:=conc_ints hok.1 hucs
    have hcl:=rd_len hr
    have hxb:Bytes x:=fun n hn => all_bnd hok.1 hx n hn
    obtain ⟨φ1,b1,b2,b3⟩:=h3 prot W0 w φ x hM hx
    have hrE:=rd_app (E:=E) hr
    obtain ⟨k,hk,hkr⟩:=rd_row hrE
    obtain ⟨cells,hcells⟩:∃ cells,k.cells = some cells:=by cases k <;> simp [Blk.isRow] at hkr <;> exact ⟨_,rfl⟩
    have hwin:o + l ≤ cells.length ∧ (cells.drop o).take l = cs:=by
     unfold rd at hrE
     rw [hk] at hrE
     simp only [Option.bind_some,hcells] at hrE
     split at hrE
     ·rename_i hle; injection hrE with hrE; exact ⟨hle,hrE⟩
     ·cases hrE
    have hxcs:∀ us,concs φ1 cs = some us → concs φ1 (u8s' x) = some us:=by
     intro us' hu
     have:=concs_mono b1 _ hucs
     rw [this] at hu; injection hu with hu; subst hu
     exact concs_mono b1 _ hxc
    let cs':=cells.take o ++ u8s' x ++ cells.drop (o + l)
    have hcs'l:cs'.length = cells.length:=by simp [cs',u8s'_len,hxl,hcl]; omega
    have hM2:=b2.reset (cs':=cs') hk hcells hcs'l (concs_win (by rw [hwin.2]; exact hxcs))
    have hblt:=(List.getElem?_eq_some_iff.1 hk).1
    have hget:((M ++ E).set b (reB cs' k))[b]? = some (reB cs' k):=List.getElem?_set_self hblt
    have hre:(reB cs' k).cells = some cs':=by cases k <;> simp [Blk.isRow] at hkr <;> rfl
    have hknown:known ((M ++ E).set b (reB cs' k)) b = known (M ++ E) b:=by
     unfold known
     rw [hget,hk]
     cases k with
     | own c g =>
      simp only [Blk.cells,Option.some.injEq] at hcells; subst hcells
      simp only [reB]
      by_cases hg1:g = 1
      ·subst hg1; exact hcs'l
      ·cases g with
       | zero => rfl
       | succ g => cases g with
        | zero => exact absurd rfl hg1
        | succ g => rfl
     | ro c => simp only [Blk.cells,Option.some.injEq] at hcells; subst hcells; exact hcs'l
     | dead => rfl
     | eqn d v => rfl
    have hA:PmA ((M ++ E).set b (reB cs' k)) b o l t ot T.length lim limt x T:=by
     refine ⟨hrun,by rw [hxl,hcl],hxb,?_,?_,rfl,hT,?_,hTl,hlb⟩
     ·unfold rd
      rw [hget]
      simp only [Option.bind_some,hre]
      rw [if_pos (by rw [hcs'l]; exact hwin.1)]
      congr 1
      have e1:(cells.take o).length = o:=by simp; omega
      show ((cells.take o ++ u8s' x ++ cells.drop (o + l)).drop o).take l = _
      rw [List.append_assoc,List.drop_left' e1,List.take_left' (by rw [u8s'_len,hxl,hcl])]
     ·cases lim with
      | some c => show l ≤ c; simpa [limOk] using hc3
      | none =>
       show o + l ≤ known _ b
       rw [hknown,known_app (by
        obtain ⟨k0,hk0,_⟩:=rd_row hr
        exact (List.getElem?_eq_some_iff.1 hk0).1)]
       simpa [limOk] using hc3
     ·have:=rd_app (E:=E) hrt
      unfold rd at this ⊢
      rw [List.getElem?_set_ne hbt]; exact this
    refine Calls.mono ((pm_call hG hA).2 prot W0 φ1 w us hM2 (concs_mono b1 _ hus)) ?_
    intro e w' he
    cases e with
    | panicked c => exact he.elim
    | outgrown => exact he.elim
    | returned u =>
     obtain ⟨φ2,c1,c2,c3⟩:=he
     rw [List.length_set] at c2
     refine ⟨φ2,Pl.le_trans b1 c1,c2,?_⟩
     have hrd0:rd (M ++ E) b 0 cells.length = some cells:=by
      unfold rd
      rw [hk]
      simp only [Option.bind_some,hcells,Nat.zero_add,Nat.le_refl,if_true,List.drop_zero,List.take_length]
     obtain ⟨_,us0,_,hus0,_⟩:=b2.read hrd0
     have hus0':=concs_win (φ:=φ1) (cs:=cells) (ws:=u8s' x) (o:=o) (n:=l) (by rw [hwin.2]; exact hxcs) us0 hus0
     have hrow:((M ++ E).set b (reB cs' k) ++ [Blk.own (u8s' (pmOut x T)) 0])[b]? = some (reB cs' k):=by
      rw [List.getElem?_append_left (by simpa using hblt)]; exact hget
     have hMb:=c3.reset (cs':=cells) hrow hre hcs'l.symm (fun us1 h1 => by
      have:=concs_mono c1 _ hus0'
      rw [show concs φ2 cs' = some us0 from this] at h1
      injection h1 with h1; subst h1
      exact concs_mono c1 _ hus0)
     have hkk:reB cells (reB cs' k) = k:=by cases k <;> simp [Blk.cells] at hcells <;> subst hcells <;> rfl
     have hmem:((M ++ E).set b (reB cs' k) ++ [Blk.own (u8s' (pmOut x T)) 0]).set b (reB cells (reB cs' k)) = M ++ E ++ [Blk.own (u8s' (pmOut x T)) 0]:=by
      rw [hkk,List.set_append_left _ _ (by simpa using hblt),List.set_set,List.set_getElem?_self' hk]
     rw [hmem] at hMb
     refine hMb.recell (by simp) ?_
     intro i k' hi
     by_cases hlt:i < (M ++ E).length
     ·rw [List.getElem?_append_left hlt] at hi ⊢
      exact .inl hi
     ·rw [List.getElem?_append_right (by omega)] at hi ⊢
      have hi0:i - (M ++ E).length = 0:=by
       have:=(List.getElem?_eq_some_iff.1 hi).1
       simp only [List.length_singleton] at this
       exact Nat.lt_one_iff.1 this
      rw [hi0] at hi ⊢
      simp only [List.getElem?_cons_zero,Option.some.injEq] at hi
      subst hi
      refine .inr ⟨_,_,_,rfl,rfl,fun us1 h1 => ?_⟩
      have hsame:concs φ1 ys = concs φ1 (u8s' (pmOut x T)):=by
       refine concs_same (by rw [hyl,List.length_replicate,pmOut_len]) fun j n hj => ?_
       obtain ⟨y,d1,d2⟩:=b3 j .u8 (by
        rw [List.getElem?_replicate,if_pos]
        have:=(List.getElem?_eq_some_iff.1 hj).1
        rw [pmOut_len] at this; exact this)
       rw [Nat.zero_add,hg x j (by rw [hxl,hcl]) hxb] at d2
       refine ⟨y,d1,?_⟩
       rw [d2]; simp [pmAt,hj]
      have hint:concs φ1 (u8s' (pmOut x T)) = some ((pmOut x T).map (Value.int .u8)):=by
       generalize pmOut x T = out
       induction out with
       | nil => rfl
       | cons n l ih =>
        simp only [u8s',List.map_cons,concs,V.conc,Option.bind_some] at ih ⊢
        rw [ih]; rfl
      have e2:=concs_mono c1 _ (hsame.trans hint)
      have e3:=concs_mono c1 _ hint
      rw [e3] at h1
      rw [e2]; exact h1
   ·cases hh
  ·cases hh
 ·cases hh
end
end
section
open Go.Proofs
noncomputable section
def sA (i:Nat):V:=.sym .u8 i 0 255
def sB (i:Nat):V:=.sym .u32 i 0 4294967295
def sC (i:Nat):V:=.sym .u64 i 0 4294967295
def kW (n:Nat):List V:=symRow .u32 0 4294967295 n 0
def tb32 (n:Nat):Tab:=List.replicate n (some (0,4294967295))
def rSums (n r:Nat):Rp:=⟨160 + 20 * n + r,85,tb32 (42 + n),[.ptr (42 + n) 0,.sym .u32 (40 + n) 0 4294967295,.sym .u32 (41 + n) 0 4294967295,.int .i64 r],
 [[.sl (43 + n) 0 40 none,.sl (44 + n) 0 n none],symRow .u32 0 4294967295 40 0,symRow .u32 0 4294967295 n 40],[.u32,.u32],.tup [.sym .u32 0 0 0,.sym .u32 1 0 0],[]⟩
def sumsS (n:Nat):Nat → Known
 | 0 => noS
 | r + 1 => orS (rpS or0X (rSums n r)) (sumsS n r)
def twT (n:Nat):Known:=orS (twS n) (sumsS n 16)
end
end
section
open Go.Proofs
noncomputable section
def tFirst:List Nat:=[58,50,42,34,26,18,10,2,60,52,44,36,28,20,12,4,62,54,46,38,30,22,14,6,64,56,48,40,32,24,16,8,57,49,41,33,25,17,9,1,59,51,43,35,27,19,11,3,61,53,45,37,29,21,13,5,63,55,47,39,31,23,15,7]
def tInv:List Nat:=[40,8,48,16,56,24,64,32,39,7,47,15,55,23,63,31,38,6,46,14,54,22,62,30,37,5,45,13,53,21,61,29,36,4,44,12,52,20,60,28,35,3,43,11,51,19,59,27,34,2,42,10,50,18,58,26,33,1,41,9,49,17,57,25]
def tWide:List Nat:=[32,1,2,3,4,5,4,5,6,7,8,9,8,9,10,11,12,13,12,13,14,15,16,17,16,17,18,19,20,21,20,21,22,23,24,25,24,25,26,27,28,29,28,29,30,31,32,1]
def tMixed:List Nat:=[16,7,20,21,29,12,28,17,1,15,23,26,5,18,31,10,2,8,24,14,32,27,3,9,19,13,30,6,22,11,4,25]
def tPick:Nat → List Nat
 | 0 => [10,51,34,60,49,17,33,57,2,9,19,42,3,35,26,25,44,58,59,1,36,27,18,41,22,28,39,54,37,4,47,30,5,53,23,29,61,21,38,63,15,20,45,14,13,62,55,31]
 | 1 => [2,43,26,52,41,9,25,49,59,1,11,34,60,27,18,17,36,50,51,58,57,19,10,33,14,20,31,46,29,63,39,22,28,45,15,21,53,13,30,55,7,12,37,6,5,54,47,23]
 | 2 => [51,27,10,36,25,58,9,33,43,50,60,18,44,11,2,1,49,34,35,42,41,3,59,17,61,4,15,30,13,47,23,6,12,29,62,5,37,28,14,39,54,63,21,53,20,38,31,7]
 | 3 => [35,11,59,49,9,42,58,17,27,34,44,2,57,60,51,50,33,18,19,26,25,52,43,1,45,55,62,14,28,31,7,53,63,13,46,20,21,12,61,23,38,47,5,37,4,22,15,54]
 | 4 => [19,60,43,33,58,26,42,1,11,18,57,51,41,44,35,34,17,2,3,10,9,36,27,50,29,39,46,61,12,15,54,37,47,28,30,4,5,63,45,7,22,31,20,21,55,6,62,38]
 | 5 => [3,44,27,17,42,10,26,50,60,2,41,35,25,57,19,18,1,51,52,59,58,49,11,34,13,23,30,45,63,62,38,21,31,12,14,55,20,47,29,54,6,15,4,5,39,53,46,22]
 | 6 => [52,57,11,1,26,59,10,34,44,51,25,19,9,41,3,2,50,35,36,43,42,33,60,18,28,7,14,29,47,46,22,5,15,63,61,39,4,31,13,38,53,62,55,20,23,37,30,6]
 | 7 => [36,41,60,50,10,43,59,18,57,35,9,3,58,25,52,51,34,19,49,27,26,17,44,2,12,54,61,13,31,30,6,20,62,47,45,23,55,15,28,22,37,46,39,4,7,21,14,53]
 | 8 => [57,33,52,42,2,35,51,10,49,27,1,60,50,17,44,43,26,11,41,19,18,9,36,59,4,46,53,5,23,22,61,12,54,39,37,15,47,7,20,14,29,38,31,63,62,13,6,45]
 | 9 => [41,17,36,26,51,19,35,59,33,11,50,44,34,1,57,27,10,60,25,3,2,58,49,43,55,30,37,20,7,6,45,63,38,23,21,62,31,54,4,61,13,22,15,47,46,28,53,29]
 | 10 => [25,1,49,10,35,3,19,43,17,60,34,57,18,50,41,11,59,44,9,52,51,42,33,27,39,14,21,4,54,53,29,47,22,7,5,46,15,38,55,45,28,6,62,31,30,12,37,13]
 | 11 => [9,50,33,59,19,52,3,27,1,44,18,41,2,34,25,60,43,57,58,36,35,26,17,11,23,61,5,55,38,37,13,31,6,54,20,30,62,22,39,29,12,53,46,15,14,63,21,28]
 | 12 => [58,34,17,43,3,36,52,11,50,57,2,25,51,18,9,44,27,41,42,49,19,10,1,60,7,45,20,39,22,21,28,15,53,38,4,14,46,6,23,13,63,37,30,62,61,47,5,12]
 | 13 => [42,18,1,27,52,49,36,60,34,41,51,9,35,2,58,57,11,25,26,33,3,59,50,44,54,29,4,23,6,5,12,62,37,22,55,61,30,53,7,28,47,21,14,46,45,31,20,63]
 | 14 => [26,2,50,11,36,33,49,44,18,25,35,58,19,51,42,41,60,9,10,17,52,43,34,57,38,13,55,7,53,20,63,46,21,6,39,45,14,37,54,12,31,5,61,30,29,15,4,47]
 | _ => [18,59,42,3,57,25,41,36,10,17,27,50,11,43,34,33,52,1,2,9,44,35,26,49,30,5,47,62,45,12,55,38,13,61,31,37,6,29,46,4,23,28,53,22,21,7,63,39]
def symT' (k:IntKind):Nat → Nat → List V
 | 0,_ => []
 | n + 1,i => .sym k i 0 0 :: symT' k n (i + 1)
def fPS:Known:=orS (permS or0X 2400 4 tWide) (permS or0X 2401 4 tMixed)
def dsT:Known:=orS (rowS 131 48 1 none wideT) (orS (rowS 134 32 0 (some 32) mixedT) (rowS 106 64 1 none firstT))
def fS:Known:=orS (sgnS or0X) (orS fPS dsT)
def rF:Rn:=⟨2107,107,[.row .u8 4 0 255,.row .u8 6 0 255],List.replicate 4 .u8,.tup [.sl 0 0 4 (some 4),.bool true],[(symT' .u8 4 0,0)]⟩
def onceT:Known:=orS (permS or0X 2402 8 tFirst) (orS (permS or0X 2403 8 tInv) (orS (runS or0X rF) dsT))
def rOnce:Rn:=⟨2077,77,[.row .u8 8 0 255,.rows .u8 16 6 0 255],List.replicate 8 .u8,.sl 0 0 8 (some 8),[(symT' .u8 8 0,0)]⟩
end
end
end Go.Proofs.YthajgdmcjfmjoaaGreatDoor.Rel
