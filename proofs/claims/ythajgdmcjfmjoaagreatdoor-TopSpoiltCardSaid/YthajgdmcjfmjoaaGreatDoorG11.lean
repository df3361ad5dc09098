/- TopSpoilt, part 11 of 38 of its proof: a relative machine (values, memory, an evaluator, all sound against the model), and by it the walks. Conditions: none. -/
import Derived.Test.YthajgdmcjfmjoaaGreatDoorG08
import Derived.Test.YthajgdmcjfmjoaaGreatDoorG09
import Derived.Test.YthajgdmcjfmjoaaGreatDoorG10
set_option linter.all false
namespace Go.Proofs.YthajgdmcjfmjoaaGreatDoor.Rel
section
open Go.Proofs
noncomputable section
theorem GrowL.tl {M M1 M2:Mem} {T:List Nat} (h:GrowL M M1 []) (h':GrowL M1 M2 T) (hT:∀ b ∈ T,∀ cs,M[b]? ≠ some (.ro cs)):GrowL M M2 T:=by
 refine ⟨Nat.le_trans h.le h'.le,fun b hb hne => ?_,fun b cs hb => h.ro b cs (h'.ro b cs hb),fun b cs hb => h'.keep b cs (h.keep b cs hb),hT⟩
 by_cases e:M1[b]? = M[b]?
 ·exact h'.same b (Nat.lt_of_lt_of_le hb h.le) (by rw [e]; exact hne)
 ·exact absurd (h.same b hb e) (by simp)
def nRow (k:IntKind) (l:List Int):List V:=l.map (.int k)
theorem nRow_len {k:IntKind} {l:List Int}:(nRow k l).length = l.length:=by simp [nRow]
theorem conc_nRow {φ:Pl} {k:IntKind} {lo hi:Int}:∀ {cs:List V} {us:List Value},cs.all (numOk k lo hi) = true → concs φ cs = some us → ∃ x,nums φ cs = some x ∧ x.length = cs.length ∧ concs φ (nRow k x) = some us
 | [],us,_,h => ⟨[],rfl,rfl,h⟩
 | v :: cs,us,ha,h => by
  simp only [List.all_cons,Bool.and_eq_true] at ha
  obtain ⟨u,us',h1,h2,rfl⟩:=concs_cons.1 h
  obtain ⟨n,rfl,hn⟩:=kind_num (numOk_iff ha.1).1 h1
  obtain ⟨x,hx,hl,hc⟩:=conc_nRow ha.2 h2
  exact ⟨n :: x,by simp [nums,hn,hx],by simp [hl],concs_cons.2 ⟨_,_,rfl,hc,rfl⟩⟩
theorem concs_nRow {φ:Pl} {k:IntKind}:∀ {ys:List V} {out:List Int},ys.length = out.length → (∀ (j:Nat) (n:Int),out[j]? = some n → ∃ y,ys[j]? = some y ∧ y.conc φ = some (.int k n)) → concs φ ys = concs φ (nRow k out)
 | [],[],_,_ => rfl
 | [],_ :: _,h,_ => by simp at h
 | _ :: _,[],h,_ => by simp at h
 | y :: ys,n :: out,h,hy => by
  obtain ⟨y',h1,h2⟩:=hy 0 n rfl
  simp only [List.getElem?_cons_zero,Option.some.injEq] at h1
  subst h1
  have:=concs_nRow (ys:=ys) (out:=out) (by simpa using h) fun j m hj => by simpa using hy (j + 1) m (by simpa using hj)
  simp only [nRow,List.map_cons,concs,h2,V.conc,Option.bind_some] at this ⊢
  rw [this]
theorem nRow_conc {φ:Pl} {k:IntKind} (out:List Int):concs φ (nRow k out) = some (out.map (Value.int k)):=by
 induction out with
 | nil => rfl
 | cons n l ih =>
  simp only [nRow,List.map_cons,concs,V.conc,Option.bind_some] at ih ⊢
  rw [ih]; rfl
def kilM (kill:Bool) (b:Nat) (M:Mem):Mem:=bif kill then M.set b .dead else M
theorem kilM_len {kill:Bool} {b:Nat} {M:Mem}:(kilM kill b M).length = M.length:=by cases kill <;> simp [kilM]
def ownB (kill:Bool) (M:Mem) (b:Nat):Bool:=!kill || (match nth M b with | some (.own _ _) => true | _ => false)
def knowS (X:Rule) (gid f lb n:Nat) (kd ko:IntKind) (hi:Int) (kill:Bool) (v0:Nat → V) (N:Nat → List V → List Blk):Known:=fun g args M =>
 match Nat.beq g f,args with
 | true,[.sl b o l lim] => match (Nat.beq l lb && limOk M b o lb lim) && ownB kill M b,rd M b o lb with
  | true,some cs => match cs.all (numOk kd 0 hi) with
   | true => kVs cs fun cs => mksK X gid cs (List.replicate n ko) 0 M fun ys M1 => kAll (N M1.length ys) fun R => some (v0 M1.length,kilM kill b M1 ++ R,bif kill then [b] else [])
   | false => none
  | _,_ => none
 | _,_ => none
def RowsOf (N:Nat → List V → List Blk):Prop:=∀ (base:Nat) (ys ys':List V),ys.length = ys'.length → (N base ys).length = (N base ys').length ∧ ∀ (i:Nat) (k:Blk),(N base ys)[i]? = some k → (k = .dead ∧ (N base ys')[i]? = some .dead) ∨ ∃ cs cs' g,k = .own cs g ∧ (N base ys')[i]? = some (.own cs' g) ∧ ∀ (φ:Pl) (us:List Value),concs φ ys = some us → concs φ ys' = some us → concs φ cs = concs φ cs'
theorem knowS_ok {G:GF} {X:Rule} (hG:GOK G) (hX:RuleOK G X) {gid f lb n:Nat} {kd ko:IntKind} {hi:Int} {kill:Bool} {v0:Nat → V} {N:Nat → List V → List Blk} {out:List Int → List Int} {fv:FnV} (hf:fn f = some fv) (hN:RowsOf N)
  (hlit:∀ (x:List Int),x.length = lb → (∀ n ∈ x,0 ≤ n ∧ n ≤ hi) → ∀ (M:Mem) (b o:Nat) (lim:Option Nat),rd M b o lb = some (nRow kd x) → LimP M b o lb lim → (kill = true → ∃ cs g,M[b]? = some (.own cs g)) → ACall Tryz.prog G f [.sl b o lb lim] M (v0 M.length) (kilM kill b M ++ N M.length (nRow ko (out x))))
  (hout:∀ x:List Int,x.length = lb → (out x).length = n) (hg:∀ x j,x.length = lb → (∀ n ∈ x,0 ≤ n ∧ n ≤ hi) → j < n → G gid x j = ((out x)[j]?).getD 0):CallOK Tryz.prog G (knowS X gid f lb n kd ko hi kill v0 N):=by
 intro f' args M v M' ch hh
 unfold knowS at hh
 split at hh
 ·rename_i b o l lim hff
  have:=Nat.eq_of_beq_eq_true hff; subst this
  split at hh
  ·rename_i cs hc hr
   simp only [Bool.and_eq_true] at hc
   obtain ⟨⟨hc1,hc3⟩,hc5⟩:=hc
   have:=Nat.eq_of_beq_eq_true hc1; subst this
   split at hh
   ·rename_i hok
    rw [kVs_eq] at hh
    obtain ⟨ys,E,hyl,h1,h2,h3⟩:=mksK_ok2 hG hX hh
    simp only [kAll_eq,Option.some.injEq,Prod.mk.injEq] at h1
    obtain ⟨rfl,rfl,rfl⟩:=h1
    have hp:Plain Tryz.prog f':=plain_of hf
    have hNo:∀ cs,Blk.ro cs ∉ N (M ++ E).length ys:=fun cs hm => by
     obtain ⟨i,hi⟩:=List.getElem?_of_mem hm
     rcases (hN _ ys ys rfl).2 i _ hi with ⟨h,_⟩ | ⟨_,_,_,h,_⟩ <;> cases h
    have hblt0:b < M.length:=by
     obtain ⟨k0,hk0,_⟩:=rd_row hr
     exact lt_of hk0
    have hown:kill = true → ∃ cs g,M[b]? = some (.own cs g):=fun hk => by
     subst hk
     simp only [ownB,Bool.not_true,Bool.false_or,nth_eq] at hc5
     split at hc5
     ·rename_i cs g h; exact ⟨cs,g,h⟩
     ·cases hc5
    have hGr:GrowL M (kilM kill b (M ++ E) ++ N (M ++ E).length ys) (bif kill then [b] else []):=by
     have hA:=Grow.toL (c:=none) (Grow.app (kilM kill b (M ++ E)) (N (M ++ E).length ys) none hNo)
     cases hkl:kill with
     | false => rw [hkl] at hA; exact (Grow.toL h2).tr hA
     | true =>
      rw [hkl] at hA
      obtain ⟨cs0,g0,h0⟩:=hown hkl
      have h0E:(M ++ E)[b]? = some (.own cs0 g0):=by rw [List.getElem?_append_left hblt0]; exact h0
      refine ((Grow.toL h2).tl (GrowL.ch h0E (by simp) (by simp)) fun i hi cs => ?_).tr hA
      simp only [List.mem_singleton] at hi; subst hi
      rw [h0]; simp
    refine ⟨⟨hp,?_⟩,hGr⟩
    intro prot W0 φ w us hM hus
    obtain ⟨q,ucs,hq,hucs,_⟩:=hM.read hr
    obtain ⟨x,hx,hxl,hxc⟩:=conc_nRow hok hucs
    have hcl:=rd_len hr
    have hxb:∀ n ∈ x,0 ≤ n ∧ n ≤ hi:=fun n hn => all_bnd hok hx n hn
    obtain ⟨φ1,b1,b2,b3⟩:=h3 prot W0 w φ x hM hx
    have hrE:=rd_app (E:=E) hr
    obtain ⟨k,hk,hkr⟩:=rd_row hrE
    obtain ⟨cells,hcells⟩:∃ cells,k.cells = some cells:=by cases k <;> simp [Blk.isRow] at hkr <;> exact ⟨_,rfl⟩
    have hwin:o + l ≤ cells.length ∧ (cells.drop o).take l = cs:=by
     unfold rd at hrE
     rw [hk] at hrE
     simp only [Option.bind_some,hcells] at hrE
     split at hrE
     ·rename_i hle; injection hrE with hrE; exact ⟨hle,hrE⟩
     ·cases hrE
    have hxcs:∀ us,concs φ1 cs = some us → concs φ1 (nRow kd x) = some us:=by
     intro us' hu
     have:=concs_mono b1 _ hucs
     rw [this] at hu; injection hu with hu; subst hu
     exact concs_mono b1 _ hxc
    let cs':=cells.take o ++ nRow kd x ++ cells.drop (o + l)
    have hcs'l:cs'.length = cells.length:=by simp [cs',nRow_len,hxl,hcl]; omega
    have hM2:=b2.reset (cs':=cs') hk hcells hcs'l (concs_win (by rw [hwin.2]; exact hxcs))
    have hblt:=(List.getElem?_eq_some_iff.1 hk).1
    have hget:((M ++ E).set b (reB cs' k))[b]? = some (reB cs' k):=List.getElem?_set_self hblt
    have hre:(reB cs' k).cells = some cs':=by cases k <;> simp [Blk.isRow] at hkr <;> rfl
    have hknown:known ((M ++ E).set b (reB cs' k)) b = known (M ++ E) b:=by
     unfold known
     rw [hget,hk]
     cases k with
     | own c g =>
      simp only [Blk.cells,Option.some.injEq] at hcells; subst hcells
      simp only [reB]
      by_cases hg1:g = 1
      ·subst hg1; exact hcs'l
      ·cases g with
       | zero => rfl
       | succ g => cases g with
        | zero => exact absurd rfl hg1
        | succ g => rfl
     | ro c => simp only [Blk.cells,Option.some.injEq] at hcells; subst hcells; exact hcs'l
     | dead => rfl
     | eqn d v => rfl
    have hrx:rd ((M ++ E).set b (reB cs' k)) b o l = some (nRow kd x):=by
     unfold rd
     rw [hget]
     simp only [Option.bind_some,hre]
     rw [if_pos (by rw [hcs'l]; exact hwin.1)]
     congr 1
     have e1:(cells.take o).length = o:=by simp; omega
     show ((cells.take o ++ nRow kd x ++ cells.drop (o + l)).drop o).take l = _
     rw [List.append_assoc,List.drop_left' e1,List.take_left' (by rw [nRow_len,hxl,hcl])]
    have hlx:LimP ((M ++ E).set b (reB cs' k)) b o l lim:=by
     cases lim with
     | some c => show l ≤ c; simpa [limOk] using hc3
     | none =>
      show o + l ≤ known _ b
      rw [hknown,known_app (by
       obtain ⟨k0,hk0,_⟩:=rd_row hr
       exact (List.getElem?_eq_some_iff.1 hk0).1)]
      simpa [limOk] using hc3
    have hownx:kill = true → ∃ cs g,((M ++ E).set b (reB cs' k))[b]? = some (.own cs g):=fun hkl => by
     obtain ⟨cs0,g0,h0⟩:=hown hkl
     have h0E:(M ++ E)[b]? = some (.own cs0 g0):=by rw [List.getElem?_append_left hblt0]; exact h0
     rw [hk] at h0E
     injection h0E with h0E
     subst h0E
     exact ⟨_,_,hget⟩
    refine Calls.mono ((hlit x (by rw [hxl,hcl]) hxb _ b o lim hrx hlx hownx).2 prot W0 φ1 w us hM2 (concs_mono b1 _ hus)) ?_
    intro e w' he
    cases e with
    | panicked c => exact he.elim
    | outgrown => exact he.elim
    | returned u =>
     obtain ⟨φ2,c1,c2,c3⟩:=he
     rw [List.length_set] at c2 c3
     refine ⟨φ2,Pl.le_trans b1 c1,c2,?_⟩
     have hMb:MR G prot W0 φ2 (kilM kill b (M ++ E) ++ N (M ++ E).length (nRow ko (out x))) w':=by
      cases hkl:kill with
      | true =>
       rw [hkl] at c3
       simp only [kilM,cond_true,List.set_set] at c3 ⊢
       exact c3
      | false =>
       rw [hkl] at c3
       simp only [kilM,cond_false] at c3 ⊢
       have hrd0:rd (M ++ E) b 0 cells.length = some cells:=by
        unfold rd
        rw [hk]
        simp only [Option.bind_some,hcells,Nat.zero_add,Nat.le_refl,if_true,List.drop_zero,List.take_length]
       obtain ⟨_,us0,_,hus0,_⟩:=b2.read hrd0
       have hus0':=concs_win (φ:=φ1) (cs:=cells) (ws:=nRow kd x) (o:=o) (n:=l) (by rw [hwin.2]; exact hxcs) us0 hus0
       have hrow:((M ++ E).set b (reB cs' k) ++ N (M ++ E).length (nRow ko (out x)))[b]? = some (reB cs' k):=by
        rw [List.getElem?_append_left (by simpa using hblt)]; exact hget
       have hMb:=c3.reset (cs':=cells) hrow hre hcs'l.symm (fun us1 h1 => by
        have:=concs_mono c1 _ hus0'
        rw [show concs φ2 cs' = some us0 from this] at h1
        injection h1 with h1; subst h1
        exact concs_mono c1 _ hus0)
       have hkk:reB cells (reB cs' k) = k:=by cases k <;> simp [Blk.cells] at hcells <;> subst hcells <;> rfl
       have hmem:((M ++ E).set b (reB cs' k) ++ N (M ++ E).length (nRow ko (out x))).set b (reB cells (reB cs' k)) = M ++ E ++ N (M ++ E).length (nRow ko (out x)):=by
        rw [hkk,List.set_append_left _ _ (by simpa using hblt),List.set_set,List.set_getElem?_self' hk]
       rw [hmem] at hMb
       exact hMb
     have hol:=hout x (by rw [hxl,hcl])
     have hyo:ys.length = (nRow ko (out x)).length:=by rw [hyl,List.length_replicate,nRow_len,hol]
     have hsame:concs φ1 ys = concs φ1 (nRow ko (out x)):=by
      refine concs_nRow (by rw [hyl,List.length_replicate,hol]) fun j m hj => ?_
      have hjn:j < n:=by
       have:=(List.getElem?_eq_some_iff.1 hj).1
       rw [hol] at this; exact this
      obtain ⟨y,d1,d2⟩:=b3 j ko (by rw [List.getElem?_replicate,if_pos hjn])
      rw [Nat.zero_add,hg x j (by rw [hxl,hcl]) hxb hjn] at d2
      refine ⟨y,d1,?_⟩
      rw [d2]; simp [hj]
     have hint:concs φ1 (nRow ko (out x)) = some ((out x).map (Value.int ko)):=nRow_conc _
     have e2:=concs_mono c1 _ (hsame.trans hint)
     have e3:=concs_mono c1 _ hint
     refine hMb.recell (by have:=(hN (M ++ E).length ys _ hyo).1; simp only [List.length_append,kilM_len] at this ⊢; omega) ?_
     intro i k' hi
     by_cases hlt:i < (kilM kill b (M ++ E)).length
     ·rw [List.getElem?_append_left hlt] at hi ⊢
      exact .inl hi
     ·rw [List.getElem?_append_right (by omega)] at hi ⊢
      rcases (hN (M ++ E).length ys _ hyo).2 _ _ hi with ⟨rfl,h5⟩ | ⟨cs1,cs2,g,rfl,h5,h6⟩
      ·exact .inl h5
      ·refine .inr ⟨cs2,cs1,g,h5,rfl,fun us1 h7 => ?_⟩
       rw [h6 φ2 _ e2 e3]; exact h7
   ·cases hh
  ·cases hh
 ·cases hh
end
end
section
open Go.Proofs
noncomputable section
def fillL (z:List Int) (k:Nat):List Int:=z.take k ++ List.replicate (z.length - k) 0
theorem fillL_zero (z:List Int):fillL z 0 = List.replicate z.length 0:=by simp [fillL]
theorem fillL_all (z:List Int):fillL z z.length = z:=by simp [fillL]
theorem fillL_len {z:List Int} {k:Nat} (h:k ≤ z.length):(fillL z k).length = z.length:=by simp [fillL]; omega
theorem fillL_set {z:List Int} {k:Nat} (h:k < z.length):(fillL z k).set k (z[k]'h) = fillL z (k + 1):=by
 unfold fillL
 rw [List.set_append_right _ _ (by simp; omega)]
 have e1:k - (z.take k).length = 0:=by simp; omega
 rw [e1,show z.length - k = (z.length - (k + 1)) + 1 by omega,List.replicate_succ,List.set_cons_zero,List.take_succ_eq_append_getElem h,List.append_assoc]
 rfl
theorem GrowL.wr {M M':Mem} {b o:Nat} {vs:List V} (h:wr M b o vs = some M'):GrowL M M' [b]:=by
 unfold Rel.wr at h
 split at h
 ·rename_i cs gs hb
  split at h
  ·injection h with h; subst h
   exact GrowL.ch hb (by simp) (by simp)
  ·cases h
 ·cases h
theorem u8s'_set {l:List Int} {i:Nat} {v:Int}:(u8s' l).set i (.int .u8 v) = u8s' (l.set i v):=by simp [u8s',List.map_set]
def xor8 (a b:Int):Int:=((a.toNat ^^^ b.toNat:Nat):Int)
theorem xor8_in {a b:Int} (ha:a ≤ 255) (hb:b ≤ 255):0 ≤ xor8 a b ∧ xor8 a b ≤ 255:=by
 have:=Nat.xor_lt_two_pow (x:=a.toNat) (y:=b.toNat) (n:=8) (by omega) (by omega)
 unfold xor8; omega
theorem xor8_back {a b:Int} (ha:0 ≤ a):xor8 (xor8 a b) b = a:=by
 unfold xor8
 rw [Int.toNat_natCast,Nat.xor_assoc,Nat.xor_self,Nat.xor_zero]; omega
def xorL (x y:List Int):List Int:=List.zipWith xor8 x y
theorem xorL_len {x y:List Int} (h:x.length = y.length):(xorL x y).length = x.length:=by simp [xorL,h]
theorem xorL_in {x y:List Int} (hx:Bytes x) (hy:Bytes y):Bytes (xorL x y):=by
 intro n hn
 obtain ⟨i,hi,rfl⟩:=List.getElem_of_mem hn
 simp only [xorL,List.getElem_zipWith]
 simp only [xorL,List.length_zipWith] at hi
 exact xor8_in (hx _ (List.getElem_mem (by omega))).2 (hy _ (List.getElem_mem (by omega))).2
theorem xorL_back:∀ {x y:List Int},x.length = y.length → Bytes x → xorL (xorL x y) y = x
 | [],[],_,_ => rfl
 | a :: x,b :: y,h,hx => by
  have ih:=xorL_back (x:=x) (y:=y) (by simpa using h) fun n hn => hx n (by simp [hn])
  have ha:=hx a (by simp)
  simp only [xorL,List.zipWith_cons_cons] at ih ⊢
  rw [xor8_back ha.1,ih]
theorem b_xor8 {d:Option Ty} {M:Mem} {a b:Int} (ha:0 ≤ a ∧ a ≤ 255) (hb:0 ≤ b ∧ b ≤ 255):abin noX d M .xor (.int .u8 a) (.int .u8 b) = some (.int .u8 (xor8 a b),none):=by
 obtain ⟨x,rfl⟩:=Int.eq_ofNat_of_zero_le ha.1
 obtain ⟨y,rfl⟩:=Int.eq_ofNat_of_zero_le hb.1
 have:=(nat_bits .u8 x y (by simp only [kmax]; omega) (by simp only [kmax]; omega)).2.2
 simp [abin,bInt,bLit,eint_eq,aint,this,xor8]
section
variable {G:GF} {Q:AExit → St → Prop} {b o c p n:Nat} {lim lim2:Option Nat} {M:Mem} {x y:List Int}
def xoLp:Code:=cAt [1,1,1,0,1,0,0] (fnOf Tryz.f64).body
def xoC (M:Mem) (b o c p n:Nat) (lim lim2:Option Nat) (k:Nat):List (Nat × V):=[(0,.sl b o n lim),(1,.sl c p n lim2),(6,.sl M.length 0 n (some n)),(17,.int .i64 n),(18,.int .i64 k)]
theorem xo_loop (hG:GOK G) (hx:x.length = n) (hy:y.length = n) (hbx:Bytes x) (hby:Bytes y) (hr:rd M b o n = some (u8s' x)) (hr2:rd M c p n = some (u8s' y)) (hn:n ≤ 1000000)
  (hQ:∀ l2,subL 35 l2 (xoC M b o c p n lim lim2 n) → Q (.exit 0) (mkSt 35 l2 (M ++ [.own (u8s' (xorL x y)) 0]))):∀ (j k:Nat) (l:List (Nat × V)),k + j = n → subL 35 l (xoC M b o c p n lim lim2 k) → LX G xoLp (mkSt 35 l (M ++ [.own (u8s' (fillL (xorL x y) k)) 0])) Q
 | 0,k,l,hk,hl => by
  have hk:k = n:=by omega
  subst hk
  refine LX.step (AWX.ff _ hl ?_)
  refine AWX.seq (AWX.region (AOX.q hG rfl (st_bin rfl rfl (b_lssF (by omega))) rfl (AOX.nil ?_)))
  refine AWX.seq (AWX.cf rfl (AWX.exit ?_))
  have hz:(xorL x y).length = k:=by rw [xorL_len (by omega),hx]
  have e:fillL (xorL x y) k = xorL x y:=by rw [← hz]; exact fillL_all _
  rw [e]
  exact hQ _ ⟨rfl,rfl,rfl,rfl,rfl,trivial⟩
 | j + 1,k,l,hk,hl => by
  have hkx:k < x.length:=by omega
  have hky:k < y.length:=by omega
  have hz:(xorL x y).length = n:=by rw [xorL_len (by omega),hx]
  have hxk:=hbx _ (List.getElem_mem hkx)
  have hyk:=hby _ (List.getElem_mem hky)
  refine LX.step (AWX.ff _ hl ?_)
  refine AWX.seq (AWX.region (AOX.q hG rfl (st_bin rfl rfl (b_lssT (by omega))) rfl (AOX.nil ?_)))
  refine AWX.seq (AWX.ct rfl (AWX.skip ?_))
  refine AWX.seq (AWX.block (AWX.seq (AWX.region (AOX.q hG rfl (st_mv rfl) rfl (AOX.q hG rfl (st_as rfl) rfl (AOX.nil (AWX.draw ?_)))))))
  refine QG2.b (bad:=[22,23,24,25,26,27,28,29,30,31]) hG (by kernel_rfl) rfl (st_mv rfl) rfl ?_
  refine QG2.b (bad:=[21,23,24,25,26,27,28,29,30,31]) hG (by kernel_rfl) rfl (st_mv rfl) rfl ?_
  refine QG2.b (bad:=[21,22,24,27,28,29,30]) hG (by kernel_rfl) rfl (st_mv rfl) rfl ?_
  refine QG2.b (bad:=[21,22,23,27,28,29,30]) hG (by kernel_rfl) rfl (st_mv rfl) rfl ?_
  refine QG2.b (bad:=[21,22,27,28,29,30]) hG (by kernel_rfl) rfl (st_ix sl22 rfl rfl (show k < n by omega)) rfl ?_
  refine QG2.q (v:=.int .u8 x[k]) (bad:=[21,22,27,28,29,30]) hG (by kernel_rfl) rfl rfl (st_ld one5 rfl (rd_one (rd_app hr) (by simp [u8s',hkx]))) rfl ?_
  refine QG2.b (bad:=[21,22,23,24,25,26,28]) hG (by kernel_rfl) rfl (st_mv rfl) rfl ?_
  refine QG2.b (bad:=[21,22,23,24,25,26,27]) hG (by kernel_rfl) rfl (st_mv rfl) rfl ?_
  refine QG2.b (bad:=[21,22,23,24,25,26]) hG (by kernel_rfl) rfl (st_ix sl22 rfl rfl (show k < n by omega)) rfl ?_
  refine QG2.q (v:=.int .u8 y[k]) (bad:=[21,22,23,24,25,26]) hG (by kernel_rfl) rfl rfl (st_ld one5 rfl (rd_one (rd_app hr2) (by simp [u8s',hky]))) rfl ?_
  refine QG2.b (bad:=[21,22]) hG (by kernel_rfl) rfl (st_bin rfl rfl (b_xor8 hxk hyk)) rfl ?_
  refine QG2.b (bad:=[]) hG (by kernel_rfl) rfl (st_ix sl22 rfl rfl (show k < n by omega)) rfl ?_
  have hw:wr (M ++ [.own (u8s' (fillL (xorL x y) k)) 0]) M.length (0 + k) [.int .u8 (xor8 x[k] y[k])] = some (M ++ [.own (u8s' (fillL (xorL x y) (k + 1))) 0]):=by
   rw [Nat.zero_add,wr_last (by rw [u8s'_len,fillL_len (by omega)]; omega) rfl,u8s'_set,← fillL_set (by omega)]
   simp only [xorL,List.getElem_zipWith]
  refine QG2.st (T:=[M.length]) hG (bad:=[]) (by kernel_rfl) rfl (.inr (all_lt (by kernel_rfl))) rfl (st_st one5 rfl rfl rfl hw) (GrowL.wr hw) (QG2.done (by kernel_rfl) rfl ?_)
  refine AWX.region (AOX.q hG rfl (st_bin rfl rfl (b_add (n:=1) (r:=k + 1) rfl (by omega))) rfl (AOX.q hG rfl (st_mv rfl) rfl (AOX.nil ?_)))
  exact xo_loop hG hx hy hbx hby hr hr2 hn hQ j (k + 1) _ (by omega) ⟨rfl,rfl,rfl,rfl,rfl,trivial⟩
theorem xor_call (hG:GOK G) (hx:x.length = n) (hy:y.length = n) (hbx:Bytes x) (hby:Bytes y) (hr:rd M b o n = some (u8s' x)) (hr2:rd M c p n = some (u8s' y)) (hn:n ≤ 1000000) :
  ACall Tryz.prog G 64 [.sl b o n lim,.sl c p n lim2] M (.tup [.sl M.length 0 n (some n),.bool true]) (M ++ [.own (u8s' (xorL x y)) 0]):=by
 refine acall_mk (n:=35) (fv:=fnOf Tryz.f64) rfl rfl (by simp) (by decide) ?_
 refine AWX.seq (AWX.region (AOX.q hG rfl (st_as rfl) rfl (AOX.q hG rfl (st_as rfl) rfl (AOX.nil ?_))))
 refine AWX.seq (AWX.seq (AWX.region (AOX.q hG rfl (st_mv rfl) rfl (AOX.q hG rfl (st_len sl22 rfl) rfl (AOX.q hG rfl (st_mv rfl) rfl (AOX.q hG rfl (st_len sl22 rfl) rfl (AOX.q hG rfl (st_bin rfl rfl (b_neqF rfl)) rfl (AOX.nil ?_))))))))
 refine AWX.cf rfl (AWX.skip ?_)
 refine AWX.seq (AWX.region (AOX.q hG rfl (st_mv rfl) rfl (AOX.q hG rfl (st_len sl22 rfl) rfl (AOX.qv hG rfl (st_mk el22 (by omega) rfl rfl (Nat.le_refl n) hn) rfl (AOX.q hG rfl (st_as rfl) rfl (AOX.nil ?_))))))
 refine AWX.seq (AWX.seq (AWX.region (AOX.q hG rfl (st_mv rfl) rfl (AOX.q hG rfl (st_len sl22 rfl) rfl (AOX.q hG rfl (st_mv rfl) rfl (AOX.nil ?_))))))
 have hz:(xorL x y).length = n:=by rw [xorL_len (by omega),hx]
 have e:List.replicate n (V.int .u8 0) = u8s' (fillL (xorL x y) 0):=by rw [fillL_zero,hz]; simp [u8s']
 rw [e]
 refine AWX.block (AWX.loop (xo_loop (lim:=lim) (lim2:=lim2) hG hx hy hbx hby hr hr2 hn (fun l hl => ?_) n 0 _ (by omega) ⟨rfl,rfl,rfl,rfl,rfl,trivial⟩))
 refine AWX.seq (AWX.ff _ hl (AWX.region (AOX.q hG rfl (st_mv rfl) rfl (AOX.q hG rfl (st_as rfl) rfl (AOX.q hG rfl (st_as rfl) rfl (AOX.nil ?_))))))
 exact AWX.fin rfl rfl
end
end
end
section
open Go.Proofs
noncomputable section
theorem el117:ElT 117 (.int .u32 0) 4:=⟨_,_,rfl,rfl,rfl⟩
theorem b_w32 {d:Option Ty} {M:Mem} {a b:Int}:abin noX d M .add (.int .u32 a) (.int .u32 b) = some (.int .u32 (kwrap .u32 (a + b)),none):=by
 simp [abin,bInt,bLit,eint]
theorem b_rem {d:Option Ty} {M:Mem} {k:IntKind} {a n:Nat} (hn:0 < n):abin noX d M .rem (.int k a) (.int k n) = some (.int k ((a % n:Nat):Int),none):=by
 have e:(a:Int).tmod n = ((a % n:Nat):Int):=rfl
 have h:¬ ((n:Int) = 0):=by omega
 simp [abin,bInt,bLit,eint_eq,aint,e]; omega
theorem w32_in (n:Int):0 ≤ kwrap .u32 n ∧ kwrap .u32 n ≤ 4294967295:=by rw [kwrap_eq]; exact wrap_in .u32 n
def eul:Nat → Int
 | 0 => 3084996963
 | j + 1 => kwrap .u32 (eul j + 2654435769)
theorem eul_in:∀ j,0 ≤ eul j ∧ eul j ≤ 4294967295
 | 0 => by decide
 | j + 1 => w32_in _
def eulL (n:Nat):List Int:=(List.range n).map eul
structure GwT where
 S:List Int
 L:List Int
 a:Int
 b:Int
def at0 (l:List Int) (i:Nat):Int:=(l[i]?).getD 0
def gwA (t:GwT) (n:Nat):Int:=rolF [kwrap .u32 (kwrap .u32 (at0 t.S (n % 26) + t.a) + t.b),3]
def gwK (t:GwT) (n:Nat):Nat:=(kwrap .u32 (gwA t n + t.b)).toNat % 32
def gwB (t:GwT) (n:Nat):Int:=rolF [kwrap .u32 (kwrap .u32 (at0 t.L (n % 4) + gwA t n) + t.b),gwK t n]
def gwStep (t:GwT) (n:Nat):GwT:=⟨t.S.set (n % 26) (gwA t n),t.L.set (n % 4) (gwB t n),gwA t n,gwB t n⟩
def gwRun:Nat → Nat → GwT → GwT
 | 0,_,t => t
 | k + 1,n,t => gwRun k (n + 1) (gwStep t n)
def growL (x:List Int):List Int:=(gwRun 78 0 ⟨eulL 26,x,0,0⟩).S
def W32 (l:List Int):Prop:=∀ n ∈ l,0 ≤ n ∧ n ≤ 4294967295
theorem rolF_in {v n:Int} (h0:0 ≤ v) (h1:v ≤ 4294967295):0 ≤ rolF [v,n] ∧ rolF [v,n] ≤ 4294967295:=by
 have:=rol_lt (v:=v.toNat) (k:=rolK n) (by omega) (by unfold rolK; omega)
 simp only [rolF]; omega
theorem gwA_in (t:GwT) (n:Nat):0 ≤ gwA t n ∧ gwA t n ≤ 4294967295:=rolF_in (w32_in _).1 (w32_in _).2
theorem gwB_in (t:GwT) (n:Nat):0 ≤ gwB t n ∧ gwB t n ≤ 4294967295:=rolF_in (w32_in _).1 (w32_in _).2
theorem gwStep_ok {t:GwT} {n:Nat} (h1:t.S.length = 26) (h2:t.L.length = 4) (h3:W32 t.S) (h4:W32 t.L):(gwStep t n).S.length = 26 ∧ (gwStep t n).L.length = 4 ∧ W32 (gwStep t n).S ∧ W32 (gwStep t n).L:=by
 refine ⟨by simp [gwStep,h1],by simp [gwStep,h2],fun m hm => ?_,fun m hm => ?_⟩
 ·rcases List.mem_or_eq_of_mem_set hm with h | rfl
  ·exact h3 m h
  ·exact gwA_in t n
 ·rcases List.mem_or_eq_of_mem_set hm with h | rfl
  ·exact h4 m h
  ·exact gwB_in t n
theorem gwRun_ok:∀ (k n:Nat) (t:GwT),t.S.length = 26 → t.L.length = 4 → W32 t.S → W32 t.L → (gwRun k n t).S.length = 26 ∧ W32 (gwRun k n t).S
 | 0,_,_,h1,_,h3,_ => ⟨h1,h3⟩
 | k + 1,n,_,h1,h2,h3,h4 => by
  obtain ⟨a1,a2,a3,a4⟩:=gwStep_ok (n:=n) h1 h2 h3 h4
  exact gwRun_ok k (n + 1) _ a1 a2 a3 a4
theorem eulL_len (n:Nat):(eulL n).length = n:=by simp [eulL]
theorem eulL_in (n:Nat):W32 (eulL n):=by
 intro m hm
 simp only [eulL,List.mem_map] at hm
 obtain ⟨j,_,rfl⟩:=hm
 exact eul_in j
theorem growL_ok {x:List Int} (hx:x.length = 4) (hb:W32 x):(growL x).length = 26 ∧ W32 (growL x):=gwRun_ok 78 0 _ (eulL_len 26) hx (eulL_in 26) hb
theorem wr_win {M:Mem} {b o n i:Nat} {k:IntKind} {l:List Int} {cs:List V} {g:Nat} {v:Int} (hb:M[b]? = some (.own cs g)) (hr:rd M b o n = some (nRow k l)) (hi:i < n):∃ cs',wr M b (o + i) [.int k v] = some (M.set b (.own cs' g)) ∧ cs'.length = cs.length ∧ rd (M.set b (.own cs' g)) b o n = some (nRow k (l.set i v)):=by
 have hw:o + n ≤ cs.length ∧ (cs.drop o).take n = nRow k l:=by
  unfold rd at hr
  rw [hb] at hr
  simp only [Option.bind_some,Blk.cells] at hr
  split at hr
  ·rename_i h; injection hr with hr; exact ⟨h,hr⟩
  ·cases hr
 refine ⟨_,wr_own hb (by omega) rfl,by simp,?_⟩
 rw [rd_own (set_get hb) (by simpa using hw.1)]
 congr 1
 rw [show (cs.set (o + i) (V.int k v)).drop o = (cs.drop o).set i (V.int k v) by rw [List.drop_set,if_neg (by omega),Nat.add_sub_cancel_left],List.take_set,hw.2]
 simp [nRow,List.map_set]
section
variable {G:GF} {Q:AExit → St → Prop} {b o:Nat} {lim:Option Nat} {M M1:Mem}
def gwC:Code:=cAt [1,0] (fnOf Tryz.f95).body
def gwLp:Code:=cAt [1,0,0,0] gwC
def gwRest:Code:=(findLabel gwC 0).getD .skip
def gwCan (b o:Nat) (lim:Option Nat) (s:V):List (Nat × V):=[(0,.sl b o 4 lim),(3,s)]
structure GwI (M M1:Mem) (k:Nat) (s:V):Prop where
 gr:GrowL M M1 []
 len:M1.length = M.length + (2 * k + 1)
 s:(k = 0 ∧ s = .sl M.length 0 1 (some 1) ∧ M1[M.length]? = some (.own (nRow .u32 (eulL 1)) 0)) ∨ (0 < k ∧ s = .sl (M.length + 2 * k) 0 (k + 1) none ∧ M1[M.length + 2 * k]? = some (.own (nRow .u32 (eulL (k + 1))) 1))
theorem eulL_succ (n:Nat):eulL (n + 1) = eulL n ++ [eul n]:=by simp [eulL,List.range_succ]
theorem GwI.rd {k:Nat} {s:V} (h:GwI M M1 k s):∃ c lm,s = .sl c 0 (k + 1) lm ∧ rd M1 c 0 (k + 1) = some (nRow .u32 (eulL (k + 1))):=by
 rcases h.s with ⟨rfl,rfl,h'⟩ | ⟨_,rfl,h'⟩
 ·exact ⟨_,_,rfl,rd_own0 h' (by simp [nRow_len,eulL_len])⟩
 ·exact ⟨_,_,rfl,rd_own0 h' (by simp [nRow_len,eulL_len])⟩
theorem GwI.app {k:Nat} {s:V} (h:GwI M M1 k s) (hk:k < 25):∃ s' M2,appendV (M1 ++ [.own [.int .u32 (eul (k + 1))] 0]) (.int .u32 0,4) s [.int .u32 (eul (k + 1))] = some (.val s' M2) ∧ GwI M M2 (k + 1) s':=by
 have hM1:GrowL M (M1 ++ [.own [.int .u32 (eul (k + 1))] 0]) []:=h.gr.tr (GrowL.one _ _ _)
 have hlen:=h.len
 have hrow:nRow .u32 (eulL (k + 1)) ++ [V.int .u32 (eul (k + 1))] = nRow .u32 (eulL (k + 1 + 1)):=by rw [eulL_succ (k + 1)]; simp [nRow]
 rcases h.s with ⟨rfl,rfl,hs⟩ | ⟨h0,rfl,hs⟩
 ·have hs':=(GrowL.one M1 [.int .u32 (eul 1)] 0).g0 hs
  refine ⟨_,_,ap_out (by simp) (rd_own0 hs' rfl) (by simp) (by simp) (by decide),hM1.tr (GrowL.one _ _ _),by simp [hlen],.inr ⟨by omega,by simp [hlen],?_⟩⟩
  rw [hrow]
  have:M.length + 2 * (0 + 1) = (M1 ++ [Blk.own [.int .u32 (eul (0 + 1))] 0]).length:=by simp [hlen]
  rw [this]; exact app_last
 ·have hs':=(GrowL.one M1 [.int .u32 (eul (k + 1))] 0).g0 hs
  have hl:=eulL_len (k + 1)
  refine ⟨_,_,ap_go' (n':=k + 1 + 1) (cs':=nRow .u32 (eulL (k + 1 + 1))) hs' (by simp) rfl (by omega) (by decide) (by simp [nRow_len,hl]) rfl ?_,(hM1.st (by omega) hs' (by simp)).tr (GrowL.one _ _ _),by simp [hlen]; omega,.inr ⟨by omega,by simp [hlen]; omega,?_⟩⟩
  ·rw [List.drop_zero,List.take_of_length_le (by simp [nRow_len,hl]),hrow]
  ·have:M.length + 2 * (k + 1) = ((M1 ++ [Blk.own [.int .u32 (eul (k + 1))] 0]).set (M.length + 2 * k) .dead).length:=by simp [hlen]; omega
   rw [this]; exact app_last
theorem gw_one (hG:GOK G) {k:Nat} {s:V} {l:List (Nat × V)} (hk:k < 25) (h:GwI M M1 k s) (hl:subL 65 l (gwCan b o lim s))
  (hQ:∀ l2 M2 s2,GwI M M2 (k + 1) s2 → subL 65 l2 (gwCan b o lim s2) → LX G gwLp (mkSt 65 l2 M2) Q):LX G gwLp (mkSt 65 l M1) Q:=by
 obtain ⟨c,lm,rfl,hr⟩:=h.rd
 obtain ⟨s',M2,ha,h2⟩:=h.app hk
 refine LX.step (AWX.ff _ hl ?_)
 refine AWX.seq (AWX.seq (AWX.region (AOX.q hG rfl (st_mv rfl) rfl (AOX.q hG rfl (st_len sl117 rfl) rfl (AOX.q hG rfl (st_bin rfl rfl (b_lssT (by omega))) rfl (AOX.nil ?_))))))
 refine AWX.ct rfl (AWX.skip ?_)
 refine AWX.block (AWX.region (AOX.q hG rfl (st_mv rfl) rfl (AOX.q hG rfl (st_mv rfl) rfl (AOX.q hG rfl (st_mv rfl) rfl (AOX.q hG rfl (st_len sl117 rfl) rfl
  (AOX.q hG rfl (st_bin rfl rfl (b_sub (m:=k + 1) (n:=1) (r:=k) rfl (by omega))) rfl (AOX.q hG rfl (st_ix sl117 rfl rfl (show k < k + 1 by omega)) rfl
  (AOX.q (v:=.int .u32 (eul k)) hG rfl (st_ld one122 rfl (rd_one hr (by simp [nRow,eulL]))) rfl
  (AOX.q (v:=.int .u32 (eul (k + 1))) hG rfl (st_bin rfl rfl b_w32) rfl
  (AOX.qv hG rfl (st_bs1 el117 rfl rfl) rfl
  (AOX.qv hG rfl (st_ap el117 rfl rfl (rd_own0 app_last rfl) ha) rfl (AOX.q hG rfl (st_as rfl) rfl (AOX.nil ?_)))))))))))))
 exact hQ _ _ _ h2 ⟨rfl,rfl,trivial⟩
theorem gw_loop (hG:GOK G) (hQ:∀ l2 M2 s2,GwI M M2 25 s2 → subL 65 l2 (gwCan b o lim s2) → Q (.exit 0) (mkSt 65 l2 M2)):∀ (n k:Nat) (l:List (Nat × V)) (M1:Mem) (s:V),k + n = 25 → GwI M M1 k s → subL 65 l (gwCan b o lim s) → LX G gwLp (mkSt 65 l M1) Q
 | 0,k,l,M1,s,hn,h,hl => by
  have:k = 25:=by omega
  subst this
  obtain ⟨c,lm,rfl,hr⟩:=h.rd
  refine LX.step (AWX.ff _ hl ?_)
  refine AWX.seq (AWX.seq (AWX.region (AOX.q hG rfl (st_mv rfl) rfl (AOX.q hG rfl (st_len sl117 rfl) rfl (AOX.q hG rfl (st_bin rfl rfl (b_lssF (by omega))) rfl (AOX.nil ?_))))))
  exact AWX.cf rfl (AWX.exit (hQ _ _ _ h ⟨rfl,rfl,trivial⟩))
 | n + 1,k,l,M1,s,hn,h,hl => gw_one hG (by omega) h hl fun l2 M2 s2 h2 hl2 => gw_loop hG hQ n (k + 1) l2 M2 s2 (by omega) h2 hl2
theorem cv_u32 {n:Nat} (hn:n ≤ 1000000000):convV noX tyF 122 3 M (.int .u32 n) = some (.int .i64 n,none):=by
 show some (V.int .i64 (kwrap .i64 n),none) = _
 rw [kw64 (by omega) (by omega)]
theorem jx_goto {c rest:Code} {l:Nat} {s:St} (h:findLabel c l = some rest) (hj:JX G c rest s Q):jx G c Q (.goto l) s:=by
 simp only [jx,h]; exact hj
structure GwJ (M M1:Mem) (b o:Nat) (lim:Option Nat) (t:GwT):Prop where
 gr:GrowL M M1 [b]
 len:M1.length = M.length + 51
 s:M1[M.length + 50]? = some (.own (nRow .u32 t.S) 1)
 l:rd M1 b o 4 = some (nRow .u32 t.L)
 o:∃ cs g,M1[b]? = some (.own cs g)
 b:b < M.length
 sl:t.S.length = 26
 ll:t.L.length = 4
def gwCan2 (b o:Nat) (lim:Option Nat) (c:Nat) (t:GwT) (n:Nat):List (Nat × V):=[(0,.sl b o 4 lim),(3,.sl c 0 26 none),(4,.int .u32 t.a),(5,.int .u32 t.b),(6,.int .i64 n)]
theorem at0_get {l:List Int} {i:Nat} (h:i < l.length):l[i]? = some (at0 l i):=by unfold at0; rw [List.getElem?_eq_getElem h]; rfl
theorem GwJ.store {t:GwT} {n:Nat} (h:GwJ M M1 b o lim t):∃ M2 M3,wr M1 (M.length + 50) (0 + n % 26) [.int .u32 (gwA t n)] = some M2 ∧ rd M2 b o 4 = some (nRow .u32 t.L) ∧ wr M2 b (o + n % 4) [.int .u32 (gwB t n)] = some M3 ∧ GwJ M M3 b o lim (gwStep t n):=by
 obtain ⟨cs,g,ho⟩:=h.o
 have hb:=h.b
 have hw1:wr M1 (M.length + 50) (0 + n % 26) [.int .u32 (gwA t n)] = some (M1.set (M.length + 50) (.own (nRow .u32 (t.S.set (n % 26) (gwA t n))) 1)):=by
  rw [Nat.zero_add,wr_own h.s (by rw [nRow_len,h.sl]; omega) rfl]
  simp [nRow,List.map_set]
 have ho2:(M1.set (M.length + 50) (.own (nRow .u32 (t.S.set (n % 26) (gwA t n))) 1))[b]? = some (.own cs g):=by rw [set_ne (by omega)]; exact ho
 have hl2:rd (M1.set (M.length + 50) (.own (nRow .u32 (t.S.set (n % 26) (gwA t n))) 1)) b o 4 = some (nRow .u32 t.L):=by
  have:=h.l
  unfold rd at this ⊢
  rw [set_ne (by omega)]; exact this
 have hs2:=set_get (k:=.own (nRow .u32 (t.S.set (n % 26) (gwA t n))) 1) h.s
 have hg2:=h.gr.st (b:=M.length + 50) (by omega) h.s (k:=.own (nRow .u32 (t.S.set (n % 26) (gwA t n))) 1) (by simp)
 have hlen2:(M1.set (M.length + 50) (.own (nRow .u32 (t.S.set (n % 26) (gwA t n))) 1)).length = M.length + 51:=by rw [List.length_set]; exact h.len
 generalize M1.set (M.length + 50) (.own (nRow .u32 (t.S.set (n % 26) (gwA t n))) 1) = M2 at *
 obtain ⟨cs',hw3,_,hr3⟩:=wr_win (i:=n % 4) (v:=gwB t n) ho2 hl2 (by omega)
 refine ⟨M2,_,hw1,hl2,hw3,?_,by rw [List.length_set]; exact hlen2,by rw [set_ne (by omega)]; exact hs2,hr3,⟨cs',g,set_get ho2⟩,hb,by simp [gwStep,h.sl],by simp [gwStep,h.ll]⟩
 refine ⟨by rw [List.length_set]; exact hg2.le,fun i hi hne => ?_,fun i cs hi => ?_,fun i cs hi => ?_,hg2.own⟩
 ·by_cases e:b = i
  ·simp [e]
  ·rw [set_ne e] at hne; exact hg2.same i hi hne
 ·by_cases e:b = i
  ·subst e; rw [set_get ho2] at hi; cases hi
  ·rw [set_ne e] at hi; exact hg2.ro i cs hi
 ·have hk:=hg2.keep i cs hi
  by_cases e:b = i
  ·subst e; rw [ho2] at hk; cases hk
  ·rw [set_ne e]; exact hk
theorem gw_step (hG:GOK G) {t:GwT} {n:Nat} {l:List (Nat × V)} (hn:n < 78) (h:GwJ M M1 b o lim t) (hl:subL 65 l (gwCan2 b o lim (M.length + 50) t n))
  (hQ:∀ l2 M2,GwJ M M2 b o lim (gwStep t n) → subL 65 l2 (gwCan2 b o lim (M.length + 50) (gwStep t n) (n + 1)) → if n + 1 < 78 then AWX G (cAt [1] gwRest) (mkSt 65 l2 M2) (jx G gwC Q) else AWX G (cAt [1,1,1,1,1,1,1] gwRest) (mkSt 65 l2 M2) (jx G gwC Q)):AWX G (cAt [1] gwRest) (mkSt 65 l M1) (jx G gwC Q):=by
 obtain ⟨M2,M3,hw2,hl2,hw3,h3⟩:=h.store (n:=n)
 have hxa:=at0_get (l:=t.S) (i:=n % 26) (by rw [h.sl]; omega)
 have hxl:=at0_get (l:=t.L) (i:=n % 4) (by rw [h.ll]; omega)
 have hk:(((kwrap .u32 (gwA t n + t.b)).toNat:Nat):Int) = kwrap .u32 (gwA t n + t.b):=by have:=w32_in (gwA t n + t.b); omega
 have hk2:(kwrap .u32 (gwA t n + t.b)).toNat ≤ 4294967295:=by have:=w32_in (gwA t n + t.b); omega
 refine AWX.ff _ hl ?_
 refine AWX.seq (AWX.draw ?_)
 refine QG2.b (bad:=[25,26,27,28]) hG (by kernel_rfl) rfl (st_mv rfl) rfl ?_
 refine QG2.b (bad:=[25,26,27,28]) hG (by kernel_rfl) rfl (st_bin rfl rfl (b_rem (n:=26) (by omega))) rfl ?_
 refine QG2.b (bad:=[23,24,26,27,7]) hG (by kernel_rfl) rfl (st_mv rfl) rfl ?_
 refine QG2.b (bad:=[23,24,25,7]) hG (by kernel_rfl) rfl (st_mv rfl) rfl ?_
 refine QG2.b (bad:=[23,24,25,7]) hG (by kernel_rfl) rfl (st_len sl117 rfl) rfl ?_
 refine QG2.b (bad:=[23,24,7]) hG (by kernel_rfl) rfl (st_bin rfl rfl (b_rem (n:=4) (by omega))) rfl ?_
 refine QG2.b (bad:=[25,26,27,28]) hG (by kernel_rfl) rfl (st_as rfl) rfl ?_
 refine QG2.b (bad:=[]) hG (by kernel_rfl) rfl (st_as rfl) rfl (QG2.done (by kernel_rfl) rfl ?_)
 refine AWX.seq (AWX.region (AOX.q hG rfl (st_mv rfl) rfl (AOX.q hG rfl (st_mv rfl) rfl (AOX.q hG rfl (st_ix sl117 rfl rfl (show n % 26 < 26 by omega)) rfl
  (AOX.q (v:=.int .u32 (at0 t.S (n % 26))) hG rfl (st_ld one122 rfl (rd_one (rd_own0 h.s (by rw [nRow_len,h.sl])) (by simp [nRow,hxa]))) rfl
  (AOX.q hG rfl (st_mv rfl) rfl (AOX.q hG rfl (st_bin rfl rfl b_w32) rfl (AOX.q hG rfl (st_mv rfl) rfl (AOX.q hG rfl (st_bin rfl rfl b_w32) rfl
  (AOX.qc (v:=.int .u32 (gwA t n)) hG rfl (st_call rfl rfl) (rol_call hG [kwrap .u32 (kwrap .u32 (at0 t.S (n % 26) + t.a) + t.b),3] _ ⟨(w32_in _).1,(w32_in _).2,by decide,by decide,trivial⟩) rfl
  (AOX.q hG rfl (st_as rfl) rfl (AOX.nil ?_))))))))))))
 refine AWX.seq (AWX.region (AOX.q hG rfl (st_mv rfl) rfl (AOX.q hG rfl (st_mv rfl) rfl (AOX.q hG rfl (st_mv rfl) rfl (AOX.q hG rfl (st_ix sl117 rfl rfl (show n % 26 < 26 by omega)) rfl
  (AOX.qs hG rfl (st_st one122 rfl rfl rfl hw2) (AOX.nil ?_)))))))
 refine AWX.seq (AWX.region (AOX.q hG rfl (st_mv rfl) rfl (AOX.q hG rfl (st_mv rfl) rfl (AOX.q hG rfl (st_ix sl117 rfl rfl (show n % 4 < 4 by omega)) rfl
  (AOX.q (v:=.int .u32 (at0 t.L (n % 4))) hG rfl (st_ld one122 rfl (rd_one hl2 (by simp [nRow,hxl]))) rfl
  (AOX.q hG rfl (st_mv rfl) rfl (AOX.q hG rfl (st_bin rfl rfl b_w32) rfl (AOX.q hG rfl (st_mv rfl) rfl (AOX.q hG rfl (st_bin rfl rfl b_w32) rfl
  (AOX.q hG rfl (st_mv rfl) rfl (AOX.q hG rfl (st_mv rfl) rfl (AOX.q (v:=.int .u32 ((kwrap .u32 (gwA t n + t.b)).toNat:Nat)) hG rfl (by rw [hk]; exact st_bin rfl rfl b_w32) rfl
  (AOX.q hG rfl (st_bin rfl rfl (b_rem (n:=32) (by omega))) rfl (AOX.q hG rfl (st_cv rfl (cv_u32 (by omega))) rfl
  (AOX.qc (v:=.int .u32 (gwB t n)) hG rfl (st_call rfl rfl) (rol_call hG [kwrap .u32 (kwrap .u32 (at0 t.L (n % 4) + gwA t n) + t.b),gwK t n] _ ⟨(w32_in _).1,(w32_in _).2,by simp only [gwK]; omega,by simp only [gwK]; omega,trivial⟩) rfl
  (AOX.q hG rfl (st_as rfl) rfl (AOX.nil ?_)))))))))))))))))
 refine AWX.seq (AWX.region (AOX.q hG rfl (st_mv rfl) rfl (AOX.q hG rfl (st_mv rfl) rfl (AOX.q hG rfl (st_mv rfl) rfl (AOX.q hG rfl (st_ix sl117 rfl rfl (show n % 4 < 4 by omega)) rfl
  (AOX.qs hG rfl (st_st one122 rfl rfl rfl hw3) (AOX.nil ?_)))))))
 refine AWX.seq (AWX.seq (AWX.region (AOX.q hG rfl (st_mv rfl) rfl (AOX.q hG rfl (st_bin rfl rfl (b_add (n:=1) (r:=n + 1) rfl (by omega))) rfl (AOX.q hG rfl (st_as rfl) rfl (AOX.nil ?_))))))
 by_cases h78:n + 1 < 78
 ·refine AWX.seq (AWX.region (AOX.q hG rfl (st_mv rfl) rfl (AOX.q hG rfl (st_bin rfl rfl (b_lssT (by omega))) rfl (AOX.nil (AWX.ct rfl (AWX.goto ?_))))))
  show jx G gwC Q (.goto 0) _
  refine jx_goto (rest:=gwRest) rfl (JX.step (AWX.seq (AWX.skip ?_)))
  have:=fun l2 hl2 => hQ l2 M3 h3 hl2
  simp only [if_pos h78] at this
  exact this _ ⟨rfl,rfl,rfl,rfl,rfl,trivial⟩
 ·have:=hQ (gwCan2 b o lim (M.length + 50) (gwStep t n) (n + 1)) M3 h3 ⟨rfl,rfl,rfl,rfl,rfl,trivial⟩
  rw [if_neg h78] at this
  refine AWX.seq (AWX.region (AOX.q hG rfl (st_mv rfl) rfl (AOX.q hG rfl (st_bin rfl rfl (b_lssF (by omega))) rfl (AOX.nil (AWX.cf rfl (AWX.skip ?_))))))
  exact AWX.ff (gwCan2 b o lim (M.length + 50) (gwStep t n) (n + 1)) ⟨rfl,rfl,rfl,rfl,rfl,trivial⟩ this
def gwEnd:Code:=cAt [1,1,1,1,1,1,1] gwRest
theorem gw_run (hG:GOK G):∀ (k n:Nat) (t:GwT) (l:List (Nat × V)) (M1:Mem),n + (k + 1) = 78 → GwJ M M1 b o lim t → subL 65 l (gwCan2 b o lim (M.length + 50) t n) →
  (∀ l2 M2,GwJ M M2 b o lim (gwRun (k + 1) n t) → subL 65 l2 (gwCan2 b o lim (M.length + 50) (gwRun (k + 1) n t) 78) → AWX G gwEnd (mkSt 65 l2 M2) (jx G gwC Q)) → AWX G (cAt [1] gwRest) (mkSt 65 l M1) (jx G gwC Q)
 | 0,n,t,l,M1,hn,h,hl,hQ => by
  have:n = 77:=by omega
  subst this
  refine gw_step hG (by omega) h hl fun l2 M2 h2 hl2 => ?_
  rw [if_neg (by omega)]
  exact hQ l2 M2 h2 hl2
 | k + 1,n,t,l,M1,hn,h,hl,hQ => by
  refine gw_step hG (by omega) h hl fun l2 M2 h2 hl2 => ?_
  rw [if_pos (by omega)]
  exact gw_run hG k (n + 1) _ l2 M2 (by omega) h2 hl2 hQ
theorem gw_call (hG:GOK G) {x:List Int} (hx:x.length = 4) (hr:rd M b o 4 = some (nRow .u32 x)) (ho:∃ cs g,M[b]? = some (.own cs g)):∃ M2,ACall Tryz.prog G 95 [.sl b o 4 lim] M (.sl (M.length + 50) 0 26 none) M2 ∧ GrowL M M2 [b] ∧ M2.length = M.length + 51 ∧ M2[M.length + 50]? = some (.own (nRow .u32 (growL x)) 1):=by
 obtain ⟨cs,g,ho⟩:=ho
 have hb:=lt_of ho
 suffices h:AWX G (fnOf Tryz.f95).body (mkSt 65 (argL 0 [.sl b o 4 lim]) M) (fun e s => ∃ M2,Fini 65 (fnOf Tryz.f95).results (.sl (M.length + 50) 0 26 none) M2 e s ∧ GrowL M M2 [b] ∧ M2.length = M.length + 51 ∧ M2[M.length + 50]? = some (.own (nRow .u32 (growL x)) 1)) by
  obtain ⟨e,s,h1,M2,h2,h3⟩:=h
  exact ⟨M2,acall_mk (n:=65) (fv:=fnOf Tryz.f95) rfl rfl (by simp) (by decide) ⟨e,s,h1,h2⟩,h3⟩
 refine AWX.seq (AWX.region (AOX.q hG rfl (st_as rfl) rfl (AOX.nil (AWX.scope (JX.step ?_)))))
 refine AWX.seq (AWX.region (AOX.qv hG rfl (st_bs1 el117 rfl rfl) rfl (AOX.q hG rfl (st_as rfl) rfl (AOX.nil ?_))))
 refine AWX.seq (AWX.block (AWX.loop (gw_loop (b:=b) (o:=o) (lim:=lim) (M:=M) hG ?_ 25 0 _ _ (.sl M.length 0 1 (some 1)) rfl ⟨GrowL.one _ _ _,by simp,.inl ⟨rfl,rfl,app_last⟩⟩ ⟨rfl,rfl,trivial⟩)))
 intro l2 M2 s2 h2 hl2
 rcases h2.s with ⟨h0,_⟩ | ⟨_,rfl,hs⟩
 ·cases h0
 have hg2:=h2.gr
 refine AWX.seq (AWX.ff _ hl2 (AWX.region (AOX.q hG rfl (st_as rfl) rfl (AOX.q hG rfl (st_as rfl) rfl (AOX.nil ?_)))))
 refine AWX.seq (AWX.region (AOX.q hG rfl (st_as rfl) rfl (AOX.nil ?_)))
 refine AWX.seq (AWX.label ?_)
 have hJ:GwJ M M2 b o lim ⟨eulL 26,x,0,0⟩:=by
  refine ⟨⟨hg2.le,fun i hi hne => absurd (hg2.same i hi hne) (by simp),hg2.ro,hg2.keep,fun i hi cs' h => ?_⟩,h2.len,hs,rd_grow hg2 hr (by simp),⟨cs,g,hg2.g0 ho⟩,hb,eulL_len 26,hx⟩
  simp only [List.mem_singleton] at hi; subst hi
  rw [ho] at h; cases h
 refine gw_run hG 77 0 _ _ M2 rfl hJ ⟨rfl,rfl,rfl,rfl,rfl,trivial⟩ fun l3 M3 h3 hl3 => ?_
 refine AWX.seq (AWX.ff _ hl3 (AWX.region (AOX.q hG rfl (st_mv rfl) rfl (AOX.q hG rfl (st_as rfl) rfl (AOX.nil (AWX.ret ?_))))))
 exact ⟨M3,⟨.inr rfl,_,_,rfl,rfl,rfl⟩,h3.gr,h3.len,h3.s⟩
end
end
end
section
open Go.Proofs
noncomputable section
def keysF (x:List Int) (j:Nat):Int:=pmAt x (tPick (j / 6)) (j % 6)
def keysOut (x:List Int):List Int:=(List.range 96).map (keysF x)
def keysN (base:Nat) (ys:List V):List Blk:=(List.range 16).map (fun i => .own ((ys.drop (6 * i)).take 6) 0) ++ [.own ((List.range 16).map fun i => .sl (base + i) 0 6 (some 6)) 0]
def keysV (base:Nat):V:=.tup [.sl (base + 16) 0 16 (some 16),.int .i64 0]
theorem keysN_rows:RowsOf keysN:=by
 intro base ys ys' hl
 refine ⟨by simp [keysN],fun i k hi => .inr ?_⟩
 unfold keysN at hi ⊢
 by_cases h:i < 16
 ·rw [List.getElem?_append_left (by simpa using h),List.getElem?_map,List.getElem?_range h,Option.map_some,Option.some.injEq] at hi
  subst hi
  refine ⟨_,(ys'.drop (6 * i)).take 6,0,rfl,?_,fun φ us h1 h2 => ?_⟩
  ·rw [List.getElem?_append_left (by simpa using h),List.getElem?_map,List.getElem?_range h]; rfl
  ·rw [concs_take (concs_drop h1 _),concs_take (concs_drop h2 _)]
 ·rw [List.getElem?_append_right (by simp; omega)] at hi ⊢
  have:=(List.getElem?_eq_some_iff.1 hi).1
  have h0:i - (List.map (fun i => Blk.own ((ys.drop (6 * i)).take 6) 0) (List.range 16)).length = 0:=by simp at this ⊢; omega
  have h0':i - (List.map (fun i => Blk.own ((ys'.drop (6 * i)).take 6) 0) (List.range 16)).length = 0:=by simp at this ⊢; omega
  rw [h0] at hi
  rw [h0']
  simp only [List.getElem?_cons_zero,Option.some.injEq] at hi ⊢
  subst hi
  exact ⟨_,_,_,rfl,rfl,fun _ _ _ _ => rfl⟩
theorem keysOut_row (x:List Int) (i:Nat) (hi:i < 16):((u8s' (keysOut x)).drop (6 * i)).take 6 = u8s' (pmOut x (tPick i)):=by
 have hl:(pmOut x (tPick i)).length = 6:=by rw [pmOut_len,tPick_len]
 unfold u8s' keysOut
 rw [← List.map_drop,← List.map_take]
 congr 1
 apply List.ext_getElem?
 intro j
 by_cases hj:j < 6
 ·rw [List.getElem?_take,if_pos hj,List.getElem?_drop,List.getElem?_map,List.getElem?_range (by omega),Option.map_some,List.getElem?_eq_getElem (by omega)]
  simp only [keysF,pmAt]
  rw [show (6 * i + j) / 6 = i by omega,show (6 * i + j) % 6 = j by omega,List.getElem?_eq_getElem (by omega)]; rfl
 ·rw [List.getElem?_take,if_neg hj,List.getElem?_eq_none_iff.2 (by omega)]
theorem idx_nodup {bl:List Nat} (hnd:bl.Nodup):∀ (j c:Nat),bl[j]? = some c → idxOf c bl 0 = some j:=by
 have key:∀ (l:List Nat) (i:Nat),l.Nodup → ∀ (j c:Nat),l[j]? = some c → idxOf c l i = some (i + j):=by
  intro l
  induction l with
  | nil => intro i _ j c h; simp at h
  | cons a l ih =>
   intro i hnd j c h
   rw [List.nodup_cons] at hnd
   cases j with
   | zero => simp only [List.getElem?_cons_zero,Option.some.injEq] at h; subst h; simp [idxOf]
   | succ j =>
    have h':l[j]? = some c:=by simpa using h
    have hne:a ≠ c:=fun e => by subst e; exact hnd.1 (List.mem_of_getElem? h')
    simp only [idxOf,if_neg hne]
    rw [ih (i + 1) hnd.2 j c h']; congr 1; omega
 intro j c h
 have:=key bl 0 hnd j c h
 rwa [Nat.zero_add] at this
theorem subs_ints {B:Bd} {k:IntKind}:∀ (l:List Int),B.subs (l.map (.int k)) = some (l.map (.int k))
 | [] => by simp [Bd.subs]
 | n :: l => by simp [Bd.subs,Bd.sub,subs_ints l]
theorem news_rows {sol:List (Option Int)} {bl:List Nat} {base:Nat} {M:Mem}:∀ {l:List Nat} {N:List (List Int)},l.length = N.length → (∀ (j c:Nat),l[j]? = some c → ∃ r,N[j]? = some r ∧ M[c]? = some (.own (u8s' r) 0)) → ∀ {l2:List Nat} {N2:List Blk},news sol bl base M l2 = some N2 → news sol bl base M (l ++ l2) = some (N.map (fun r => .own (u8s' r) 0) ++ N2)
 | [],[],_,_,_,_,h2 => by simpa using h2
 | c :: l,r :: N,hl,h,l2,N2,h2 => by
  obtain ⟨r',h3,h4⟩:=h 0 c rfl
  simp only [List.getElem?_cons_zero,Option.some.injEq] at h3
  subst h3
  have ih:=news_rows (l:=l) (N:=N) (by simpa using hl) (fun j c hj => by simpa using h (j + 1) c (by simpa using hj)) h2
  have hu:reps sol bl base (u8s' r) = some (u8s' r):=reps_ints r
  simp only [List.cons_append,news,h4,hu,ih,Option.map_some,List.map_cons]
theorem keys_lit {G:GF} (hG:GOK G) (x:List Int) (hx:x.length = 8) (hxb:Bytes x) (M:Mem) (b o:Nat) (lim:Option Nat) (hr:rd M b o 8 = some (u8s' x)) (hlim:LimP M b o 8 lim) (_:false = true → ∃ cs g,M[b]? = some (.own cs g)) :
  ACall Tryz.prog G 74 [.sl b o 8 lim] M (keysV M.length) (kilM false b M ++ keysN M.length (u8s' (keysOut x))):=by
 show ACall Tryz.prog G 74 [.sl b o 8 lim] M (keysV M.length) (M ++ keysN M.length (u8s' (keysOut x)))
 have hxl:(u8s' x).length = 8:=by rw [u8s'_len,hx]
 have hr0:rd (small 0 [u8s' x]) 0 0 8 = some (u8s' x):=by
  unfold rd small
  simp [Blk.cells,hxl,List.take_of_length_le]
 obtain ⟨M2,ob,bs,hc,hM,_,hbl,hnd,hob,hbs⟩:=keys_call (b:=0) (o:=0) (lim:=none) hG (M:=small 0 [u8s' x]) hx hxb hr0 (by
  show 0 + 8 ≤ known _ 0
  unfold known small
  simp [hxl])
 refine ⟨plain_of (v:=fnOf Tryz.f74) rfl,fun prot W0 φ w us hMR hus => ?_⟩
 have hobn:ob ∉ bs:=fun hm => by
  obtain ⟨j,hj⟩:=List.getElem?_of_mem hm
  have:=(hbs j ob hj).2
  rw [hob] at this
  injection this with this
  injection this with this
  have:=congrArg List.length this
  rw [u8s'_len,pmOut_len,tPick_len] at this
  simp [hbl] at this
 have hnd2:(bs ++ [ob]).Nodup:=List.nodup_append.2 ⟨hnd,by simp,fun a ha c hc e => by simp only [List.mem_singleton] at hc; subst e hc; exact hobn ha⟩
 have hidx:=idx_nodup hnd2
 let B:Bd:=⟨[],[(b,o,lim)]⟩
 have hfit:B.fits M [u8s' x]:=by
  refine ⟨rfl,fun i cs0 p h1 h2 => ?_⟩
  have hi:i = 0:=by
   have:=(List.getElem?_eq_some_iff.1 h1).1
   simp only [List.length_singleton] at this
   omega
  subst hi
  simp only [B,List.getElem?_cons_zero,Option.some.injEq] at h1 h2
  subst h1 h2
  refine ⟨u8s' x,subs_ints x,by rw [hxl]; exact hr,?_⟩
  rw [hxl]
  exact hlim
 have hsub:B.subs [.sl 0 0 8 none] = some [.sl b o 8 lim]:=by
  simp only [B,Bd.subs,Bd.sub]
  cases lim <;> simp
 refine sumcall (B:=B) (rows:=[u8s' x]) (bl:=bs ++ [ob]) (ns:=[]) hc hsub hfit (fun i j b' hi hj => ?_) hMR hus rfl ?_ ?_
 ·have h1:=hidx i b' hi
  rw [hidx j b' hj] at h1
  injection h1 with h1
  exact h1.symm
 ·have:=hidx 16 ob (by rw [List.getElem?_append_right (by omega)]; simp [hbl])
  simp [rep,reps,this,keysV]
 ·have hout:news (solve G (M2.drop B.ins.length) (([]:List Int).map some)) (bs ++ [ob]) M.length M2 [ob] = some [.own ((List.range 16).map fun i => .sl (M.length + i) 0 6 (some 6)) 0]:=by
   have hreps:∀ (sol:List (Option Int)) (l:List Nat) (i:Nat),(∀ (j c:Nat),l[j]? = some c → idxOf c (bs ++ [ob]) 0 = some (i + j)) → reps sol (bs ++ [ob]) M.length (l.map fun b => V.sl b 0 6 (some 6)) = some ((List.range' i l.length).map fun i => .sl (M.length + i) 0 6 (some 6)):=by
    intro sol l
    induction l with
    | nil => intro i _; simp [reps]
    | cons a l ih =>
     intro i h
     have h0:=h 0 a rfl
     rw [Nat.add_zero] at h0
     have:=ih (i + 1) fun j c hj => by rw [show i + 1 + j = i + (j + 1) by omega]; exact h (j + 1) c (by simpa using hj)
     simp only [List.map_cons,reps,rep,h0,Option.map_some,this,List.length_cons,List.range'_succ]
   have:=hreps (solve G (M2.drop B.ins.length) (([]:List Int).map some)) bs 0 fun j c hj => by
    rw [Nat.zero_add]
    exact hidx j c (by rw [List.getElem?_append_left (List.getElem?_eq_some_iff.1 hj).1]; exact hj)
   rw [hbl,← List.range_eq_range'] at this
   simp only [news,hob,this,Option.map_some]
  have hrows:=news_rows (sol:=solve G (M2.drop B.ins.length) (([]:List Int).map some)) (bl:=bs ++ [ob]) (base:=M.length) (M:=M2) (l:=bs) (N:=(List.range 16).map fun i => pmOut x (tPick i)) (by simp [hbl]) (fun j c hj => by
   have hj16:j < 16:=by have:=(List.getElem?_eq_some_iff.1 hj).1; omega
   exact ⟨_,by rw [List.getElem?_map,List.getElem?_range hj16]; rfl,(hbs j c hj).2⟩) hout
  rw [hrows]
  have he:((List.range 16).map fun i => pmOut x (tPick i)).map (fun r => Blk.own (u8s' r) 0) = (List.range 16).map fun i => .own (((u8s' (keysOut x)).drop (6 * i)).take 6) 0:=by
   rw [List.map_map]
   exact List.map_congr_left fun i hi => by rw [keysOut_row x i (List.mem_range.1 hi)]; rfl
  unfold keysN
  rw [he]
def keysS (X:Rule):Known:=knowS X 2404 74 8 96 .u8 .u8 255 false keysV keysN
theorem keysS_ok {G:GF} {X:Rule} (hG:GOK G) (hX:RuleOK G X) (hg:∀ x j,x.length = 8 → Bytes x → j < 96 → G 2404 x j = keysF x j):CallOK Tryz.prog G (keysS X) :=
 knowS_ok (v0:=keysV) (N:=keysN) hG hX (fv:=fnOf Tryz.f74) (out:=keysOut) rfl keysN_rows (keys_lit hG) (fun x _ => by unfold keysOut; rw [List.length_map,List.length_range]) fun x j h1 h2 h3 => by
  rw [hg x j h1 h2 h3]
  unfold keysOut
  rw [List.getElem?_map,List.getElem?_range h3]; rfl
end
end
section
open Go.Proofs
noncomputable section
structure ArT (t:TypeId) (n:Nat):Prop where
 h:∃ d e de,tyF t = some d ∧ d.kind = .array n e ∧ tyF e = some de ∧ de.size = 1
theorem ar133:ArT 133 4:=⟨_,_,_,rfl,rfl,rfl,rfl⟩
section
variable {ρ:Operand → Option V} {M:Mem} {x y:Operand} {t:TypeId}
theorem st_ixa {k:IntKind} {b o i n:Nat} (ht:ArT t n) (hx:ρ x = some (.ptr b o)) (hi:ρ y = some (.int k i)) (hlt:i < n):astep noX tyF ρ M (.indexAddr t x y) = some (.pure (.ptr b (o + i))):=by
 obtain ⟨d,e,de,h1,h2,h3,h4⟩:=ht.h
 have:idx n (.int k (i:Int)) = some i:=by rw [idx_eq]; simp [hlt]
 simp only [astep,aIndexA,h1,Option.bind_some,hx,hi,indexAddrV,h2,h3,this,h4,Nat.mul_one,Option.map_some]
theorem st_box {v:V} (hx:ρ x = some v):astep noX tyF ρ M (.box t x) = some (.val (.ptr M.length 0) (M ++ [.own (cellsOf v) 0])):=by
 simp only [astep,aBox,hx,Option.map_some]
end
theorem b_mul {d:Option Ty} {M:Mem} {m n r:Nat} (h:m * n = r) (hr:r ≤ 1000000000):abin noX d M .mul (.int .i64 m) (.int .i64 n) = some (.int .i64 r,none):=by
 have:kwrap .i64 ((m:Int) * n) = r:=by
  rw [kw64 (by omega) (by rw [← Int.natCast_mul,h]; omega),← Int.natCast_mul,h]
 simp [abin,bInt,bLit,eint,this]
theorem b_rm {d:Option Ty} {M:Mem} {k:IntKind} {a n:Nat} (hn:0 < n):abin noX d M .rem (.int k a) (.int k n) = some (.int k ((a % n:Nat):Int),none):=by
 have e:(a:Int).tmod n = ((a % n:Nat):Int):=rfl
 have h:¬ ((n:Int) = 0):=by omega
 simp [abin,bInt,bLit,eint_eq,aint,e]; omega
structure TabA (M:Mem) (ts:List V) (T:Nat → List Int):Prop where
 len:ts.length = 4
 at':∀ j,j < 4 → ∃ c lim,ts[j]? = some (.sl c 0 256 lim) ∧ rd M c 0 256 = some (u8s' (T j))
 tl:∀ j,j < 4 → (T j).length = 256 ∧ Bytes (T j)
theorem TabA.grow {M M':Mem} {ts:List V} {T:Nat → List Int} (h:TabA M ts T) (hM:GrowL M M' []):TabA M' ts T :=
 ⟨h.len,fun j hj => by
  obtain ⟨c,lim,h1,h2⟩:=h.at' j hj
  exact ⟨c,lim,h1,rd_grow hM h2 (by simp)⟩,h.tl⟩
def layAt (w:Nat) (T:Nat → List Int) (i:Nat) (a:Int):Int:=at1 (T ((i + 2 * (w - 1)) % 4)) a.toNat
where at1 (l:List Int) (i:Nat):Int:=(l[i]?).getD 0
def layL (w:Nat) (T:Nat → List Int) (x:List Int):List Int:=x.mapIdx (layAt w T)
theorem layL_len {w:Nat} {T:Nat → List Int} {x:List Int}:(layL w T x).length = x.length:=by simp [layL]
theorem layL_in {w:Nat} {T:Nat → List Int} {x:List Int} (hT:∀ j,j < 4 → (T j).length = 256 ∧ Bytes (T j)):Bytes (layL w T x):=by
 intro n hn
 obtain ⟨i,hi,rfl⟩:=List.getElem_of_mem hn
 simp only [layL,List.getElem_mapIdx,layAt,layAt.at1]
 cases h:(T ((i + 2 * (w - 1)) % 4))[(x[i]'(by simpa [layL] using hi)).toNat]? with
 | none => simp
 | some m => exact (hT _ (by omega)).2 m (List.mem_of_getElem? h)
section
variable {G:GF} {Q:AExit → St → Prop} {b o n w:Nat} {lim:Option Nat} {M:Mem} {x:List Int} {ts:List V} {T:Nat → List Int}
def lyLp:Code:=cAt [1,1,0,1,0,0] (fnOf Tryz.f92).body
def lyC (M:Mem) (w b o n:Nat) (lim:Option Nat) (k:Nat):List (Nat × V):=[(1,.int .i64 w),(3,.ptr M.length 0),(7,.sl (M.length + 1) 0 n (some n)),(13,.sl b o n lim),(14,.int .i64 n),(15,.int .i64 k)]
theorem two_last {M:Mem} {k1 k2:Blk}:(M ++ [k1,k2])[M.length + 1]? = some k2:=by rw [List.getElem?_append_right (by omega)]; simp
theorem two_first {M:Mem} {k1 k2:Blk}:(M ++ [k1,k2])[M.length]? = some k1:=by rw [List.getElem?_append_right (by omega)]; simp
theorem ly_loop (hG:GOK G) (hA:TabA M ts T) (hw:1 ≤ w ∧ w ≤ 2) (hx:x.length = n) (hbx:Bytes x) (hr:rd M b o n = some (u8s' x)) (hn:n ≤ 1000000)
  (hQ:∀ l2,subL 36 l2 (lyC M w b o n lim n) → Q (.exit 0) (mkSt 36 l2 (M ++ [.own ts 0,.own (u8s' (layL w T x)) 0]))):∀ (j k:Nat) (l:List (Nat × V)),k + j = n → subL 36 l (lyC M w b o n lim k) → LX G lyLp (mkSt 36 l (M ++ [.own ts 0,.own (u8s' (fillL (layL w T x) k)) 0])) Q
 | 0,k,l,hk,hl => by
  have hk:k = n:=by omega
  subst hk
  refine LX.step (AWX.ff _ hl ?_)
  refine AWX.seq (AWX.region (AOX.q hG rfl (st_bin rfl rfl (b_lssF (by omega))) rfl (AOX.nil ?_)))
  refine AWX.seq (AWX.cf rfl (AWX.exit ?_))
  have e:fillL (layL w T x) k = layL w T x:=by rw [← hx,← layL_len (w:=w) (T:=T) (x:=x)]; exact fillL_all _
  rw [e]
  exact hQ _ ⟨rfl,rfl,rfl,rfl,rfl,rfl,trivial⟩
 | j + 1,k,l,hk,hl => by
  have hkx:k < x.length:=by omega
  have hxk:=hbx _ (List.getElem_mem hkx)
  have hz:(layL w T x).length = n:=by rw [layL_len,hx]
  obtain ⟨c,lm,ht1,ht2⟩:=hA.at' ((k + 2 * (w - 1)) % 4) (by omega)
  obtain ⟨htl,_⟩:=hA.tl ((k + 2 * (w - 1)) % 4) (by omega)
  have hcell:((x[k].toNat:Nat):Int) = x[k]:=by omega
  have htv:(T ((k + 2 * (w - 1)) % 4))[x[k].toNat]? = some (layAt w T k x[k]):=by
   rw [List.getElem?_eq_getElem (by omega)]
   simp only [layAt,layAt.at1]
   rw [List.getElem?_eq_getElem (by omega)]; rfl
  have hg:GrowL M (M ++ [.own ts 0,.own (u8s' (fillL (layL w T x) k)) 0]) []:=GrowL.two _ _ _ _ _
  refine LX.step (AWX.ff _ hl ?_)
  refine AWX.seq (AWX.region (AOX.q hG rfl (st_bin rfl rfl (b_lssT (by omega))) rfl (AOX.nil ?_)))
  refine AWX.seq (AWX.ct rfl (AWX.skip ?_))
  refine AWX.seq (AWX.block (AWX.seq (AWX.region (AOX.q hG rfl (st_mv rfl) rfl (AOX.q hG rfl (st_ix sl22 rfl rfl (show k < n by omega)) rfl
   (AOX.q (v:=.int .u8 (x[k].toNat:Nat)) hG rfl (st_ld one5 rfl (rd_one (rd_grow hg hr (by simp)) (by simp [u8s',hkx,hcell]))) rfl
   (AOX.q hG rfl (st_as rfl) rfl (AOX.q hG rfl (st_as rfl) rfl (AOX.nil ?_)))))))))
  refine AWX.region (AOX.q hG rfl (st_mv rfl) rfl (AOX.q hG rfl (st_mv rfl) rfl (AOX.q hG rfl (st_mv rfl) rfl (AOX.q hG rfl (st_mv rfl) rfl
   (AOX.q hG rfl (st_bin rfl rfl (b_sub (n:=1) (r:=w - 1) (by omega) (by omega))) rfl
   (AOX.q hG rfl (st_bin rfl rfl (b_mul (m:=2) (r:=2 * (w - 1)) rfl (by omega))) rfl
   (AOX.q hG rfl (st_bin rfl rfl (b_add (r:=k + 2 * (w - 1)) rfl (by omega))) rfl
   (AOX.q hG rfl (st_bin rfl rfl (b_rm (n:=4) (by omega))) rfl
   (AOX.q hG rfl (st_ixa ar133 rfl rfl (show (k + 2 * (w - 1)) % 4 < 4 by omega)) rfl
   (AOX.q (v:=.sl c 0 256 lm) hG rfl (st_ld one22 rfl (rd_one (rd_own0 two_first hA.len) ht1)) rfl
   (AOX.q hG rfl (st_mv rfl) rfl
   (AOX.q hG rfl (st_ix sl22 rfl rfl (show x[k].toNat < 256 by omega)) rfl
   (AOX.q (v:=.int .u8 (layAt w T k x[k])) hG rfl (st_ld one5 rfl (rd_one (rd_grow hg ht2 (by simp)) (by simp [u8s',htv]))) rfl
   (AOX.q hG rfl (st_ix sl22 rfl rfl (show k < n by omega)) rfl ?_))))))))))))))
  have hw:wr (M ++ [.own ts 0,.own (u8s' (fillL (layL w T x) k)) 0]) (M.length + 1) (0 + k) [.int .u8 (layAt w T k x[k])] = some (M ++ [.own ts 0,.own (u8s' (fillL (layL w T x) (k + 1))) 0]):=by
   rw [Nat.zero_add,wr_own two_last (by rw [u8s'_len,fillL_len (by omega)]; omega) rfl,u8s'_set,← fillL_set (by omega),List.set_append_right _ _ (by omega),Nat.add_sub_cancel_left]
   simp [layL]
  refine AOX.qs hG rfl (st_st one5 rfl rfl rfl hw) (AOX.nil ?_)
  refine AWX.region (AOX.q hG rfl (st_bin rfl rfl (b_add (n:=1) (r:=k + 1) rfl (by omega))) rfl (AOX.q hG rfl (st_mv rfl) rfl (AOX.nil ?_)))
  exact ly_loop hG hA ‹_› hx hbx hr hn hQ j (k + 1) _ (by omega) ⟨rfl,rfl,rfl,rfl,rfl,rfl,trivial⟩
theorem lay_call (hG:GOK G) (hA:TabA M ts T) (hw:1 ≤ w ∧ w ≤ 2) (hx:x.length = n) (hbx:Bytes x) (hr:rd M b o n = some (u8s' x)) (hn:n ≤ 1000000) :
  ACall Tryz.prog G 92 [.agg ts,.int .i64 w,.sl b o n lim] M (.sl (M.length + 1) 0 n (some n)) (M ++ [.own ts 0,.own (u8s' (layL w T x)) 0]):=by
 refine acall_mk (n:=36) (fv:=fnOf Tryz.f92) rfl rfl (by simp) (by decide) ?_
 refine AWX.seq (AWX.region (AOX.qv hG rfl (st_box rfl) rfl (AOX.q hG rfl (st_as rfl) rfl (AOX.nil ?_))))
 refine AWX.seq (AWX.region (AOX.q hG rfl (st_mv rfl) rfl (AOX.q hG rfl (st_len sl22 rfl) rfl (AOX.qv hG rfl (st_mk el22 (by omega) rfl rfl (Nat.le_refl n) hn) rfl (AOX.q hG rfl (st_as rfl) rfl (AOX.nil ?_))))))
 refine AWX.seq (AWX.seq (AWX.region (AOX.q hG rfl (st_mv rfl) rfl (AOX.q hG rfl (st_len sl22 rfl) rfl (AOX.q hG rfl (st_mv rfl) rfl (AOX.nil ?_))))))
 have hz:(layL w T x).length = n:=by rw [layL_len,hx]
 have e:(M ++ [Blk.own (cellsOf (.agg ts)) 0]) ++ [Blk.own (List.replicate n (V.int .u8 0)) 0] = M ++ [.own ts 0,.own (u8s' (fillL (layL w T x) 0)) 0]:=by rw [fillL_zero,hz]; simp [u8s',cellsOf]
 have el:(M ++ [Blk.own (cellsOf (.agg ts)) 0]).length = M.length + 1:=by simp
 rw [e,el]
 refine AWX.block (AWX.loop (ly_loop (lim:=lim) hG hA hw hx hbx hr hn (fun l hl => ?_) n 0 _ (by omega) ⟨rfl,rfl,rfl,rfl,rfl,rfl,trivial⟩))
 refine AWX.seq (AWX.ff _ hl (AWX.region (AOX.q hG rfl (st_mv rfl) rfl (AOX.q hG rfl (st_as rfl) rfl (AOX.nil ?_)))))
 exact AWX.fin rfl rfl
end
end
end
section
def rA (n i:Nat):List V:=symRow .u8 0 255 n i
noncomputable def desC:Known:=orS (keysS or0X) (orS (runS or0X rOnce) dsT)
end
section
open Go.Proofs
noncomputable section
theorem MR.weak {G:GF} {prot:Pr} {W0 w:World} {φ:Pl} {M M':Mem} (h:MR G prot W0 φ M w) (hl:M'.length = M.length) (hk:∀ (i:Nat) (k:Blk),M'[i]? = some k → k = .dead ∨ M[i]? = some k):MR G prot W0 φ M' w:=by
 have hk:∀ (i:Nat) (k:Blk),M'[i]? = some k → k ≠ .dead → M[i]? = some k:=fun i k hi hne => (hk i k hi).resolve_left hne
 refine ⟨h.os,h.tape,h.output,h.size,h.lt,h.kept,h.laid,fun i hi => h.fresh i (by omega),by rw [hl]; exact h.nbl,h.base,?_,?_,?_,?_⟩
 ·intro i cs gs hi
  exact h.own i cs gs (hk _ _ hi (by simp))
 ·intro i j cs gs k p q hi hj hkr hne hp hq
  exact h.sep i j cs gs k p q (hk _ _ hi (by simp)) (hk _ _ hj (by rintro rfl; simp [Blk.isRow] at hkr)) hkr hne hp hq
 ·intro i cs hi
  exact h.ro i cs (hk _ _ hi (by simp))
 ·intro i d v hi
  exact h.eqn i d v (hk _ _ hi (by simp))
theorem ACall.weak {P:Program} {G:GF} {f:FuncId} {args:List V} {M:Mem} {v:V} {M1 M2:Mem} (h:ACall P G f args M v M1) (hl:M2.length = M1.length) (hk:∀ (i:Nat) (k:Blk),M2[i]? = some k → k = .dead ∨ M1[i]? = some k):ACall P G f args M v M2:=by
 refine ⟨h.1,fun prot W0 φ w us hM hus => Calls.mono (h.2 prot W0 φ w us hM hus) ?_⟩
 intro e w' he
 cases e with
 | panicked c => exact he.elim
 | outgrown => exact he.elim
 | returned u =>
  obtain ⟨φ',h1,h2,h3⟩:=he
  exact ⟨φ',h1,h2,h3.weak hl hk⟩
def gwV (base:Nat):V:=.sl (base + 50) 0 26 none
def gwN (_:Nat) (ys:List V):List Blk:=List.replicate 50 .dead ++ [.own ys 1]
theorem gwN_rows:RowsOf gwN:=by
 intro base ys ys' _
 refine ⟨by simp [gwN],fun i k hi => ?_⟩
 unfold gwN at hi ⊢
 by_cases h:i < 50
 ·rw [List.getElem?_append_left (by simpa using h),List.getElem?_replicate,if_pos h] at hi ⊢
  injection hi with hi
  exact .inl ⟨hi.symm,rfl⟩
 ·have hl:=(List.getElem?_eq_some_iff.1 hi).1
  simp only [List.length_append,List.length_replicate,List.length_singleton] at hl
  rw [List.getElem?_append_right (by simpa using h),List.length_replicate,show i - 50 = 0 by omega] at hi ⊢
  simp only [List.getElem?_cons_zero,Option.some.injEq] at hi ⊢
  subst hi
  exact .inr ⟨ys,ys',1,rfl,rfl,fun φ us h1 h2 => by rw [h1,h2]⟩
theorem gw_lit {G:GF} (hG:GOK G) (x:List Int) (hx:x.length = 4) (_:∀ n ∈ x,0 ≤ n ∧ n ≤ 4294967295) (M:Mem) (b o:Nat) (lim:Option Nat) (hr:rd M b o 4 = some (nRow .u32 x)) (_:LimP M b o 4 lim) (ho:true = true → ∃ cs g,M[b]? = some (.own cs g)) :
  ACall Tryz.prog G 95 [.sl b o 4 lim] M (gwV M.length) (kilM true b M ++ gwN M.length (nRow .u32 (growL x))):=by
 obtain ⟨M2,hc,hg,hl,hs⟩:=gw_call hG (lim:=lim) hx hr (ho rfl)
 refine hc.weak (by simp [kilM,gwN,hl]) fun i k hi => ?_
 simp only [kilM,cond_true,gwN] at hi
 by_cases h1:i < M.length
 ·rw [List.getElem?_append_left (by simpa using h1)] at hi
  by_cases e:b = i
  ·subst e
   rw [List.getElem?_set_self h1] at hi
   injection hi with hi
   exact .inl hi.symm
  ·rw [set_ne e] at hi
   exact .inr (hg.g hi (by simp; omega))
 ·rw [List.getElem?_append_right (by simp; omega)] at hi
  simp only [List.length_set] at hi
  by_cases h2:i - M.length < 50
  ·rw [List.getElem?_append_left (by simpa using h2),List.getElem?_replicate,if_pos h2] at hi
   injection hi with hi
   exact .inl hi.symm
  ·have hl3:=(List.getElem?_eq_some_iff.1 hi).1
   simp only [List.length_append,List.length_replicate,List.length_singleton] at hl3
   rw [List.getElem?_append_right (by simpa using h2),List.length_replicate,show i - M.length - 50 = 0 by omega] at hi
   simp only [List.getElem?_cons_zero,Option.some.injEq] at hi
   subst hi
   rw [show i = M.length + 50 by omega]
   exact .inr hs
def growS (X:Rule):Known:=knowS X 95 95 4 26 .u32 .u32 4294967295 true gwV gwN
theorem growS_ok {G:GF} {X:Rule} (hG:GOK G) (hX:RuleOK G X) (hg:∀ x j,x.length = 4 → W32 x → j < 26 → G 95 x j = at0 (growL x) j):CallOK Tryz.prog G (growS X) :=
 knowS_ok (v0:=gwV) (N:=gwN) hG hX (fv:=fnOf Tryz.f95) (out:=fun x => if x.length = 4 ∧ (∀ n ∈ x,0 ≤ n ∧ n ≤ 4294967295) then growL x else List.replicate 26 0) rfl gwN_rows (fun x h1 h2 => by rw [if_pos ⟨h1,h2⟩]; exact gw_lit hG x h1 h2) (fun x _ => by
  split
  ·rename_i h; exact (growL_ok h.1 h.2).1
  ·simp) fun x j h1 h2 h3 => by
  rw [if_pos ⟨h1,h2⟩,hg x j h1 h2 h3]; rfl
end
end
section
open Go.Proofs
noncomputable section
def litY (G:GF) (e:Lvl) (ks:List IntKind) (ns:List Int):List V:=ks.mapIdx fun j k => .int k (numAt (solve G e.2.1 (ns.map some)) e.2.2 j)
theorem rn_lit {G:GF} {X:Rule} {S:Known} (hG:GOK G) (hX:RuleOK G X) (hS:CallOK Tryz.prog G S) {m:Nat} {r:Rn} {bad:List Nat} (h:rnChk X S m r bad = true)
  {M:Mem} {args ins:List V} {nm:List Wd} {ns:List Int} (hm:mt M r.shs args = some (ins,nm)) (hns:∀ φ,nums φ ins = some ns) {v:V} {N:List Blk}
  (hv:insT (litY G (entOf X S m r) r.oks ns) M.length r.vT = some v) (hN:insN (litY G (entOf X S m r) r.oks ns) M.length r.NT = some N):ACall Tryz.prog G r.f args M v (M ++ N):=by
 unfold rnChk at h
 split at h
 ·rename_i p hp
  obtain ⟨v0,M0',ch⟩:=p
  have hent:entOf X S m r = (r.gid,dropK M0' (cnts r.shs),(outsOf (v0,M0',ch)).map (·.2)):=by unfold entOf; rw [hp]
  rw [hent] at hv hN
  have hout:outsOf (v0,M0',ch) = kBlks v0 M0' fun bl => symN M0' bl (syms v0 []):=rfl
  rw [hout] at hv hN
  simp only [kBlks,kNats_eq,kOuts_eq,tabsK_eq,dropK_eq] at h hv hN
  generalize more M0' (more M0' (more M0' (more M0' (refs v0 []) (refs v0 [])) (more M0' (refs v0 []) (refs v0 []))) (more M0' (more M0' (refs v0 []) (refs v0 [])) (more M0' (refs v0 []) (refs v0 [])))) (more M0' (more M0' (more M0' (refs v0 []) (refs v0 [])) (more M0' (refs v0 []) (refs v0 []))) (more M0' (more M0' (refs v0 []) (refs v0 [])) (more M0' (refs v0 []) (refs v0 [])))) = bl at h hv hN
  generalize symN M0' bl (syms v0 []) = outs at h hv hN
  simp only [Bool.and_eq_true] at h
  obtain ⟨h1,h2,h3,h4,h5,h6⟩:=h
  have hnd:=ndN_ok h1
  split at h2
  ·rename_i v' hv'
   split at h3
   ·rename_i N' hN'
    have e2:=eqV_iff h2
    have e3:=eqNT_iff h3
    subst e2 e3
    have hcall:=(run hG hX hS m _ _ _ _ _ _ (by rw [resOf,kFN_eq] at hp; exact hp)).1
    have hkinds:=eqKs_iff h4
    obtain ⟨a1,a2,a3,a4⟩:=mt_all hm
    refine ⟨hcall.1,fun prot W0 φ w us hM hus => ?_⟩
    have hf2:=tabs_ok (G:=G) hG (M0'.drop (cnts r.shs)) (a4 φ ns (hns φ))
    have ho:Outs outs (litY G (r.gid,M0'.drop (cnts r.shs),outs.map (·.2)) r.oks ns) (solve G (M0'.drop (Bd.mk ins nm).ins.length) (ns.map some)) φ:=by
     intro j k q hj
     obtain ⟨lo,hi,b1,_,_⟩:=outIn_ok h6 j k q hj
     obtain ⟨n,c1,_,_⟩:=hf2.num q lo hi b1
     refine ⟨.int k n,n,?_,?_,rfl⟩
     ·unfold litY
      rw [List.getElem?_mapIdx,hkinds j k q hj,Option.map_some]
      unfold numAt
      simp only [List.getElem?_map,hj,Option.map_some,c1]
     ·rw [show (Bd.mk ins nm).ins.length = cnts r.shs from a2]; exact c1
    obtain ⟨v',d1,d2⟩:=tpl_ok ho v0 hv' hv
    obtain ⟨N3,d3,d4,d5⟩:=tplN_ok ho hN' hN
    have hc:=hcall
    rw [← a2] at hc
    have a1':=a1
    have a3':=a3
    rw [← a2] at a1' a3'
    refine Calls.mono (sumcall (B:=⟨ins,nm⟩) hc a1' a3' hnd hM hus (hns φ) d1 d3) ?_
    intro e w' he
    cases e with
    | returned u =>
     obtain ⟨φ2,e1,e2,e3⟩:=he
     refine ⟨φ2,e1,d2 φ2 u e1 e2,e3.recell (by simp [d4]) ?_⟩
     intro i k hi
     by_cases hlt:i < M.length
     ·rw [List.getElem?_append_left hlt] at hi ⊢
      exact .inl hi
     ·rw [List.getElem?_append_right (by omega)] at hi ⊢
      obtain ⟨cs,cs',gs,f1,f2,f3⟩:=d5 _ k hi
      exact .inr ⟨cs,cs',gs,f1,f2,fun us hus => f3 φ2 us e1 hus⟩
    | panicked c => exact he.elim
    | outgrown => exact he.elim
   ·cases h3
  ·cases h2
 ·cases h
theorem numOk_u8 {x:List Int} (hb:Bytes x):(u8s' x).all (numOk .u8 0 255) = true:=by
 rw [List.all_eq_true]
 intro v hv
 obtain ⟨n,hn,rfl⟩:=List.mem_map.1 hv
 have:=hb n hn
 simp only [numOk,Bool.and_eq_true,leI_iff]
 exact ⟨rfl,this⟩
theorem nums_u8' (x:List Int) (φ:Pl):nums φ (u8s' x) = some x:=by
 induction x with
 | nil => rfl
 | cons n l ih =>
  simp only [u8s',List.map_cons,nums,V.num,V.conc,Option.bind_some] at ih ⊢
  rw [ih]; rfl
theorem limOk_of {M:Mem} {b o n:Nat} {lim:Option Nat} (h:LimP M b o n lim):limOk M b o n lim = true:=by
 cases lim with
 | some c => have:n ≤ c:=h; simpa [limOk] using this
 | none => have:o + n ≤ known M b:=h; simpa [limOk] using this
theorem mt_row {M:Mem} {b o n:Nat} {lim:Option Nat} {x:List Int} {l:List Sh} {vs ins:List V} {nm:List Wd} (hb:Bytes x) (hr:rd M b o n = some (u8s' x)) (hl:LimP M b o n lim) (h:mt M l vs = some (ins,nm)):mt M (.row .u8 n 0 255 :: l) (.sl b o n lim :: vs) = some (u8s' x ++ ins,(b,o,lim) :: nm):=by
 have e:Nat.beq n n = true:=by simp
 simp only [mt,mtRow,e,limOk_of hl,Bool.and_self,hr,numOk_u8 hb,h,Option.map_some]
theorem insTs_sym {base:Nat} {k:IntKind}:∀ (ys:List V) (n i:Nat),i + n ≤ ys.length → insTs ys base (symT' k n i) = some ((ys.drop i).take n)
 | ys,0,i,_ => by simp [symT',insTs]
 | ys,n + 1,i,h => by
  have hi:ys[i]? = some (ys[i]'(by omega)):=List.getElem?_eq_getElem (by omega)
  simp only [symT',insTs,insT,nth_eq,hi,insTs_sym ys n (i + 1) (by omega),Option.map_some]
  rw [List.drop_eq_getElem_cons (by omega:i < ys.length),List.take_succ_cons]
def outB (G:GF) (e:Lvl) (n:Nat) (x:List Int):List Int:=(List.range n).map fun j => numAt (solve G e.2.1 (x.map some)) e.2.2 j
theorem litY_u8 {G:GF} {e:Lvl} {n:Nat} {x:List Int}:litY G e (List.replicate n .u8) x = u8s' (outB G e n x):=by
 apply List.ext_getElem?
 intro j
 unfold litY u8s' outB
 rw [List.getElem?_mapIdx,List.getElem?_map,List.getElem?_map]
 by_cases h:j < n
 ·rw [List.getElem?_replicate,if_pos h,List.getElem?_range h]; rfl
 ·rw [List.getElem?_replicate,if_neg h,List.getElem?_eq_none_iff.2 (by simpa using h)]; rfl
end
end
section
open Go.Proofs
noncomputable section
def baseF (g:Nat) (ns:List Int) (j:Nat):Int :=
 if g = 1112 then mulF ns else if g = 1113 then addF ns else if g = 1110 then negF ns else if g = 86 then rolF ns else if g = 2135 then fmF ns else if g = 2400 then pmAt ns tWide j else if g = 2401 then pmAt ns tMixed j else if g = 2402 then pmAt ns tFirst j else if g = 2403 then pmAt ns tInv j else if g = 2404 then keysF ns j else if g = 95 then at0 (growL ns) j else 0
def G0:GF:=fun g ns j => clampG g (baseF g ns j)
theorem G0_ok:GOK G0:=fun g ns j => clampG_in g (baseF g ns j)
def entsA:List Lvl :=
 [entOf or0X noS 6 rStir,entOf or0X (sgnS or0X) 6 rG,entOf or0X ideaN 8 rInv,entOf or0X noS 8 rLoad,entOf or0X (sgnS or0X) 8 (rQ 0 2137),entOf or0X (sgnS or0X) 8 (rQ 1 2138),entOf or0X (numS or0X nFm fmF) 8 rFold,entOf or0X fS 8 rF] ++ ideaTurns.map fun n => entOf or0X noS 8 (rTurn n)
def entsB:List Lvl:=[entOf or0X hS 8 (rH 2),entOf or0X hS 8 (rH 3),entOf or0X hS 8 (rH 4),entOf or0X onceT 8 rOnce]
def entsC:List Lvl:=(List.range 16).map (fun r => entP or0X (twS 2) 8 (rSums 2 r)) ++ (List.range 16).map (fun r => entP or0X (twS 3) 8 (rSums 3 r)) ++ (List.range 16).map (fun r => entP or0X (twS 4) 8 (rSums 4 r))
def GG:GF:=levs G0 (entsC ++ entsB ++ entsA)
theorem GG_ok:GOK GG:=levs_ok G0_ok _
theorem entOf_gid (X:Rule) (S:Known) (m:Nat) (r:Rn):(entOf X S m r).1 = r.gid:=by
 unfold entOf
 split <;> rfl
theorem entP_gid (X:Rule) (S:Known) (m:Nat) (r:Rp):(entP X S m r).1 = r.gid:=by
 unfold entP
 split <;> rfl
def gidsA:List Nat:=[126,128,1111,1081,2137,2138,114,2107,2100,2125,2150,2175,2200,2225,2250]
def gidsB:List Nat:=[162,163,164,2077]
def gidsC:List Nat:=(List.range 48).map fun i => 200 + 20 * (i / 16) + i % 16
theorem gA:entsA.map (·.1) = gidsA:=by
 simp only [entsA,List.map_append,List.map_cons,List.map_nil,entOf_gid,ideaTurns]
 rfl
theorem gB:entsB.map (·.1) = gidsB:=by
 simp only [entsB,List.map_cons,List.map_nil,entOf_gid]
 rfl
theorem gC:entsC.map (·.1) = gidsC:=by
 simp only [entsC,List.map_append,List.map_map,Function.comp_def,entP_gid]
 decide
theorem gNd:(gidsC ++ gidsB ++ gidsA).Nodup:=by decide
theorem avoid_mono {bad bad':List Nat} (h:∀ g ∈ bad',g ∈ bad):∀ {D:Mem},avoid bad D = true → avoid bad' D = true
 | [],_ => rfl
 | b :: D,ha => by
  simp only [avoid,Bool.and_eq_true] at ha ⊢
  refine ⟨?_,avoid_mono h ha.2⟩
  have h1:=ha.1
  split at h1
  ·split at h1
   ·rename_i g _ _ _
    simp only [Bool.not_eq_true',← Bool.not_eq_true,memN_iff] at h1 ⊢
    exact fun e => h1 (h g e)
   ·rfl
  ·rfl
theorem lv_at {U P R:List Lvl} (hL:entsC ++ entsB ++ entsA = U ++ P ++ R) {e:Lvl} (he:e ∈ P) {bad:List Nat} (hb:∀ g,g ∈ (U ++ P).map (·.1) → g ∈ bad) (ha:avoid bad e.2.1 = true) (ns:List Int) (j:Nat) :
  GG e.1 ns j = clampG e.1 (numAt (solve GG e.2.1 (ns.map some)) e.2.2 j):=by
 obtain ⟨p1,p2,hp⟩:=List.append_of_mem he
 have hLL:entsC ++ entsB ++ entsA = (U ++ p1) ++ e :: (p2 ++ R):=by rw [hL,hp]; simp
 have hnd:((entsC ++ entsB ++ entsA).map (·.1)).Nodup:=by
  rw [List.map_append,List.map_append,gA,gB,gC]; exact gNd
 have h1:e.1 ∉ (U ++ p1).map (·.1):=by
  rw [hLL,List.map_append,List.nodup_append] at hnd
  intro hm
  exact hnd.2.2 e.1 hm e.1 (by simp) rfl
 unfold GG
 rw [hLL]
 refine levs_at h1 (avoid_mono (fun g hg => hb g ?_) ha) ns j
 rw [hp]
 rcases List.mem_cons.1 hg with rfl | hg
 ·simp
 ·simp only [List.map_append,List.mem_append] at hg ⊢
  rcases hg with hg | hg
  ·exact .inl hg
  ·exact .inr (.inl hg)
theorem at_A {e:Lvl} (he:e ∈ entsA) (ha:avoid (gidsC ++ gidsB ++ gidsA) e.2.1 = true) (ns:List Int) (j:Nat):GG e.1 ns j = clampG e.1 (numAt (solve GG e.2.1 (ns.map some)) e.2.2 j):=by
 refine lv_at (U:=entsC ++ entsB) (P:=entsA) (R:=[]) (by simp) he (fun g hg => ?_) ha ns j
 rw [List.map_append,List.map_append,gA,gB,gC] at hg; exact hg
theorem at_B {e:Lvl} (he:e ∈ entsB) (ha:avoid (gidsC ++ gidsB) e.2.1 = true) (ns:List Int) (j:Nat):GG e.1 ns j = clampG e.1 (numAt (solve GG e.2.1 (ns.map some)) e.2.2 j):=by
 refine lv_at (U:=entsC) (P:=entsB) (R:=entsA) rfl he (fun g hg => ?_) ha ns j
 rw [List.map_append,gB,gC] at hg; exact hg
theorem at_C {e:Lvl} (he:e ∈ entsC) (ha:avoid gidsC e.2.1 = true) (ns:List Int) (j:Nat):GG e.1 ns j = clampG e.1 (numAt (solve GG e.2.1 (ns.map some)) e.2.2 j):=by
 refine lv_at (U:=[]) (P:=entsC) (R:=entsB ++ entsA) (by simp) he (fun g hg => ?_) ha ns j
 rw [List.nil_append,gC] at hg; exact hg
theorem base_at {g:Nat} (h:g ∉ gidsC ++ gidsB ++ gidsA) (ns:List Int) (j:Nat):GG g ns j = clampG g (baseF g ns j):=by
 unfold GG
 rw [levs_base (by rw [List.map_append,List.map_append,gA,gB,gC]; exact h)]
 rfl
theorem GG_perm {g:Nat} {n:Int} {ns:List Int} {j:Nat} (hm:g ∉ gidsC ++ gidsB ++ gidsA) (he:baseF g ns j = n) (h0:(gb g).1 ≤ n) (h1:n ≤ (gb g).2):GG g ns j = n:=by
 rw [base_at hm,he]
 unfold clampG; rw [if_pos ⟨h0,h1⟩]
theorem clamp_id {g:Nat} {n:Int} (h0:(gb g).1 ≤ n) (h1:n ≤ (gb g).2):clampG g n = n:=by unfold clampG; rw [if_pos ⟨h0,h1⟩]
theorem GG_mul {x y:Int} (h0:0 ≤ x) (h1:x ≤ 65535) (h2:0 ≤ y) (h3:y ≤ 65535) (j:Nat):GG 1112 [x,y] j = mulF [x,y]:=by
 rw [base_at (by decide)]
 obtain ⟨a1,a2,_⟩:=mulF_in h0 h1 h2 h3
 exact clamp_id (g:=1112) (n:=mulF [x,y]) a1 a2
theorem GG_add {x y:Int} (j:Nat):GG 1113 [x,y] j = addF [x,y]:=by
 rw [base_at (by decide)]
 have:0 ≤ addF [x,y] ∧ addF [x,y] ≤ 65535:=by simp only [addF]; omega
 exact clamp_id (g:=1113) (n:=addF [x,y]) this.1 this.2
theorem GG_neg {x:Int} (j:Nat):GG 1110 [x] j = negF [x]:=by
 rw [base_at (by decide)]
 have:0 ≤ negF [x] ∧ negF [x] ≤ 65535:=by simp only [negF]; omega
 exact clamp_id (g:=1110) (n:=negF [x]) this.1 this.2
theorem GG_rol {v n:Int} (h0:0 ≤ v) (h1:v ≤ 4294967295) (j:Nat):GG 86 [v,n] j = rolF [v,n]:=by
 rw [base_at (by decide)]
 have h2:rolN v.toNat (rolK n) < 4294967296:=rol_lt (by omega) (by unfold rolK; omega)
 have:0 ≤ rolF [v,n] ∧ rolF [v,n] ≤ 4294967295:=by simp only [rolF]; omega
 exact clamp_id (g:=86) (n:=rolF [v,n]) this.1 this.2
theorem mul_ok {X:Rule} (hX:RuleOK GG X):CallOK Tryz.prog GG (numS X nMul mulF) :=
 numS_ok GG_ok hX (plain_of (v:=fnOf Tryz.f112) rfl) (fun ns h => by
  match ns,h with
  | [a,b],h => simp only [nMul,nfIn,u16s] at h; exact GG_mul h.1 h.2.1 h.2.2.1 h.2.2.2.1 0) fun ns M h => mul_call GG_ok ns M h
theorem add_ok {X:Rule} (hX:RuleOK GG X):CallOK Tryz.prog GG (numS X nAdd addF) :=
 numS_ok GG_ok hX (plain_of (v:=fnOf Tryz.f113) rfl) (fun ns h => by
  match ns,h with
  | [a,b],h => exact GG_add 0) fun ns M h => add_call GG_ok ns M h
theorem neg_ok {X:Rule} (hX:RuleOK GG X):CallOK Tryz.prog GG (numS X nNeg negF) :=
 numS_ok GG_ok hX (plain_of (v:=fnOf Tryz.f110) rfl) (fun ns h => by
  match ns,h with
  | [a],h => exact GG_neg 0) fun ns M h => neg_call GG_ok ns M h
theorem rol_ok {X:Rule} (hX:RuleOK GG X):CallOK Tryz.prog GG (numS X nRol rolF) :=
 numS_ok GG_ok hX (plain_of (v:=fnOf Tryz.f86) rfl) (fun ns h => by
  match ns,h with
  | [a,b],h => simp only [nRol,nfIn] at h; exact GG_rol h.1 h.2.1 0) fun ns M h => rol_call GG_ok ns M h
theorem kw8_in (n:Int):0 ≤ kwrap .u8 n ∧ kwrap .u8 n ≤ 255:=by
 rw [kwrap_eq]; exact wrap_in .u8 n
theorem fmLoop_in (md:Int):∀ (n:Nat) (sum x y:Int),0 ≤ fmLoop md n sum x y ∧ fmLoop md n sum x y ≤ 255
 | 0,sum,_,_ => kw8_in sum
 | n + 1,sum,x,y => by
  rw [fmLoop]
  split
  ·exact kw8_in sum
  ·exact fmLoop_in md n _ _ _
theorem fm_ok {X:Rule} (hX:RuleOK GG X):CallOK Tryz.prog GG (numS X nFm fmF) :=
 numS_ok GG_ok hX (plain_of (v:=fnOf Tryz.f135) rfl) (fun ns h => by
  match ns,h with
  | [a,b,md],h =>
   have:=fmLoop_in md 8 0 (kwrap .i64 a) (kwrap .i64 b)
   show GG 2135 [a,b,md] 0 = _
   rw [base_at (by decide)]
   exact clamp_id (g:=2135) (n:=fmF [a,b,md]) this.1 this.2) fun ns M h => by
  match ns,h with
  | [a,b,md],h =>
   simp only [nFm,nfIn] at h
   exact fm_call GG_ok h.2.2.1 h.2.2.2.1 M
end
end
end Go.Proofs.YthajgdmcjfmjoaaGreatDoor.Rel
