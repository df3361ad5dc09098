/- TopSpoilt, part 2 of 38 of its proof: a relative machine (values, memory, an evaluator, all sound against the model), and by it the walks. Conditions: none. -/
import Derived.Test.YthajgdmcjfmjoaaGreatDoorG01
set_option linter.all false
namespace Go.Proofs.YthajgdmcjfmjoaaGreatDoor.Rel
section
section
variable {P:Program} {G:GF} {X:Rule} {T:Nat → Option Ty} {prot:Pr} {W0 w:World} {φ:Pl} {M M':Mem} {m:Option Mem} {t:TypeId} {d:Ty}
theorem part_sound (h:d.ok P t) {cs:List V} {us:List Value} {off:Nat} {v:V} (hc:concs φ cs = some us) (hv:partV d cs off = some v) :
  ∃ u,v.conc φ = some u ∧ (part t us.toArray off).run P w = .ok u w:=by
 unfold partV at hv
 split at hv
 ·rename_i hrow
  split at hv
  ·rename_i hle
   injection hv with hv
   subst hv
   refine ⟨.agg (((us.drop off).take d.size)).toArray,by simp [V.conc,concs_take (concs_drop hc off) d.size],?_⟩
   simp [part,h.runAgg,hrow,h.runSize]
  ·cases hv
 ·rename_i hrow
  obtain ⟨u,h1,h2⟩:=concs_get hc off v hv
  refine ⟨u,h2,?_⟩
  have hrow':d.kind.row = false:=by simpa using hrow
  simp [part,h.runAgg,hrow',h1]
theorem strs_conc {φ:Pl}:∀ {vs:List V} {ss:List ByteArray},strs vs = some ss → concs φ vs = some (ss.map .string)
 | [],ss,h => by simp only [strs,Option.some.injEq] at h; subst h; simp [concs]
 | v :: vs,ss,h => by
  cases v <;> simp only [strs] at h <;> try (cases h; done)
  simp only [Option.map_eq_some_iff] at h
  obtain ⟨l,h1,rfl⟩:=h
  exact concs_cons.2 ⟨_,_,rfl,strs_conc h1,rfl⟩
theorem num_int {φ:Pl} (k:IntKind) (n:Int):(V.int k n).num φ = some n:=rfl
theorem byte_data {s:ByteArray} {i:Nat} {b:UInt8}:s[i]? = some b ↔ s.data[i]? = some b:=by
 rw [getElem?_def,getElem?_def]
 rfl
theorem bytesI_get {s:ByteArray} {i:Nat} {b:UInt8} (h:s.data[i]? = some b):(bytesI s)[i]? = some (b.toNat:Int):=by
 have:s.data.toList[i]? = some b:=by simpa using h
 simp [bytesI,List.getElem?_map,this]
theorem bytesI_len (s:ByteArray):(bytesI s).length = s.size:=by rw [bytesI,List.length_map]; rfl
theorem flat16:∀ (ss:List ByteArray) (i j:Nat) (s:ByteArray) (b:UInt8),(∀ s ∈ ss,s.size = 16) → ss[i]? = some s → j < 16 → s.data[j]? = some b → (ss.flatMap bytesI)[i * 16 + j]? = some (b.toNat:Int)
 | [],i,j,s,b,_,h,_,_ => by simp at h
 | x :: ss,0,j,s,b,hs,h,hj,hb => by
  simp only [List.getElem?_cons_zero,Option.some.injEq] at h
  subst h
  have hl:(bytesI x).length = 16:=by rw [bytesI_len]; exact hs x (List.mem_cons_self ..)
  rw [List.flatMap_cons,List.getElem?_append_left (by omega)]
  rw [show 0 * 16 + j = j by omega]
  exact bytesI_get hb
 | x :: ss,i + 1,j,s,b,hs,h,hj,hb => by
  have hl:(bytesI x).length = 16:=by rw [bytesI_len]; exact hs x (List.mem_cons_self ..)
  rw [List.flatMap_cons,List.getElem?_append_right (by omega),hl]
  have e:(i + 1) * 16 + j - 16 = i * 16 + j:=by omega
  rw [e]
  exact flat16 ss i j s b (fun s hm => hs s (List.mem_cons_of_mem _ hm)) (by simpa using h) hj hb
theorem index_sound (hG:GOK G) (hX:RuleOK G X) (hT:∀ (t:TypeId) (d:Ty),T t = some d → d.ok P t) (h:d.ok P t) (hM:MR G prot W0 φ M w) {x ix v:V} {ux ui:Value} (hx:x.conc φ = some ux) (hi:ix.conc φ = some ui)
  (hv:indexV X T d M x ix = some (v,m)):Gives G prot W0 φ ((Instr.index t ux ui).run P w) v (m.getD M):=by
 unfold indexV at hv
 split at hv
 ·rename_i n e cs hk
  simp only [Option.bind_eq_some_iff] at hv
  obtain ⟨de,hde,hv⟩:=hv
  have hz:=(hT e de hde).runSize w
  simp only [V.conc,Option.map_eq_some_iff] at hx
  obtain ⟨us,hus,rfl⟩:=hx
  split at hv
  ·rename_i i hii
   simp only [Option.map_eq_some_iff,Prod.mk.injEq] at hv
   obtain ⟨x,hv,rfl,rfl⟩:=hv
   obtain ⟨k,j,rfl,h0,h1,rfl⟩:=idx_int hii hi
   obtain ⟨u,h2,h3⟩:=part_sound (P:=P) (w:=w) (hT e de hde) hus hv
   refine Gives.same hM h2 ?_
   simp only [Instr.index,asIntOf,Sem.run_bind,Sem.run_pure,Result.andThen_ok,run_underlying (kind_array h hk),h0,h1,and_self,if_true,hz,h3]
  ·split at hv
   ·rename_i hs
    simp only [Option.bind_eq_some_iff] at hv
    obtain ⟨i,hii,ss,hss,hv⟩:=hv
    split at hv
    ·rename_i hn
     injection hv with hv; injection hv with hv1 hv2; subst hv1 hv2
     obtain ⟨k,pi,rfl,hpi,h0,h1,_⟩:=ixSym_int hii hi
     have hcs:=strs_conc (φ:=φ) hss
     rw [hcs] at hus
     injection hus with hus; subst hus
     have hlt:pi.2.2.2.toNat < ss.length:=by omega
     have hget:=List.getElem?_eq_getElem hlt
     refine Gives.same hM (u:=.string ss[pi.2.2.2.toNat]) (by simp only [V.conc,hpi,Option.bind_some,h0,if_true,hget,Option.map_some]) ?_
     have hr:=hs.2
     simp only [Instr.index,asIntOf,Sem.run_bind,Sem.run_pure,Result.andThen_ok,run_underlying (kind_array h hk),h0,h1,and_self,if_true,hz,part,(hT e de hde).runAgg,hr,hs.1,Nat.mul_one]
     have hg2:(List.map Value.string ss).toArray[pi.2.2.2.toNat]? = some (.string ss[pi.2.2.2.toNat]):=by simp [hlt]
     simp [hg2]
    ·cases hv
   ·cases hv
 ·rename_i s hk
  simp only [V.conc,Option.some.injEq] at hx
  subst hx
  split at hv
  ·rename_i i hii
   simp only [Option.map_eq_some_iff,Prod.mk.injEq] at hv
   obtain ⟨b,hb,rfl,rfl⟩:=hv
   obtain ⟨k,j,rfl,h0,h1,rfl⟩:=idx_int hii hi
   refine Gives.same hM (u:=.int .u8 b.toNat) rfl ?_
   simp only [Instr.index,asIntOf,Sem.run_bind,Sem.run_pure,Result.andThen_ok,run_underlying (kind_str h hk),h0,if_true,hb]
  ·simp only [Option.bind_eq_some_iff] at hv
   obtain ⟨i,hii,hv⟩:=hv
   obtain ⟨k,pi,rfl,hpi,h0,h1,hnum⟩:=ixSym_int hii hi
   have hlt:pi.2.2.2.toNat < s.data.size:=by have:s.size = s.data.size:=rfl; omega
   have hget:=Array.getElem?_eq_getElem hlt
   refine Gives.int hG hX hM hv (k:=.u8) (n:=(s.data[pi.2.2.2.toNat].toNat:Int)) ?_ ?_
   ·simp only [Def.val,hnum,Option.bind_some,h0,if_true,bytesI_get hget,Option.map_some]
   ·have hb':s[pi.2.2.2.toNat]? = some s.data[pi.2.2.2.toNat]:=byte_data.2 hget
    simp only [Instr.index,asIntOf,Sem.run_bind,Sem.run_pure,Result.andThen_ok,run_underlying (kind_str h hk),h0,if_true,hb']
 ·rename_i ss i hk
  split at hv
  ·rename_i hc
   simp only [Bool.and_eq_true,List.all_eq_true,decide_eq_true_eq] at hc
   obtain ⟨⟨hall,h16⟩,⟨hlo,hhi⟩,hkn⟩:=hc
   simp only [Option.bind_eq_some_iff] at hv
   obtain ⟨⟨a,M1⟩,hm1,⟨b,M2⟩,hm2,hm3⟩:=hv
   simp only [Option.map_eq_some_iff,Prod.mk.injEq] at hm3
   obtain ⟨⟨v',m3⟩,hm3,rfl,rfl⟩:=hm3
   simp only [V.conc,Option.bind_eq_some_iff] at hx
   obtain ⟨q,hq,hx⟩:=hx
   split at hx
   ·rename_i hq0
    simp only [Option.map_eq_some_iff] at hx
    obtain ⟨s,hs,rfl⟩:=hx
    have hqlt:q.2.2.2 < ss.length:=by
     have:=(List.getElem?_eq_some_iff.1 hs).1; omega
    have hss:s.size = 16:=hall s (List.mem_of_getElem? hs)
    have hnum:∃ k j,ui = .int k j ∧ ix.num φ = some j:=by
     cases ix <;> simp only [V.knd,Option.isSome_none,Bool.false_eq_true] at hkn
     ·simp only [V.conc,Option.some.injEq] at hi; subst hi; exact ⟨_,_,rfl,rfl⟩
     ·have hi0:=hi
      simp only [V.conc,Option.bind_eq_some_iff] at hi
      obtain ⟨p,hp,hi⟩:=hi
      split at hi
      ·injection hi with hi
       rw [← hi] at hi0
       exact ⟨_,_,hi.symm,V.conc_num hi0⟩
      ·cases hi
    obtain ⟨k,j,rfl,hj⟩:=hnum
    have hbj:=V.bnd hj
    have hid:=ofId_num (n:=ss.length) hq hq0 hqlt
    obtain ⟨φ1,l1,c1,r1⟩:=mkInt_sound hG hX hM hm1 (k:=.i64) (n:=IntKind.i64.wrap (q.2.2.2 * 16)) (by simp only [Def.val,hid,Option.bind_some,num_int,aint])
    obtain ⟨φ2,l2,c2,r2⟩:=mkInt_sound hG hX r1 hm2 (k:=.i64) (n:=IntKind.i64.wrap (IntKind.i64.wrap (q.2.2.2 * 16) + j)) (by simp only [Def.val,V.conc_num c1,V.num_mono l1 hj,Option.bind_some,aint])
    have hlt:j.toNat < s.data.size:=by have:s.size = s.data.size:=rfl; omega
    have hget:=Array.getElem?_eq_getElem hlt
    have hfl:=flat16 ss q.2.2.2.toNat j.toNat s _ hall hs (by omega) hget
    have hw:IntKind.i64.wrap (IntKind.i64.wrap (q.2.2.2 * 16) + j) = q.2.2.2 * 16 + j:=by
     rw [wrap_add]; exact wrap_id _ _ (by simp only [kmin]; omega) (by simp only [kmax]; omega)
    rw [hw] at c2
    have htn:(q.2.2.2 * 16 + j).toNat = q.2.2.2.toNat * 16 + j.toNat:=by omega
    obtain ⟨φ3,l3,c3,r3⟩:=mkInt_sound hG hX r2 hm3 (k:=.u8) (n:=(s.data[j.toNat].toNat:Int)) (by
     have h16:(0:Int) ≤ q.2.2.2 * 16 + j:=by omega
     simp only [Def.val,V.conc_num c2,Option.bind_some,h16,if_true,htn,hfl,Option.map_some])
    refine ⟨φ3,_,w,?_,Pl.le_trans l1 (Pl.le_trans l2 l3),c3,r3⟩
    have hj0:0 ≤ j:=by omega
    have hb':s[j.toNat]? = some s.data[j.toNat]:=byte_data.2 hget
    simp only [Instr.index,asIntOf,Sem.run_bind,Sem.run_pure,Result.andThen_ok,run_underlying (kind_str h hk),hj0,if_true,hb']
   ·cases hx
  ·cases hv
 ·cases hv
theorem extract_sound {vs:List V} {i:Nat} {v:V} {u:Value} (hu:(V.tup vs).conc φ = some u) (hv:vs[i]? = some v):∃ x,v.conc φ = some x ∧ (Instr.extract u i).run P w = .ok x w:=by
 simp only [V.conc,Option.map_eq_some_iff] at hu
 obtain ⟨us,hus,rfl⟩:=hu
 obtain ⟨x,h1,h2⟩:=concs_get hus i v hv
 exact ⟨x,h2,by simp [Instr.extract,h1]⟩
theorem un_sound (hG:GOK G) (hX:RuleOK G X) (hM:MR G prot W0 φ M w) {op:UnOp} {x v:V} {u:Value} (hu:x.conc φ = some u) (hv:unV X M op x = some (v,m)):Gives G prot W0 φ ((Op.unary op u).run P w) v (m.getD M):=by
 cases x <;> simp only [unV] at hv <;> try (cases hv; done)
 case bool b =>
  simp only [V.conc,Option.some.injEq] at hu
  subst hu
  cases op <;> simp only [] at hv <;> first
   | (cases hv; done)
   | (injection hv with hv; injection hv with h1 h2; subst h1 h2; exact Gives.same hM rfl (by simp [Op.unary]))
 case int k n =>
  simp only [V.conc,Option.some.injEq] at hu
  subst hu
  cases op <;> simp only [] at hv <;> first
   | (cases hv; done)
   | (injection hv with hv; injection hv with h1 h2; subst h1 h2; exact Gives.same hM rfl (by simp [Op.unary,Op.intArith,kwrap_eq]))
 case sym k i lo hi =>
  have hu0:=hu
  simp only [V.conc,Option.bind_eq_some_iff] at hu
  obtain ⟨p,hp,hu⟩:=hu
  split at hu
  ·injection hu with hu
   subst hu
   cases op <;> simp only [] at hv <;> first
    | (cases hv; done)
    | exact Gives.int hG hX hM hv (k:=k) (n:=k.wrap (0 - p.2.2.2)) (by simp only [Def.val,V.conc_num hu0,Option.bind_some,num_int,aint]) (by simp [Op.unary,Op.intArith])
  ·cases hu
theorem len_sound (h:d.ok P t) {x v:V} {u:Value} {ty:TypeId} (hu:x.conc φ = some u) (hv:lenV d x = some v):∃ y,v.conc φ = some y ∧ (Builtin.len_ #[t] ty #[u]).run P w = .ok y w:=by
 cases x <;> simp only [lenV] at hv <;> try (cases hv; done)
 all_goals
  split at hv <;> try (cases hv; done)
  rename_i hk
  injection hv with hv
  subst hv
  simp only [V.conc,Option.some.injEq,Option.map_eq_some_iff] at hu
 ·obtain rfl:=hu
  exact ⟨_,rfl,by simp [Builtin.len_,run_underlying (kind_str h hk),goInt]⟩
 ·obtain ⟨p,hp,rfl⟩:=hu
  exact ⟨_,rfl,by simp [Builtin.len_,run_underlying (kind_slice h hk),goInt]⟩
 ·obtain rfl:=hu
  exact ⟨_,rfl,by simp [Builtin.len_,run_underlying (kind_slice h hk),goInt]⟩
 ·obtain ⟨p,hp,rfl⟩:=hu
  refine ⟨_,rfl,?_⟩
  split <;> simp [Builtin.len_,run_underlying (kind_slice h hk),goInt]
theorem cap_sound (h:d.ok P t) {x v:V} {u:Value} {ty:TypeId} (hu:x.conc φ = some u) (hv:capV d x = some v):∃ y,v.conc φ = some y ∧ (Builtin.cap_ #[t] ty #[u]).run P w = .ok y w:=by
 unfold capV at hv
 split at hv <;> try (cases hv; done)
 all_goals
  split at hv <;> try (cases hv; done)
  rename_i hk
  injection hv with hv
  subst hv
  simp only [V.conc,Option.some.injEq,Option.map_eq_some_iff] at hu
 ·obtain rfl:=hu
  exact ⟨_,rfl,by simp [Builtin.cap_,run_underlying (kind_slice h hk),goInt]⟩
 ·obtain ⟨p,hp,rfl⟩:=hu
  exact ⟨_,rfl,by simp [Builtin.cap_,run_underlying (kind_slice h hk),goInt]⟩
end
end
section
section
variable {P:Program} {G:GF} {X:Rule} {T:Nat → Option Ty} {prot:Pr} {W0 w:World} {φ:Pl} {M:Mem} {t:TypeId} {d:Ty}
theorem elem1_spec (hT:∀ (t:TypeId) (d:Ty),T t = some d → d.ok P t) (h:d.ok P t) {z:V × Nat} (he:elem1 T d = some z) :
  ∃ e de,P.underlying t = some (.slice e) ∧ T e = some de ∧ de.ok P e ∧ de.size = 1 ∧ de.bytes = z.2 ∧ de.zero = [z.1] ∧
   ∃ i u x,P.info? e = some i ∧ i.size = 1 ∧ i.bytes = z.2 ∧ i.zero = some x ∧ x.cells = #[u] ∧ z.1.conc .no = some u:=by
 unfold elem1 at he
 split at he
 ·rename_i e hk
  simp only [Option.bind_eq_some_iff] at he
  obtain ⟨de,hde,he⟩:=he
  split at he
  ·rename_i z0 hz
   split at he
   ·rename_i hs
    injection he with he
    subst he
    have hok:=hT e de hde
    obtain ⟨i,x,us,h1,h2,h3,h4,h5,h6,h7⟩:=hok.info
    rw [hz] at h6
    obtain ⟨u,us',h8,h9,rfl⟩:=concs_cons.1 h6
    simp only [concs,Option.some.injEq] at h9
    subst h9
    refine ⟨e,de,kind_slice h hk,hde,hok,hs,rfl,hz,i,u,x,h1,h2.trans hs,h3,h4,?_,h8⟩
    exact Array.ext' h5
   ·cases he
  ·cases he
 ·cases he
theorem concs_replicate {v:V} {u:Value} (h:v.conc φ = some u):∀ n,concs φ (List.replicate n v) = some (List.replicate n u)
 | 0 => by simp [concs]
 | n + 1 => concs_cons.2 ⟨u,List.replicate n u,h,concs_replicate h n,rfl⟩
theorem zeros_one {u:Value} (n:Nat):((Array.range n).map ((#[u]:Array Value)[· % (#[u]:Array Value).size]!)).toList = List.replicate n u:=by
 apply List.ext_getElem
 ·simp
 ·intro i h1 h2
  simp [Nat.mod_one]
theorem wrap_small {c:Int} (h0:0 ≤ c) (h1:c < 9223372036854775808):IntKind.i64.wrap c = c:=by
 have h2:c % 18446744073709551616 = c:=Int.emod_eq_of_lt h0 (by omega)
 have e1:(2:Int) ^ 64 = 18446744073709551616:=by decide
 have e2:(2:Int) ^ 63 = 9223372036854775808:=by decide
 simp only [IntKind.wrap,IntKind.bits,IntKind.signed,Nat.reduceSub,e1,e2,h2]
 rw [if_neg]
 simp; omega
theorem make_sound (hT:∀ (t:TypeId) (d:Ty),T t = some d → d.ok P t) (h:d.ok P t) (hM:MR G prot W0 φ M w) {l c:V} {ul uc:Value} {r:R} (hl:l.conc φ = some ul) (hc:c.conc φ = some uc)
  (hv:makeV T d M l c = some r):∃ v M',r = .val v M' ∧ Gives G prot W0 φ ((Instr.makeSlice t ul uc).run P w) v M':=by
 unfold makeV at hv
 simp only [Option.bind_eq_some_iff] at hv
 obtain ⟨z,hz,hv⟩:=hv
 obtain ⟨e,de,h1,h2,h3,h4,h5,h6,i,u,x,h7,h8,h9,h10,h11,h12⟩:=elem1_spec hT h hz
 split at hv
 ·rename_i k a k' b
  split at hv
  ·rename_i hh
   injection hv with hv
   subst hv
   simp only [V.conc,Option.some.injEq] at hl hc
   subst hl hc
   obtain ⟨g0,g1,g2,g3⟩:=hh
   have w1:=wrap_small g0 (by omega)
   have w2:IntKind.i64.wrap b = b:=wrap_small (by omega) (by omega)
   have hcon:=concs_replicate (V.conc_mono (Pl.no_le φ) _ h12) b.toNat
   obtain ⟨q1,q2⟩:=newRow_sound (P:=P) hM ((Array.range (b.toNat * 1)).map (x.cells[· % x.cells.size]!)) e 0 0 hcon (by rw [h11,zeros_one,Nat.mul_one]; exact List.prefix_refl _) (by simp)
   refine ⟨_,_,rfl,_,.slice (some ⟨w.heap.size,0,none⟩) a.toNat b.toNat,_,?_,hM.le _,conc_sl 0 _ _ (Pl.put_self _ _ _),q2⟩
   have t1:¬ (281474976710656 < (z.2:Int) * b):=by rw [Int.mul_comm]; omega
   have t2:¬ b < 0:=by omega
   have t3:¬ a < 0:=by omega
   have t4:¬ b < a:=by omega
   simp [Instr.makeSlice,run_underlying h1,asInt,asIntOf,typeInfo,sizeOf,zeroValue,h7,h8,h9,h10,w1,w2,t1,t2,t3,t4]
   simp only [Nat.mul_one] at q1 ⊢
   by_cases hb:b ≤ 0
   ·have hb0:b.toNat = 0:=by omega
    rw [if_pos hb]
    rw [hb0] at q1 ⊢
    have ea:∀ f:Nat → Value,(Array.range 0).map f = #[]:=fun f => by apply Array.ext'; simp
    rw [ea] at q1
    rw [ea,ea,q1]
    rfl
   ·rw [if_neg hb]
    simp [q1]
  ·cases hv
 ·cases hv
end
end
section
section
variable {P:Program} {G:GF} {X:Rule} {T:Nat → Option Ty} {prot:Pr} {W0 w:World} {φ:Pl} {M:Mem} {t:TypeId} {d:Ty}
theorem bound_sound {n:Nat} {v:V} {i:Nat} {u:Value} (h:idxLe n v = some i) (hu:v.conc φ = some u) (c:BoundsCode) (w:World) :
  (Instr.sliceBound u n c).run P w = .ok i w ∧ i ≤ n:=by
 rw [idxLe_eq] at h
 cases v <;> simp only [] at h <;> try (cases h; done)
 rename_i k j
 split at h
 ·rename_i hh
  injection h with h
  simp only [V.conc,Option.some.injEq] at hu
  subst hu h
  refine ⟨?_,by omega⟩
  simp [Instr.sliceBound,asIntOf,hh.1,hh.2]
 ·cases h
def OptC (φ:Pl):Option V → Option Value → Prop
 | none,none => True
 | some v,some u => v.conc φ = some u
 | _,_ => False
theorem bounds_sound {len c:Nat} {lo hi mx:Option V} {lo' hi' mx':Option Value} (h1:OptC φ lo lo') (h2:OptC φ hi hi') (h3:OptC φ mx mx') {l h m:Nat} (w:World)
  (e3:mB c mx hi = some m)
  (e2:uB len m hi = some h)
  (e1:uB 0 h lo = some l) :
  (Instr.sliceBounds true len c lo' hi' mx').run P w = .ok (l,h,m) w:=by
 cases mx <;> cases mx' <;> simp only [OptC] at h3 <;> cases hi <;> cases hi' <;> simp only [OptC] at h2 <;> cases lo <;> cases lo' <;> simp only [OptC] at h1 <;> simp only [mB,uB,Option.some.injEq] at e1 e2 e3 <;> try (cases e3; done)
 ·subst e1 e2 e3; simp [Instr.sliceBounds]
 ·subst e2 e3
  have b1:=(bound_sound (P:=P) e1 h1 .sliceB w).1
  simp [Instr.sliceBounds,b1]
 ·subst e1 e3
  have b2:=(bound_sound (P:=P) e2 h2 .sliceAcap w).1
  simp [Instr.sliceBounds,b2]
 ·subst e3
  have b1:=(bound_sound (P:=P) e1 h1 .sliceB w).1
  have b2:=(bound_sound (P:=P) e2 h2 .sliceAcap w).1
  simp [Instr.sliceBounds,b1,b2]
 ·subst e1
  have b2:=(bound_sound (P:=P) e2 h2 .slice3B w).1
  have b3:=(bound_sound (P:=P) e3 h3 .slice3Acap w).1
  simp [Instr.sliceBounds,b2,b3]
 ·have b1:=(bound_sound (P:=P) e1 h1 .slice3C w).1
  have b2:=(bound_sound (P:=P) e2 h2 .slice3B w).1
  have b3:=(bound_sound (P:=P) e3 h3 .slice3Acap w).1
  simp [Instr.sliceBounds,b1,b2,b3]
theorem MR.room (hM:MR G prot W0 φ M w) {b:Nat} {p:Place} (hp:φ b = some p):known M b ≤ p.2.2.1:=by
 unfold known
 split
 ·rename_i cs hb
  obtain ⟨q,us,cur,e,h0,_,h1,_,h3,h4⟩:=hM.own b cs 1 hb
  obtain rfl:q = p:=Option.some.inj (h0.symm.trans hp)
  have:=concs_length h1
  have:=h3.length_le
  have:=h4 (by decide)
  simp at *
  omega
 ·rename_i cs hb
  obtain ⟨q,us,cur,e,fr,h0,_,_,_,h4⟩:=hM.ro b cs hb
  obtain rfl:q = p:=Option.some.inj (h0.symm.trans hp)
  exact h4
 ·exact Nat.zero_le _
theorem idxLe_mono {n n':Nat} {v:V} {i:Nat} (h:idxLe n v = some i) (hn:n ≤ n'):idxLe n' v = some i:=by
 rw [idxLe_eq] at h ⊢
 cases v <;> simp only [] at h ⊢ <;> try (cases h; done)
 split at h
 ·rename_i hh
  rw [if_pos ⟨hh.1,by omega⟩]; exact h
 ·cases h
theorem uB_mono {d n n':Nat} {x:Option V} {i:Nat} (h:uB d n x = some i) (hn:n ≤ n'):uB d n' x = some i:=by
 cases x with
 | none => exact h
 | some v => exact idxLe_mono h hn
theorem cut_sound (hT:∀ (t:TypeId) (d:Ty),T t = some d → d.ok P t) (h:d.ok P t) (hM:MR G prot W0 φ M w) {x v:V} {ux:Value} {lo hi mx:Option V} {lo' hi' mx':Option Value} (hx:x.conc φ = some ux)
  (h1:OptC φ lo lo') (h2:OptC φ hi hi') (h3:OptC φ mx mx') (hv:sliceV T d M x lo hi mx = some v):∃ u,v.conc φ = some u ∧ (Instr.sliceAt t ux lo' hi' mx').run P w = .ok u w:=by
 unfold sliceV at hv
 split at hv
 ·rename_i e hk
  simp only [Option.bind_eq_some_iff] at hv
  obtain ⟨de,hde,hv⟩:=hv
  have hu:=kind_slice h hk
  split at hv
  ·cases hv
  ·rename_i hs1
   have hs1:de.size = 1:=by simpa using hs1
   have hz:=(hT e de hde).runSize w
   split at hv
   ·simp only [Option.bind_eq_some_iff] at hv
    obtain ⟨m,e3,hh,e2,l,e1,hv⟩:=hv
    split at hv
    ·rename_i hml
     injection hv with hv
     subst hv
     obtain ⟨rfl,rfl⟩:=hml
     simp only [V.conc,Option.some.injEq] at hx
     subst hx
     have hb:=bounds_sound (P:=P) h1 h2 h3 w e3 e2 e1
     refine ⟨_,rfl,?_⟩
     simp only [Instr.sliceAt,Instr.slice,Sem.run_bind,run_underlying hu,Result.andThen_ok,hb,hz,if_true,Sem.run_pure,Nat.sub_self]
    ·cases hv
   ·rename_i b o len c
    simp only [Option.bind_eq_some_iff] at hv
    obtain ⟨m,e3,hh,e2,l,e1,hv⟩:=hv
    simp only [V.conc,Option.map_eq_some_iff] at hx
    obtain ⟨p,hp,rfl⟩:=hx
    have hb:=bounds_sound (P:=P) h1 h2 h3 w e3 e2 e1
    split at hv
    ·rename_i hml
     injection hv with hv
     subst hv
     refine ⟨_,conc_sl _ _ _ hp,?_⟩
     simp only [Instr.sliceAt,Instr.slice,Sem.run_bind,run_underlying hu,Result.andThen_ok,Option.getD_some,hb,hz,hml,if_true,Sem.run_pure]
    ·rename_i hml
     injection hv with hv
     subst hv
     refine ⟨_,conc_sl _ _ _ hp,?_⟩
     simp only [Instr.sliceAt,Instr.slice,Sem.run_bind,run_underlying hu,Result.andThen_ok,Option.getD_some,hb,hz,hml,if_false,Sem.run_pure,Option.map_some,add_mid,hs1,Nat.mul_one,Nat.add_assoc]
   ·rename_i b o len
    cases mx with
    | some mv =>
     cases hi with
     | none => cases hv
     | some hv' =>
      simp only [Option.bind_eq_some_iff] at hv
      obtain ⟨m,e3,hh,e2,l,e1,hv⟩:=hv
      simp only [V.conc,Option.map_eq_some_iff] at hx
      obtain ⟨p,hp,rfl⟩:=hx
      have hr:=hM.room hp
      have e3':mB (p.2.2.1 - o) (some mv) (some hv') = some m:=idxLe_mono e3 (by omega)
      have hb:=bounds_sound (P:=P) h1 h2 h3 w e3' e2 e1
      split at hv
      ·rename_i hml
       injection hv with hv
       subst hv
       refine ⟨_,conc_sl _ _ _ hp,?_⟩
       simp only [Instr.sliceAt,Instr.slice,Sem.run_bind,run_underlying hu,Result.andThen_ok,Option.getD_some,Option.getD_none,hb,hz,hml,if_true,Sem.run_pure]
      ·rename_i hml
       injection hv with hv
       subst hv
       refine ⟨_,conc_sl _ _ _ hp,?_⟩
       simp only [Instr.sliceAt,Instr.slice,Sem.run_bind,run_underlying hu,Result.andThen_ok,Option.getD_some,Option.getD_none,hb,hz,hml,if_false,Sem.run_pure,Option.map_some,add_mid,hs1,Nat.mul_one,Nat.add_assoc]
    | none =>
     simp only [Option.bind_eq_some_iff] at hv
     obtain ⟨hh,e2,l,e1,hv⟩:=hv
     simp only [V.conc,Option.map_eq_some_iff] at hx
     obtain ⟨p,hp,rfl⟩:=hx
     have hr:=hM.room hp
     have hb:=bounds_sound (P:=P) (c:=p.2.2.1 - o) (m:=p.2.2.1 - o) h1 h2 h3 w rfl (uB_mono e2 (by omega)) e1
     split at hv
     ·rename_i hlo
      injection hv with hv
      subst hv
      refine ⟨_,conc_sl _ _ _ hp,?_⟩
      simp only [Instr.sliceAt,Instr.slice,Sem.run_bind,run_underlying hu,Result.andThen_ok,Option.getD_none,hb,hz,Sem.run_pure,Option.map_some,add_mid,hs1,Nat.mul_one,Nat.add_assoc]
      split
      ·rename_i hml
       have:l = 0:=by omega
       subst this
       simp
      ·congr 2
       omega
     ·split at hv
      ·rename_i hhl
       injection hv with hv
       subst hv
       refine ⟨_,by simp only [V.conc,hp,Option.map_some]; rfl,?_⟩
       simp only [Instr.sliceAt,Instr.slice,Sem.run_bind,run_underlying hu,Result.andThen_ok,Option.getD_none,hb,hz,Sem.run_pure,Option.map_some,add_mid,hs1,Nat.mul_one,Nat.add_assoc,hhl,Nat.sub_self]
       split
       ·rename_i hc
        rw [hc,Nat.sub_self]
       ·rfl
      ·cases hv
   ·cases hv
 ·cases hv
end
end
end Go.Proofs.YthajgdmcjfmjoaaGreatDoor.Rel
