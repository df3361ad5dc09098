/- TopSpoilt, part 4 of 38 of its proof: a relative machine (values, memory, an evaluator, all sound against the model), and by it the walks. Conditions: none. -/
import Derived.Laws.AppendOwn
import Derived.Test.YthajgdmcjfmjoaaGreatDoorG03
set_option linter.all false
namespace Go.Proofs.YthajgdmcjfmjoaaGreatDoor.Rel
section
variable {P:Program} {G:GF} {X:Rule} {T:Nat → Option Ty} {prot:Pr} {W0 w:World} {φ:Pl} {M M':Mem} {t u ty e:TypeId} {d:Ty}
structure Src (P:Program) (w:World) (u:TypeId) (i:TypeInfo) (zu:Value) (x:Value) (news:List Value):Prop where
 go:((∃ e',P.underlying u = some (.slice e')) ∧ (Builtin.lenOf x).run P w = .ok news.length w ∧ (Builtin.firstCells 1 news.length x).run P w = .ok news.toArray w ∧ (Builtin.firstCells 1 news.length x).run P w.drew = .ok news.toArray w.drew) ∨
  ((∃ k,P.underlying u = some (.int k)) ∧ ∃ k':IntKind,x = .int k' (news.length:Int) ∧ news.length * i.bytes ≤ 281474976710656 ∧ news.length < 2 ^ 62 ∧ news = List.replicate news.length zu)
theorem zeros_list {z:Value} {zu:Value} (hz:z.cells = #[zu]) (n:Nat):Builtin.zeroCells z.cells n = (List.replicate n zu).toArray:=by
 apply Array.ext'
 simp only [Builtin.zeroCells,hz]
 have:=zeros_one (u:=zu) n
 simpa using this
theorem run_append_fit {i:TypeInfo} {z zu:Value} (ht:P.underlying t = some (.slice e)) (hi:P.info? e = some i) (hz:i.zero = some z) (hs:i.size = 1) (hzu:z.cells = #[zu])
  {x:Value} {news:List Value} (hx:Src P w u i zu x news) (base:Option Addr) (len cap:Nat) (hfit:len + news.length ≤ cap) {w':World}
  (hst:∀ a,base = some a → (storeCells (a.add len) news).run P w = .ok () w') (hno:base = none → w' = w) :
  (Builtin.append_ #[t,u] ty #[.slice base len cap,x]).run P w = .ok (.slice base (len + news.length) cap) w':=by
 have hzs:=zeros_list hzu
 rcases hx.go with ⟨⟨e',hu⟩,h2,h3,_⟩ | ⟨⟨k,h1⟩,k',rfl,h2,h3,h4⟩
 ·cases base with
  | none =>
   obtain rfl:=hno rfl
   simp [Builtin.append_,run_underlying ht,run_underlying hu,sizeOf,typeInfo,hi,hs,h2,hfit,h3]
  | some a =>
   have:=hst a rfl
   simp [Builtin.append_,run_underlying ht,run_underlying hu,sizeOf,typeInfo,hi,hs,h2,hfit,h3,this]
 ·have hw:=wrap_small (c:=(news.length:Int)) (by omega) (by omega)
  have hb:¬ ((news.length:Int) * (i.bytes:Int) > 281474976710656):=by
   have:(news.length:Int) * (i.bytes:Int) = ((news.length * i.bytes:Nat):Int):=by simp
   omega
  have hneg:¬ ((news.length:Int) < 0):=by omega
  cases base with
  | none =>
   obtain rfl:=hno rfl
   simp [Builtin.append_,run_underlying ht,run_underlying h1,sizeOf,typeInfo,zeroValue,hi,hz,asInt,asIntOf,hw,hb,hfit]
   omega
  | some a =>
   have:=hst a rfl
   by_cases hn:news = []
   ·subst hn
    simp [storeCells] at this
    subst this
    simp at hfit hw
    simp [Builtin.append_,run_underlying ht,run_underlying h1,sizeOf,typeInfo,hi,asInt,asIntOf,hw,hfit,storeCells]
   ·simp [Builtin.append_,run_underlying ht,run_underlying h1,sizeOf,typeInfo,zeroValue,hi,hs,hz,asInt,asIntOf,hw,hb,hfit,hn,hzs,← h4,this]
    omega
theorem run_append_new {i:TypeInfo} {z zu:Value} (ht:P.underlying t = some (.slice e)) (hi:P.info? e = some i) (hz:i.zero = some z) (hs:i.size = 1) (hzu:z.cells = #[zu]) (hby:0 < i.bytes)
  {x:Value} {news olds:List Value} (hx:Src P w u i zu x news) (base:Option Addr) (cap:Nat) (hgr:cap < olds.length + news.length)
  (hold:∀ cap,(Builtin.firstCells 1 olds.length (.slice base olds.length cap)).run P w.drew = .ok olds.toArray w.drew) (hf:(olds.length + news.length) * i.bytes ≤ 140737488355328) (hn:news ≠ []) :
  ∃ C,olds.length + news.length ≤ C ∧ (Builtin.append_ #[t,u] ty #[.slice base olds.length cap,x]).run P w =
   .ok (.slice (some ⟨w.heap.size,0,none⟩) (olds.length + news.length) C) (w.drew.alloc (.cells (olds ++ news ++ List.replicate (C - (olds.length + news.length)) zu).toArray e)):=by
 refine ⟨grownCap w (olds.length + news.length) cap e,grownCap_ge w _ _ _,?_⟩
 have hzs:=zeros_list hzu
 have hle:olds.length + news.length ≤ 140737488355328:=Nat.le_trans (Nat.le_mul_of_pos_right _ hby) hf
 have h48:=growslice_fits hgr hf
 have hnot:¬ (olds.length + news.length ≤ cap):=by omega
 have h63:¬ (9223372036854775807 < ((olds.length:Int) + (news.length:Int))):=by omega
 have h48':¬ (281474976710656 < Builtin.nextslicecap (olds.length + news.length) cap * i.bytes):=by omega
 rcases hx.go with ⟨⟨e',hu⟩,h2,_,h3⟩ | ⟨⟨k,h1⟩,k',rfl,h2,h3,h4⟩
 ·simp [Builtin.append_,run_underlying ht,run_underlying hu,sizeOf,typeInfo,zeroValue,hi,hs,hz,h2,hnot,h63,h48',Question.forced,hold,h3,hzs,newRow,grownCap]
  congr 2
  apply Array.ext'
  simp
 ·have hw:=wrap_small (c:=(news.length:Int)) (by omega) (by omega)
  have hb:¬ ((news.length:Int) * (i.bytes:Int) > 281474976710656):=by
   have:(news.length:Int) * (i.bytes:Int) = ((news.length * i.bytes:Nat):Int):=by simp
   omega
  simp [Builtin.append_,run_underlying ht,run_underlying h1,sizeOf,typeInfo,zeroValue,hi,hs,hz,asInt,asIntOf,hw,hb,hnot,h63,h48',hn,Question.forced,hold,hzs,← h4,newRow,grownCap]
  rw [if_neg (by omega)]
  congr 2
  congr 1
  apply Array.ext'
  simp
theorem elem1_zero (hT:∀ (t:TypeId) (d:Ty),T t = some d → d.ok P t) (h:d.ok P t) {z:V × Nat} (he:elem1 T d = some z) :
  ∃ e i zv zu,P.underlying t = some (.slice e) ∧ P.info? e = some i ∧ i.size = 1 ∧ i.bytes = z.2 ∧ i.zero = some zv ∧ zv.cells = #[zu] ∧ ∀ φ:Pl,z.1.conc φ = some zu:=by
 obtain ⟨e,de,h1,h2,h3,h4,h5,h6,i,u,x,h7,h8,h9,h10,h11,h12⟩:=elem1_spec hT h he
 exact ⟨e,i,x,u,h1,h7,h8,h9,h10,h11,fun φ => V.conc_mono (Pl.no_le φ) _ h12⟩
theorem firsts {a:Addr} {us:List Value} (len cap:Nat) (w:World) (hl:us.length = len) (hc:∀ (j:Nat) (u:Value),us[j]? = some u → w.cell? ⟨a.block,a.off + j,none⟩ = some u) (ha:a.spot = none) :
  (Builtin.firstCells 1 len (.slice (some a) len cap)).run P w = .ok us.toArray w:=by
 refine run_firstCells_some (P:=P) w 1 len a len cap us (by omega) fun j u hu => ?_
 have:=hc j u hu
 obtain ⟨g,o,sp⟩:=a
 simp only at ha; subst ha
 rw [add_mid]; exact this
theorem append_sound (hT:∀ (t:TypeId) (d:Ty),T t = some d → d.ok P t) (h:d.ok P t) (hM:MR G prot W0 φ M w) {z:V × Nat} (he:elem1 T d = some z) {s:V} {us x:Value} {vs:List V} {news:List Value}
  (hs:s.conc φ = some us) (hvs:concs φ vs = some news) (hsrc:∀ (i:TypeInfo) (zu:Value),(∀ e,P.underlying t = some (.slice e) → P.info? e = some i) → i.bytes = z.2 → z.1.conc φ = some zu → Src P w u i zu x news) {r:R}
  (hv:appendV M z s vs = some r):∃ v M',r = .val v M' ∧ Gives G prot W0 φ ((Builtin.append_ #[t,u] ty #[us,x]).run P w) v M':=by
 obtain ⟨e,i,zv,zu,ht,hi,hsz,hby,hz,hzu,hzc⟩:=elem1_zero hT h he
 have hx:=hsrc i zu (fun e' he' => by rw [ht] at he'; injection he' with he'; injection he' with he'; subst he'; exact hi) hby (hzc φ)
 have hlen:=concs_length hvs
 have hvn:vs.length = 0 → news = []:=fun h => List.eq_nil_of_length_eq_zero (by omega)
 have alloc:∀ (olds:List Value) (ov:List V) (C cap:Nat) {M1:Mem} {run:Result Value},MR G prot W0 φ M1 w → M1.length = M.length → concs φ ov = some olds → olds.length + news.length ≤ C →
   run = .ok (.slice (some ⟨w.heap.size,0,none⟩) (olds.length + news.length) C) (w.drew.alloc (.cells (olds ++ news ++ List.replicate (C - (olds.length + news.length)) zu).toArray e)) →
   Gives G prot W0 φ run (.sl M.length 0 (ov.length + vs.length) none) (M1 ++ [.own (ov ++ vs) 1]):=by
  intro olds ov C cap M1 run hM1 hl1 ho hC hr
  have h1:=hM1.drew.alloc e C 1 (concs_append ho hvs) (cur:=(olds ++ news ++ List.replicate (C - (olds.length + news.length)) zu).toArray) (List.prefix_append _ _) (fun _ => by simp; omega)
  have hol:=concs_length ho
  rw [hl1] at h1
  refine ⟨_,.slice (some ⟨w.heap.size,0,none⟩) (olds.length + news.length) C,_,hr,hM.le _,?_,h1⟩
  have:=conc_sl (φ:=φ.put M.length (w.drew.heap.size,0,C,0)) (b:=M.length) 0 (ov.length + vs.length) none (Pl.put_self _ _ _)
  rw [this]
  simp [hol,hlen]
 unfold appendV at hv
 split at hv
 ·simp only [V.conc,Option.some.injEq] at hs
  subst hs
  split at hv
  ·rename_i h0
   injection hv with hv; subst hv
   have hn:=hvn h0
   subst hn
   refine ⟨_,_,rfl,Gives.same hM rfl ?_⟩
   have:=run_append_fit (ty:=ty) ht hi hz hsz hzu hx none 0 0 (by simp) (w':=w) (fun a ha => by cases ha) (fun _ => rfl)
   simpa using this
  ·rename_i h0
   split at hv
   ·rename_i hf
    injection hv with hv; subst hv
    have hne:news ≠ []:=by intro e; subst e; simp at hlen; omega
    obtain ⟨C,hC,hr⟩:=run_append_new (ty:=ty) (olds:=[]) ht hi hz hsz hzu (by omega) hx none 0 (by simp; exact List.length_pos_iff.2 hne) (fun cap => by simp [Builtin.firstCells]) (by rw [hby,hlen]; simpa using hf.1) hne
    have:=alloc [] [] C 0 hM rfl (by simp [concs]) hC hr
    simp only [List.length_nil,Nat.zero_add,List.nil_append] at this
    exact ⟨_,_,rfl,this⟩
   ·cases hv
 ·rename_i b o len c
  simp only [V.conc,Option.map_eq_some_iff] at hs
  obtain ⟨p,hp,rfl⟩:=hs
  split at hv
  ·rename_i hfit
   split at hv
   ·rename_i h0
    injection hv with hv; subst hv
    have hn:=hvn h0
    subst hn
    refine ⟨_,_,rfl,Gives.same hM (conc_sl o len (some c) hp) ?_⟩
    have:=run_append_fit (ty:=ty) ht hi hz hsz hzu hx (some ⟨p.1,p.2.1 + o,none⟩) len c (by simp; omega) (w':=w) (fun a ha => by simp [storeCells]) (fun h => by cases h)
    simpa using this
   ·simp only [Option.map_eq_some_iff] at hv
    obtain ⟨M',hw,rfl⟩:=hv
    obtain ⟨p',w',hp',h1,h2⟩:=hM.write (P:=P) hw hvs
    obtain rfl:p' = p:=Option.some.inj (hp'.symm.trans hp)
    refine ⟨_,_,rfl,φ,_,w',?_,Pl.le_refl _,conc_sl o (len + vs.length) (some c) hp,h2⟩
    have:=run_append_fit (ty:=ty) ht hi hz hsz hzu hx (some ⟨p'.1,p'.2.1 + o,none⟩) len c (by omega) (w':=w') (fun a ha => by injection ha with ha; subst ha; rw [add_mid,Nat.add_assoc]; exact h1) (fun h => by cases h)
    rw [hlen] at this
    exact this
  ·split at hv
   ·rename_i hnf hf
    simp only [Option.map_eq_some_iff] at hv
    obtain ⟨ov,hr,rfl⟩:=hv
    obtain ⟨p',olds,hp',h1,h2,h3⟩:=hM.read hr
    obtain rfl:p' = p:=Option.some.inj (hp'.symm.trans hp)
    have hne:news ≠ []:=by intro e; subst e; simp at hlen; omega
    have hol:=concs_length h1
    obtain ⟨C,hC,hr2⟩:=run_append_new (ty:=ty) (olds:=olds) ht hi hz hsz hzu (by omega) hx (some ⟨p'.1,p'.2.1 + o,none⟩) c (by omega)
     (fun cap => firsts (P:=P) olds.length cap w.drew rfl (fun j u hu => h3 j u hu) rfl) (by rw [hby,hlen,h2]; exact hf.1) hne
    have:=alloc olds ov C 0 hM rfl h1 hC hr2
    rw [hol.symm.trans h2,h2] at this
    exact ⟨_,_,rfl,this⟩
   ·cases hv
 ·rename_i b o len
  simp only [V.conc,Option.map_eq_some_iff] at hs
  obtain ⟨p,hp,rfl⟩:=hs
  have hroom:=hM.room hp
  split at hv
  ·rename_i h0
   split at hv
   ·rename_i hk
    injection hv with hv; subst hv
    have hn:=hvn h0
    subst hn
    refine ⟨_,_,rfl,Gives.same hM (conc_sl o len none hp) ?_⟩
    have:=run_append_fit (ty:=ty) ht hi hz hsz hzu hx (some ⟨p.1,p.2.1 + o,none⟩) len (p.2.2.1 - o) (by simp; omega) (w':=w) (fun a ha => by simp [storeCells]) (fun h => by cases h)
    simpa using this
   ·cases hv
  ·rename_i h0
   split at hv
   ·rename_i hf
    split at hv
    ·rename_i cs hb
     split at hv
     ·rename_i hcs
      injection hv with hv; subst hv
      have hne:news ≠ []:=by intro e; subst e; simp at hlen; omega
      obtain ⟨p',xs,cur,e',hp',hnp,h1,hrow,h3,h4⟩:=hM.own b cs 1 hb
      have hrow2:=hrow
      obtain ⟨fz,h2,hfz⟩:=hrow
      obtain rfl:p' = p:=Option.some.inj (hp'.symm.trans hp)
      have hsize:=h4 (by decide)
      have hkn:known M b = cs.length:=by simp [known,hb]
      rw [hkn] at hroom
      have hxl:=concs_length h1
      have hcut:concs φ ((cs.drop o).take len) = some ((xs.drop o).take len):=concs_take (concs_drop h1 o) len
      have hcl:((xs.drop o).take len).length = len:=by simp; omega
      have hcl':((cs.drop o).take len).length = len:=by simp; omega
      have hcells:∀ (j:Nat) (u:Value),((xs.drop o).take len)[j]? = some u → w.cell? ⟨p'.1,p'.2.1 + o + j,none⟩ = some u:=by
       intro j u hu
       rw [cell_of_row w p'.1 _ cur e' _ h2]
       rw [List.getElem?_take] at hu
       split at hu
       ·rw [List.getElem?_drop] at hu
        have:=prefix_get h3 hu
        simpa [List.getElem?_drop,Nat.add_assoc] using this
       ·cases hu
      by_cases hin:len + news.length ≤ p'.2.2.1 - o
      ·have hpre:(xs.drop o).take len <+: cur.toList.drop (p'.2.1 + o):=by
        obtain ⟨tl,ht'⟩:=h3
        rw [← List.drop_drop,← ht',List.drop_append_of_le_length (by omega)]
        exact List.IsPrefix.trans (List.take_prefix _ _) (List.prefix_append _ _)
       have hmv:=hM.moved hb hp o hcut (fun cur' e'' hc' => by obtain ⟨rfl,rfl⟩:=hrow2.inj hc'; exact hpre) (fun _ => by omega)
       have hst:=run_storeCells_fr (P:=P) p'.1 (p'.2.1 + o + len) e' fz news 0 cur w h2 hfz (by omega) (ones_conc hvs hf.2.2)
       simp only [Nat.add_zero] at hst
       have hle:=hM.le (p'.1,p'.2.1 + o,p'.2.2.1 - o,0)
       have hmw:=hmv.setRow (b:=M.length) (cs:=(cs.drop o).take len) (gs:=1) (cs':=(cs.drop o).take len ++ vs) (us':=(xs.drop o).take len ++ news) (cur':=(List.take (p'.2.1 + o + len) cur.toList ++ news ++ List.drop (p'.2.1 + o + len + news.length) cur.toList).toArray)
        (by rw [List.getElem?_append_right (by simp)]; simp) (Pl.put_self _ _ _) (concs_append (concs_mono hle _ hcut) (concs_mono hle _ hvs)) (by
         obtain ⟨tl,ht'⟩:=hpre
         have e1:cur.toList = cur.toList.take (p'.2.1 + o) ++ ((xs.drop o).take len ++ tl):=by rw [ht',List.take_append_drop]
         have hlt:(cur.toList.take (p'.2.1 + o)).length = p'.2.1 + o:=by simp; omega
         have e2:List.take (p'.2.1 + o + len) cur.toList = cur.toList.take (p'.2.1 + o) ++ (xs.drop o).take len:=by
          conv => lhs; rw [e1]
          rw [← List.append_assoc,List.take_left' (by rw [List.length_append,hlt,hcl])]
         simp only
         rw [e2]
         simp only [List.append_assoc]
         rw [List.drop_left' hlt,← List.append_assoc]
         exact List.prefix_append _ _) (by
         intro cur' e'' hc'
         obtain ⟨rfl,rfl⟩:=hrow2.inj hc'
         simp; omega)
       have hset:(M.set b .dead ++ [Blk.own ((cs.drop o).take len) 1]).set M.length (.own ((cs.drop o).take len ++ vs) 1) = M.set b .dead ++ [.own ((cs.drop o).take len ++ vs) 1]:=by
        rw [List.set_append_right _ _ (by simp)]; simp
       rw [hset] at hmw
       refine ⟨_,_,rfl,_,.slice (some ⟨p'.1,p'.2.1 + o,none⟩) (len + news.length) (p'.2.2.1 - o),_,?_,hle,?_,hmw⟩
       ·exact run_append_fit (ty:=ty) ht hi hz hsz hzu hx (some ⟨p'.1,p'.2.1 + o,none⟩) len (p'.2.2.1 - o) hin (fun a ha => by injection ha with ha; subst ha; rw [add_mid]; exact hst) (fun h => by cases h)
       ·have:=conc_sl (φ:=φ.put M.length (p'.1,p'.2.1 + o,p'.2.2.1 - o,0)) (b:=M.length) 0 (len + vs.length) none (Pl.put_self _ _ _)
        rw [this]
        simp [hlen]
      ·obtain ⟨C,hC,hr2⟩:=run_append_new (ty:=ty) (olds:=(xs.drop o).take len) ht hi hz hsz hzu (by omega) hx (some ⟨p'.1,p'.2.1 + o,none⟩) (p'.2.2.1 - o) (by omega)
        (fun cap => firsts (P:=P) _ cap w.drew rfl (fun j u hu => hcells j u hu) rfl) (by rw [hby,hlen,hcl]; exact hf.1) hne
       have:=alloc _ _ C 0 (hM.kill b) (by simp) hcut hC hr2
       rw [hcl'] at this
       rw [hcl] at this
       exact ⟨_,_,rfl,this⟩
     ·cases hv
    ·cases hv
   ·cases hv
 ·cases hv
end
end Go.Proofs.YthajgdmcjfmjoaaGreatDoor.Rel
