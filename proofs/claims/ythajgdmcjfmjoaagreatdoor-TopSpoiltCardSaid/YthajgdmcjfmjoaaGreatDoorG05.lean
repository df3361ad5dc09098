/- TopSpoilt, part 5 of 38 of its proof: a relative machine (values, memory, an evaluator, all sound against the model), and by it the walks. Conditions: none. -/
import Derived.Laws.BytesString
import Derived.ScopeJumps
import Derived.Test.YthajgdmcjfmjoaaGreatDoorG01
import Derived.Test.YthajgdmcjfmjoaaGreatDoorG04
set_option linter.all false
namespace Go.Proofs.YthajgdmcjfmjoaaGreatDoor.Rel
section
section
variable {P:Program} {G:GF} {X:Rule} {T:Nat → Option Ty} {prot:Pr} {W0 w:World} {φ:Pl} {M M':Mem} {m:Option Mem} {t u ty e:TypeId} {d:Ty}
theorem news_sound (hM:MR G prot W0 φ M w) {n:V} {un:Value} (hn:n.conc φ = some un) {l:List V} (hl:newsV M n = some l) :
  ∃ us,concs φ l = some us ∧ (∀ w':World,w'.heap = w.heap → ∀ m ≤ us.length,(Builtin.firstCells 1 m un).run P w' = .ok (us.take m).toArray w') ∧ ∀ w:World,(Builtin.lenOf un).run P w = .ok us.length w:=by
 cases n <;> simp only [newsV] at hl <;> try (cases hl; done)
 ·rename_i b o len lim
  obtain ⟨p,us,hp,h1,h2,h3⟩:=hM.read hl
  simp only [V.conc,hp,Option.map_some,Option.some.injEq] at hn
  subst hn
  refine ⟨us,h1,fun w' hw m hm => ?_,fun w => by simp [Builtin.lenOf,h2]⟩
  refine run_firstCells_some (P:=P) w' 1 m _ len _ (us.take m) (by simp; omega) fun j u hu => ?_
  rw [add_mid]
  rw [List.getElem?_take] at hu
  split at hu
  ·have:=h3 j u hu
   simpa [World.cell?,hw] using this
  ·cases hu
 ·injection hl with hl; subst hl
  simp only [V.conc,Option.some.injEq] at hn
  subst hn
  exact ⟨[],by simp [concs],fun w' _ m hm => by simp [Builtin.firstCells],fun w => by simp [Builtin.lenOf]⟩
theorem src_slice (hM:MR G prot W0 φ M w) {n:V} {un:Value} (hn:n.conc φ = some un) {l:List V} (hl:newsV M n = some l) {e':TypeId} (hu:P.underlying u = some (.slice e')) :
  ∃ us,concs φ l = some us ∧ ∀ i zu,Src P w u i zu un us:=by
 obtain ⟨us,h1,h2,h3⟩:=news_sound (P:=P) hM hn hl
 refine ⟨us,h1,fun i zu => ⟨.inl ⟨⟨e',hu⟩,h3 w,?_,?_⟩⟩⟩
 ·have:=h2 w rfl us.length (Nat.le_refl _); rwa [List.take_length] at this
 ·have:=h2 w.drew rfl us.length (Nat.le_refl _); rwa [List.take_length] at this
theorem copy_sound (hT:∀ (t:TypeId) (d:Ty),T t = some d → d.ok P t) (h:d.ok P t) (hM:MR G prot W0 φ M w) {z:V × Nat} (he:elem1 T d = some z) {s n:V} {us un:Value} (hs:s.conc φ = some us) (hn:n.conc φ = some un)
  {l:List V} (hl:newsV M n = some l) {r:R} (hv:copyV M s l = some r):∃ v M',r = .val v M' ∧ Gives G prot W0 φ ((Builtin.copy_ #[t,u] ty #[us,un]).run P w) v M':=by
 obtain ⟨e,i,zv,zu,ht,hi,hsz,_,_,_,_⟩:=elem1_zero hT h he
 obtain ⟨xs,h1,h2,h3⟩:=news_sound (P:=P) hM hn hl
 have hlen:=concs_length h1
 unfold copyV at hv
 split at hv
 ·simp only [V.conc,Option.some.injEq] at hs
  subst hs
  injection hv with hv; subst hv
  refine ⟨_,_,rfl,Gives.same hM rfl ?_⟩
  have h4:=h2 w rfl 0 (Nat.zero_le _)
  simp [Builtin.copy_,run_underlying ht,sizeOf,typeInfo,hi,hsz,h3,h4,goInt]
 ·rename_i b o len lim
  simp only [Option.map_eq_some_iff] at hv
  obtain ⟨M',hw,rfl⟩:=hv
  have hc:concs φ (l.take (min l.length len)) = some (xs.take (min l.length len)):=concs_take h1 _
  obtain ⟨p,w',hp,h5,h6⟩:=hM.write (P:=P) hw hc
  simp only [V.conc,hp,Option.map_some,Option.some.injEq] at hs
  subst hs
  refine ⟨_,_,rfl,φ,.int .i64 (min l.length len:Nat),w',?_,Pl.le_refl _,rfl,h6⟩
  have h4:=h2 w rfl (min l.length len) (by omega)
  have e1:Nat.min xs.length len = min l.length len:=by rw [hlen]
  simp [Builtin.copy_,run_underlying ht,sizeOf,typeInfo,hi,h3,hsz,e1,h4,h5,goInt]
 ·cases hv
theorem take_at (A R:List Value) (v:Value):(A ++ v :: R).take (A.length + 1) = A ++ [v]:=by
 rw [List.take_append,List.take_of_length_le (by omega),Nat.add_sub_cancel_left]; rfl
theorem drop_at (A R:List Value) (v:Value) (m:Nat):(A ++ v :: R).drop (A.length + 1 + m) = R.drop m:=by
 rw [List.drop_append,List.drop_of_length_le (by omega),show A.length + 1 + m - A.length = m + 1 by omega]; rfl
theorem foldl_sets (off:Nat):∀ (l:List Value) (k:Nat) (cur:Array Value),off + k + l.length ≤ cur.size →
  ((l.zipIdx k).foldl (fun cs p => cs.setIfInBounds (off + p.2) p.1) cur).toList = cur.toList.take (off + k) ++ l ++ cur.toList.drop (off + k + l.length)
 | [],k,cur,h => by simp
 | v :: l,k,cur,h => by
  simp only [List.length_cons] at h
  rw [List.zipIdx_cons,List.foldl_cons,foldl_sets off l (k + 1) _ (by simp; omega)]
  have hlt:off + k < cur.toList.length:=by simp; omega
  have e1:(cur.setIfInBounds (off + k) v).toList = cur.toList.take (off + k) ++ (v :: cur.toList.drop (off + k + 1)):=by
   rw [Array.toList_setIfInBounds,List.set_eq_take_append_cons_drop,if_pos hlt]
  have hl:(cur.toList.take (off + k)).length = off + k:=by simp; omega
  rw [e1,show off + (k + 1) = off + k + 1 by omega]
  have k1:=take_at (cur.toList.take (off + k)) (cur.toList.drop (off + k + 1)) v
  have k2:=drop_at (cur.toList.take (off + k)) (cur.toList.drop (off + k + 1)) v l.length
  rw [hl] at k1 k2
  rw [k1,k2,List.drop_drop,List.length_cons,show off + k + 1 + l.length = off + k + (l.length + 1) by omega]
  simp
theorem fill_sound {pl:Nat → Option (Nat × Nat)}:∀ {ps:List (Nat × V)} {us:List (Nat × Value)} {cs:List V} {cur:Array Value} {r:List V},
  (ps.map (·.1) = us.map (·.1)) → concs φ (ps.map (·.2)) = some (us.map (·.2)) → concs φ cs = some cur.toList → afill pl cs ps = some r → ∃ out,Instr.fill pl cur us = some out ∧ concs φ r = some out.toList
 | [],us,cs,cur,r,h1,h2,h3,h4 => by
  cases us with
  | nil => simp only [afill,Option.some.injEq] at h4; subst h4; exact ⟨cur,rfl,h3⟩
  | cons _ _ => simp at h1
 | (i,v) :: ps,us,cs,cur,r,h1,h2,h3,h4 => by
  cases us with
  | nil => simp at h1
  | cons q us =>
   obtain ⟨i',u⟩:=q
   simp only [List.map_cons,List.cons.injEq] at h1
   obtain ⟨rfl,h1⟩:=h1
   simp only [List.map_cons] at h2
   obtain ⟨u',us',hv,hvs,he⟩:=concs_cons.1 h2
   injection he with he1 he2
   subst he1 he2
   unfold afill at h4
   cases hp:pl i with
   | none => simp [hp] at h4
   | some p =>
    obtain ⟨off,size⟩:=p
    simp only [hp] at h4
    split at h4
    ·cases h4
    ·rename_i hc
     have hcv:=cellsOf_conc hv
     have hl1:=concs_length hcv
     have hl2:=concs_length h3
     simp only [Array.length_toList] at hl1 hl2
     have hsz:u.cells.size = size:=by omega
     have hfit:off + u.cells.size ≤ cur.size:=by omega
     unfold Instr.fill
     simp only [hp]
     rw [if_neg (by simp [hsz]; omega)]
     have hset:=foldl_sets off u.cells.toList 0 cur (by simp; omega)
     refine fill_sound h1 hvs ?_ h4
     have:(Array.foldl (fun cs p => cs.setIfInBounds (off + p.2) p.1) cur u.cells.zipIdx).toList = cur.toList.take off ++ u.cells.toList ++ cur.toList.drop (off + size):=by
      rw [← Array.foldl_toList,Array.toList_zipIdx]
      simpa [hsz] using hset
     rw [this]
     exact concs_append (concs_append (concs_take h3 off) hcv) (concs_drop h3 _)
theorem run_mapM {α β:Type} (f:α → Sem β) (g:α → β) (w:World):∀ (l:List α),(∀ x ∈ l,(f x).run P w = .ok (g x) w) → (l.mapM f).run P w = .ok (l.map g) w
 | [],_ => by simp
 | x :: l,h => by
  rw [List.mapM_cons]
  simp only [Sem.run_bind,h x (List.mem_cons_self ..),Result.andThen_ok,run_mapM f g w l (fun y hy => h y (List.mem_cons_of_mem _ hy)),Sem.run_pure,List.map_cons]
theorem run_mapM_arr {α β:Type} (f:α → Sem β) (g:α → β) (w:World) (l:Array α) (h:∀ x ∈ l.toList,(f x).run P w = .ok (g x) w):(l.mapM f).run P w = .ok (l.toList.map g).toArray w:=by
 rw [Array.mapM_eq_mapM_toList]
 have:=run_mapM (P:=P) f g w l.toList h
 simp only [map_eq_pure_bind,Sem.run_bind,this,Result.andThen_ok,Sem.run_pure]
theorem places_spec (hT:∀ (t:TypeId) (d:Ty),T t = some d → d.ok P t) (w:World):∀ {fs:List (Nat × TypeId)} {pl:List (Nat × Nat)},places T fs = some pl →
  ∃ sz:TypeId → Nat,pl = fs.map (fun p => (p.1,sz p.2)) ∧ ∀ p ∈ fs,(sizeOf p.2).run P w = .ok (sz p.2) w:=by
 have key:∀ {fs:List (Nat × TypeId)} {pl:List (Nat × Nat)},places T fs = some pl → pl = fs.map (fun p => (p.1,((T p.2).map Ty.size).getD 0)) ∧ ∀ p ∈ fs,(sizeOf p.2).run P w = .ok (((T p.2).map Ty.size).getD 0) w:=by
  intro fs
  induction fs with
  | nil => intro pl h; simp only [places,Option.some.injEq] at h; subst h; simp
  | cons p ps ih =>
   intro pl h
   simp only [places,Option.bind_eq_some_iff,Option.map_eq_some_iff] at h
   obtain ⟨d,hd,l,hl,rfl⟩:=h
   obtain ⟨h1,h2⟩:=ih hl
   refine ⟨by simp [hd,h1],?_⟩
   intro q hq
   cases hq with
   | head => simpa [hd] using (hT _ _ hd).runSize w
   | tail _ hq => exact h2 q hq
 intro fs pl h
 obtain ⟨h1,h2⟩:=key h
 exact ⟨fun t => ((T t).map Ty.size).getD 0,h1,h2⟩
theorem build_sound (hT:∀ (t:TypeId) (d:Ty),T t = some d → d.ok P t) (h:d.ok P t) (hM:MR G prot W0 φ M w) {ps:List (Nat × V)} {us:List (Nat × Value)} {v:V}
  (h1:ps.map (·.1) = us.map (·.1)) (h2:concs φ (ps.map (·.2)) = some (us.map (·.2))) (hv:buildV T d ps = some v):Gives G prot W0 φ ((Instr.build t us.toArray).run P w) v M:=by
 obtain ⟨z,zs,hz1,hz2,hz3,hz4⟩:=h.runZero w
 have hz:concs φ d.zero = some z.cells.toList:=hz2 ▸ concs_mono (Pl.no_le _) _ hz3
 unfold buildV at hv
 split at hv
 ·rename_i fs hk
  simp only [Option.bind_eq_some_iff,Option.map_eq_some_iff] at hv
  obtain ⟨pl,hpl,r,hr,rfl⟩:=hv
  obtain ⟨fields,hu,hf⟩:=kind_struct h hk
  obtain ⟨sz,rfl,hsz⟩:=places_spec (P:=P) hT w hpl
  have hm:=run_mapM_arr (P:=P) (fun f:Field => do pure (f.offset,← sizeOf f.type)) (fun f => (f.offset,sz f.type)) w fields (fun f hf' => by
   have:=hsz (f.offset,f.type) (by rw [← hf]; exact List.mem_map.2 ⟨f,hf',rfl⟩)
   simp only at this
   simp only [Sem.run_bind,this,Result.andThen_ok,Sem.run_pure])
  obtain ⟨out,ho,hc⟩:=fill_sound h1 h2 hz hr
  refine Gives.same hM (u:=.agg out) (by simp [V.conc,hc]) ?_
  have hpl2:(fun x:Nat => ((fields.toList.map (fun f:Field => (f.offset,sz f.type))).toArray)[x]?) = fun i:Nat => (fs.map (fun p => (p.1,sz p.2)))[i]?:=by
   funext i
   rw [← hf]
   simp [Function.comp_def]
  rw [← hpl2] at ho
  unfold Instr.build
  simp only [Sem.run_bind,hz1,Result.andThen_ok,run_underlying hu,hm,ho,Sem.run_pure]
 ·rename_i n e hk
  simp only [Option.bind_eq_some_iff,Option.map_eq_some_iff] at hv
  obtain ⟨de,hde,r,hr,rfl⟩:=hv
  have hs:=(hT e de hde).runSize w
  obtain ⟨out,ho,hc⟩:=fill_sound h1 h2 hz hr
  refine Gives.same hM (u:=.agg out) (by simp [V.conc,hc]) ?_
  unfold Instr.build
  simp only [Sem.run_bind,hz1,Result.andThen_ok,run_underlying (kind_array h hk),hs,ho,Sem.run_pure]
 ·cases hv
theorem buildSlice_sound (hT:∀ (t:TypeId) (d:Ty),T t = some d → d.ok P t) (h:d.ok P t) (hM:MR G prot W0 φ M w) {ps:List (Nat × V)} {us:List (Nat × Value)} {len:Nat} {r:R}
  (h1:ps.map (·.1) = us.map (·.1)) (h2:concs φ (ps.map (·.2)) = some (us.map (·.2))) (hv:buildSliceV T d M len ps = some r) :
  ∃ v M',r = .val v M' ∧ Gives G prot W0 φ ((Instr.buildSlice t len us.toArray).run P w) v M':=by
 unfold buildSliceV at hv
 simp only [Option.bind_eq_some_iff] at hv
 obtain ⟨z,hz,hv⟩:=hv
 split at hv
 ·cases hv
 ·rename_i hlen
  simp only [Option.map_eq_some_iff] at hv
  obtain ⟨cs,hcs,rfl⟩:=hv
  obtain ⟨e,i,zv,zu,ht,hi,hsz,hby,hz0,hzu,hzc⟩:=elem1_zero hT h hz
  have hzr:concs φ (List.replicate len z.1) = some ((Array.range (len * 1)).map ((#[zu]:Array Value)[· % (#[zu]:Array Value).size]!)).toList:=by
   rw [Nat.mul_one,zeros_one]; exact concs_replicate (hzc φ) len
  obtain ⟨out,ho,hc⟩:=fill_sound h1 h2 hzr hcs
  obtain ⟨q1,q2⟩:=newRow_sound (P:=P) hM out e 0 0 hc (List.prefix_refl _) (by simp)
  refine ⟨_,_,rfl,_,.slice (some ⟨w.heap.size,0,none⟩) len len,_,?_,hM.le _,conc_sl 0 len (some len) (Pl.put_self _ _ _),q2⟩
  unfold Instr.buildSlice
  have hl:¬ (len * 1 > 2 ^ 24):=by omega
  have e1:(sizeOf e).run P w = .ok 1 w:=by simp [sizeOf,typeInfo,hi,hsz]
  have e2:(zeroValue e).run P w = .ok zv w:=by simp [zeroValue,typeInfo,hi,hz0]
  simp only [Sem.run_bind,run_underlying ht,Result.andThen_ok,e1,hl,if_false]
  by_cases h0:len = 0
  ·subst h0
   have:∀ f:Nat → Value,(Array.range (0 * 1)).map f = #[]:=fun f => by apply Array.ext'; simp
   rw [this] at ho
   rw [if_pos rfl]
   simp only [Sem.run_bind,Sem.run_pure,Result.andThen_ok,this,ho,q1]
  ·have hn0:¬ (len * 1 = 0):=by omega
   simp only [hn0,if_false,Sem.run_bind,e2,Result.andThen_ok,Sem.run_pure,hzu,ho,q1]
theorem u8s_spec:∀ {l:List V} {bs:List UInt8} {us:List Value},u8s l = some bs → concs φ l = some us → ∃ ns:List Int,us = ns.map (.int .u8) ∧ bs = ns.map (fun n => UInt8.ofNat n.toNat)
 | [],bs,us,h1,h2 => by
  simp only [u8s,Option.some.injEq] at h1
  simp only [concs,Option.some.injEq] at h2
  subst h1 h2
  exact ⟨[],rfl,rfl⟩
 | v :: l,bs,us,h1,h2 => by
  obtain ⟨u,us',h3,h4,rfl⟩:=concs_cons.1 h2
  unfold u8s at h1
  split at h1
  ·rename_i e; cases e
  ·rename_i n l' heq
   injection heq with e1 e2; subst e1 e2
   simp only [Option.map_eq_some_iff] at h1
   obtain ⟨bs',h5,rfl⟩:=h1
   obtain ⟨ns,rfl,rfl⟩:=u8s_spec h5 h4
   simp only [V.conc,Option.some.injEq] at h3
   subst h3
   exact ⟨n :: ns,rfl,rfl⟩
  ·cases h1
theorem foldl_push (ns:List Int) (s:ByteArray):ns.foldl (fun r n => r.push (UInt8.ofNat n.toNat)) s = ⟨s.data ++ (ns.map fun n => UInt8.ofNat n.toNat).toArray⟩:=by
 induction ns generalizing s with
 | nil => simp
 | cons n ns ih =>
  rw [List.foldl_cons,ih]
  congr 1
  apply Array.ext'
  simp [ByteArray.push]
theorem news_shape {x:V} {ux:Value} (hx:x.conc φ = some ux) {l:List V} (hl:newsV M x = some l):(∃ a len cap,ux = .slice (some a) len cap) ∨ ux = .slice none 0 0:=by
 cases x <;> simp only [newsV] at hl <;> try (cases hl; done)
 ·simp only [V.conc,Option.map_eq_some_iff] at hx
  obtain ⟨p,_,rfl⟩:=hx
  exact .inl ⟨_,_,_,rfl⟩
 ·simp only [V.conc,Option.some.injEq] at hx
  exact .inr hx.symm
theorem conv_sound (hG:GOK G) (hX:RuleOK G X) (hT:∀ (t:TypeId) (d:Ty),T t = some d → d.ok P t) (hM:MR G prot W0 φ M w) {s t:TypeId} {x v:V} {ux:Value} (hx:x.conc φ = some ux)
  (hv:convV X T s t M x = some (v,m)):Gives G prot W0 φ ((convert s t ux).run P w) v (m.getD M):=by
 unfold convV at hv
 simp only [Option.bind_eq_some_iff] at hv
 obtain ⟨ds,hds,dd,hdd,hv⟩:=hv
 have hs:=hT _ _ hds
 have hd:=hT _ _ hdd
 split at hv
 ·rename_i k0 k k1 n hk0 hk
  injection hv with hv; injection hv with h1 h2; subst h1 h2
  simp only [V.conc,Option.some.injEq] at hx
  subst hx
  refine Gives.same hM (u:=.int k (k.wrap n)) (by simp [V.conc,kwrap_eq]) ?_
  simp [convert,run_underlying (kind_int hs hk0),run_underlying (kind_int hd hk),Conv.intToInt]
 ·rename_i k0 k k1 i lo hi hk0 hk
  obtain ⟨n,rfl,hn⟩:=knd_conc rfl hx
  have hrun:(convert s t (.int k1 n)).run P w = .ok (.int k (k.wrap n)) w:=by
   simp [convert,run_underlying (kind_int hs hk0),run_underlying (kind_int hd hk),Conv.intToInt]
  split at hv
  ·rename_i hin
   injection hv with hv; injection hv with h1 h2; subst h1 h2
   have hwn:=inK_wrap hin hn
   refine Gives.same hM (u:=.int k n) ?_ (by rw [hrun,hwn])
   simp only [V.conc,Option.bind_eq_some_iff] at hx ⊢
   obtain ⟨p,hp,hx⟩:=hx
   refine ⟨p,hp,?_⟩
   split at hx
   ·rename_i hb
    rw [if_pos hb]
    injection hx with hx; injection hx with _ hx; rw [hx]
   ·cases hx
  ·exact Gives.int hG hX hM hv (k:=k) (n:=k.wrap n) (by simp only [Def.val,hn,Option.map_some]) hrun
 ·rename_i s0 hk0 hk
  injection hv with hv; injection hv with h1 h2; subst h1 h2
  simp only [V.conc,Option.some.injEq] at hx
  subst hx
  refine Gives.same hM (u:=.string s0) rfl ?_
  simp [convert,run_underlying (kind_str hs hk0),run_underlying (kind_str hd hk)]
 ·rename_i e hk0 hk
  simp only [Option.bind_eq_some_iff] at hv
  obtain ⟨de,hde,hv⟩:=hv
  split at hv
  ·rename_i hke
   simp only [Option.bind_eq_some_iff,Option.map_eq_some_iff,Prod.mk.injEq] at hv
   obtain ⟨l,hl,bs,hbs,rfl,rfl⟩:=hv
   obtain ⟨us,h1,h2,h3⟩:=news_sound (P:=P) hM hx hl
   obtain ⟨ns,rfl,rfl⟩:=u8s_spec hbs h1
   refine Gives.same hM (u:=.string ⟨(ns.map fun n => UInt8.ofNat n.toNat).toArray⟩) rfl ?_
   have hu1:=run_underlying (kind_slice hs hk0)
   have hu2:=run_underlying (kind_str hd hk)
   have hu3:=run_underlying (kind_int (hT _ _ hde) hke)
   have hsl:(∃ a len cap,ux = .slice (some a) len cap ∧ len = ns.length) ∨ (ux = .slice none 0 0 ∧ ns = []):=by
    rcases news_shape hx hl with ⟨a,len,cap,rfl⟩ | rfl
    ·have:=h3 w
     simp [Builtin.lenOf] at this
     exact .inl ⟨_,_,_,rfl,this⟩
    ·have:=h3 w
     simp [Builtin.lenOf] at this
     exact .inr ⟨rfl,List.eq_nil_of_length_eq_zero this.symm⟩
   rcases hsl with ⟨a,len,cap,rfl,rfl⟩ | ⟨rfl,rfl⟩
   ·have hc:=h2 w rfl ns.length (by simp)
    have hb:=run_bytesToString (P:=P) w a ns.length cap ns (by
     have e:(ns.map (Value.int .u8)).take ns.length = ns.map (.int .u8):=by rw [List.take_of_length_le (by simp)]
     rw [e] at hc
     simpa [Builtin.firstCells] using hc)
    rw [foldl_push] at hb
    have e0:(⟨ByteArray.empty.data ++ (ns.map fun n => UInt8.ofNat n.toNat).toArray⟩:ByteArray) = ⟨(ns.map fun n => UInt8.ofNat n.toNat).toArray⟩:=by
     refine congrArg ByteArray.mk ?_
     apply Array.ext'
     rw [Array.toList_append]
     rfl
    rw [e0] at hb
    simp [convert,hu1,hu2,hu3,hb]
   ·simp [convert,hu1,hu2,hu3,Conv.bytesToString]
    rfl
  ·cases hv
 ·cases hv
end
end
section
def Did (P:Program) (G:GF) (prot:Pr) (W0:World) (φ:Pl) (w:World) (M:Mem) (res:Result Next):R → Prop
 | .pure v => ∃ φ' u w',res = .ok (.value u) w' ∧ φ.le φ' ∧ v.conc φ' = some u ∧ MR G prot W0 φ' M w'
 | .val v M' => ∃ φ' u w',res = .ok (.value u) w' ∧ φ.le φ' ∧ v.conc φ' = some u ∧ MR G prot W0 φ' M' w'
 | .skip M' => ∃ φ' w',res = .ok .skip w' ∧ φ.le φ' ∧ MR G prot W0 φ' M' w'
 | .call f args => ∃ us:List Value,concs φ args = some us ∧ res = (callFunc f us.toArray).run P w
section
variable {P:Program} {G:GF} {X:Rule} {T:Nat → Option Ty} {prot:Pr} {W0 w:World} {φ:Pl} {M M':Mem}
theorem Did.of {s:Sem Value} {v:V} (h:Gives G prot W0 φ (s.run P w) v M'):Did P G prot W0 φ w M ((do pure (.value (← s)):Sem Next).run P w) (.val v M'):=by
 obtain ⟨φ',u,w',h1,h2,h3,h4⟩:=h
 exact ⟨φ',u,w',by simp [h1],h2,h3,h4⟩
variable {ρ:Operand → Option V} {σ:Operand → Value}
theorem evs_sound (hρ:∀ x v,ρ x = some v → v.conc φ = some (σ x)):∀ {l:List Operand} {vs:List V},evs ρ l = some vs → concs φ vs = some (l.map σ)
 | [],vs,h => by simp only [evs,Option.some.injEq] at h; subst h; simp [concs]
 | x :: l,vs,h => by
  simp only [evs,Option.bind_eq_some_iff,Option.map_eq_some_iff] at h
  obtain ⟨v,hv,vs',hvs,rfl⟩:=h
  exact concs_cons.2 ⟨_,_,hρ x v hv,evs_sound hρ hvs,rfl⟩
theorem evp_sound (hρ:∀ x v,ρ x = some v → v.conc φ = some (σ x)):∀ {l:List (Nat × Operand)} {vs:List (Nat × V)},evp ρ l = some vs →
  vs.map (·.1) = (l.map fun p => (p.1,σ p.2)).map (·.1) ∧ concs φ (vs.map (·.2)) = some ((l.map fun p => (p.1,σ p.2)).map (·.2))
 | [],vs,h => by simp only [evp,Option.some.injEq] at h; subst h; simp [concs]
 | (i,x) :: l,vs,h => by
  simp only [evp,Option.bind_eq_some_iff,Option.map_eq_some_iff] at h
  obtain ⟨v,hv,vs',hvs,rfl⟩:=h
  obtain ⟨h1,h2⟩:=evp_sound hρ hvs
  exact ⟨by simp only [List.map_cons,h1],concs_cons.2 ⟨_,_,hρ x v hv,h2,rfl⟩⟩
theorem opt_sound (hρ:∀ x v,ρ x = some v → v.conc φ = some (σ x)) {o:Option Operand} {r:Option V} (h:(match o with | none => some none | some v => (ρ v).map some) = some r):OptC φ r (o.map σ):=by
 cases o with
 | none => simp only [Option.some.injEq] at h; subst h; trivial
 | some x =>
  simp only [Option.map_eq_some_iff] at h
  obtain ⟨v,hv,rfl⟩:=h
  exact hρ x v hv
theorem ints_conc {a b:V} {p:IntKind × Int × Int} {ua ub:Value} (h:ints a b = some p) (ha:a.conc φ = some ua) (hb:b.conc φ = some ub):ua = .int p.1 p.2.1 ∧ ∃ k,ub = .int k p.2.2:=by
 cases a <;> cases b <;> simp only [ints] at h <;> try (cases h; done)
 injection h with h; subst h
 simp only [V.conc,Option.some.injEq] at ha hb
 exact ⟨ha.symm,_,hb.symm⟩
theorem rv_map {o:Option (V × Option Mem)} {r:R} (h:o.map rv = some r):∃ v m,o = some (v,m) ∧ ((m = none ∧ r = .pure v) ∨ ∃ M',m = some M' ∧ r = .val v M'):=by
 simp only [Option.map_eq_some_iff] at h
 obtain ⟨⟨v,m⟩,h1,h2⟩:=h
 refine ⟨v,m,h1,?_⟩
 cases m with
 | none => exact .inl ⟨rfl,h2.symm⟩
 | some M' => exact .inr ⟨M',rfl,h2.symm⟩
theorem Did.val0 {s:Sem Value} {v:V} (h:Gives G prot W0 φ (s.run P w) v M):Did P G prot W0 φ w M ((do pure (.value (← s)):Sem Next).run P w) (.pure v):=by
 obtain ⟨φ',u,w',h1,h2,h3,h4⟩:=h
 exact ⟨φ',u,w',by simp [h1],h2,h3,h4⟩
theorem Did.rv {s:Sem Value} {o:Option (V × Option Mem)} {r:R} (h:o.map rv = some r) (hg:∀ v m,o = some (v,m) → Gives G prot W0 φ (s.run P w) v (m.getD M)):Did P G prot W0 φ w M ((do pure (.value (← s)):Sem Next).run P w) r:=by
 obtain ⟨v,m,h1,h2⟩:=rv_map h
 have h3:=hg v m h1
 rcases h2 with ⟨rfl,rfl⟩ | ⟨M',rfl,rfl⟩
 ·exact Did.val0 h3
 ·exact Did.of h3
theorem call_sound (hρ:∀ x v,ρ x = some v → v.conc φ = some (σ x)) {c:Call} {ty:TypeId} {f:Operand} (hc:c.callee = .value f) {g:FuncId} {first l:List V} (hf:ρ f = some (.fn g first)) (hl:evs ρ c.args.toList = some l) :
  ∃ us:List Value,concs φ (first ++ l) = some us ∧ ((do let d ← resolve σ c ty; invoke d.target d.args):Sem Next).run P w = (callFunc g us.toArray).run P w:=by
 have h1:=hρ f _ hf
 simp only [V.conc,Option.map_eq_some_iff] at h1
 obtain ⟨xs,hx,he⟩:=h1
 refine ⟨xs ++ c.args.toList.map σ,concs_append hx (evs_sound hρ hl),?_⟩
 have he':=he.symm
 simp only [resolve,hc,he',Deferred.ofValue,Sem.run_bind,Sem.run_pure,Result.andThen_ok,invoke,Array.append_empty]
 congr 2
 apply Array.ext'
 simp
theorem built_sound (b:Builtin) {c:Call} {ty:TypeId} (hc:c.callee = .builtin b):((do let d ← resolve σ c ty; invoke d.target d.args):Sem Next).run P w = (builtin b c.argTypes ty (c.args.map fun | .const _ => true | _ => false) (c.args.map σ)).run P w:=by
 simp only [resolve,hc,Sem.run_bind,Sem.run_pure,Result.andThen_ok,invoke]
 rfl
theorem parr {ps:Array (Nat × Operand)}:(ps.toList.map fun p => (p.1,σ p.2)).toArray = ps.map fun p => (p.1,σ p.2):=by
 apply Array.ext'
 simp
theorem arr2 {α:Type} {a:Array α} {x y:α} (h:a.toList = [x,y]):a = #[x,y]:=by apply Array.ext'; simpa using h
theorem arr1 {α:Type} {a:Array α} {x:α} (h:a.toList = [x]):a = #[x]:=by apply Array.ext'; simpa using h
theorem astep_sound (hG:GOK G) (hX:RuleOK G X) (hT:∀ (t:TypeId) (d:Ty),T t = some d → d.ok P t) (hρ:∀ x v,ρ x = some v → v.conc φ = some (σ x)) (hM:MR G prot W0 φ M w) {o:Oper} {r:R}
  (h:astep X T ρ M o.op = some r):Did P G prot W0 φ w M ((execOp σ o).run P w) r:=by
 obtain ⟨dst,op,ty,pos,after,guard⟩:=o
 simp only at h
 have one:∀ {x:Operand} {v:V},ρ x = some v → Did P G prot W0 φ w M ((pure (.value (σ x)):Sem Next).run P w) (.pure v):=fun hv => ⟨φ,_,w,rfl,Pl.le_refl _,hρ _ _ hv,hM⟩
 unfold astep at h
 split at h
 all_goals try unfold aPick at h
 all_goals try unfold aAlloc at h
 all_goals try unfold aBox at h
 all_goals try unfold aBuild at h
 all_goals try unfold aBuildS at h
 all_goals try unfold aLoad at h
 all_goals try unfold aStore at h
 all_goals try unfold aNil at h
 all_goals try unfold aBin at h
 all_goals try unfold aUn at h
 all_goals try unfold aConv at h
 all_goals try unfold aFunc at h
 all_goals try unfold aMake at h
 all_goals try unfold aSlice at h
 all_goals try unfold aField at h
 all_goals try unfold aIndexA at h
 all_goals try unfold aIndex at h
 all_goals try unfold aExtract at h
 all_goals try unfold aCall at h
 ·simp only [Option.map_eq_some_iff] at h
  obtain ⟨v,hv,rfl⟩:=h
  exact one hv
 ·simp only [Option.map_eq_some_iff] at h
  obtain ⟨v,hv,rfl⟩:=h
  exact one hv
 ·rename_i c a b
  split at h
  ·rename_i t ht
   simp only [Option.map_eq_some_iff] at h
   obtain ⟨v,hv,rfl⟩:=h
   have h1:=hρ _ _ ht
   simp only [V.conc,Option.some.injEq] at h1
   refine ⟨φ,if t then σ a else σ b,w,?_,Pl.le_refl _,?_,hM⟩
   ·simp only [execOp,← h1,asBool,Sem.run_bind,Sem.run_pure,Result.andThen_ok]
   ·cases t
    ·exact hρ _ _ hv
    ·exact hρ _ _ hv
  ·cases h
 ·simp only [Option.map_eq_some_iff] at h
  obtain ⟨d,hd,rfl⟩:=h
  exact Did.of (alloc_sound (hT _ _ hd) hM)
 ·simp only [Option.map_eq_some_iff] at h
  obtain ⟨v,hv,rfl⟩:=h
  exact Did.of (box_sound hM (hρ _ _ hv))
 ·simp only [Option.bind_eq_some_iff,Option.map_eq_some_iff] at h
  obtain ⟨d,hd,l,hl,v,hv,rfl⟩:=h
  obtain ⟨h1,h2⟩:=evp_sound hρ hl
  have:=build_sound hT (hT _ _ hd) hM h1 h2 hv
  rw [parr] at this
  exact Did.val0 this
 ·simp only [Option.bind_eq_some_iff] at h
  obtain ⟨d,hd,l,hl,h⟩:=h
  obtain ⟨h1,h2⟩:=evp_sound hρ hl
  obtain ⟨v,M',rfl,this⟩:=buildSlice_sound hT (hT _ _ hd) hM h1 h2 h
  rw [parr] at this
  exact Did.of this
 ·simp only [Option.bind_eq_some_iff] at h
  obtain ⟨d,hd,p,hp,h⟩:=h
  exact Did.rv h fun v m h' => loadV_sound hG hX (hT _ _ hd) hM (hρ _ _ hp) h'
 ·simp only [Option.bind_eq_some_iff] at h
  obtain ⟨d,hd,h⟩:=h
  split at h
  ·rename_i b o hp
   simp only [Option.bind_eq_some_iff] at h
   obtain ⟨v,hv,h⟩:=h
   split at h
   ·rename_i hl
    simp only [Option.map_eq_some_iff] at h
    obtain ⟨M',hw,rfl⟩:=h
    obtain ⟨w',h1,h2⟩:=storeV_sound (P:=P) (hT _ _ hd) hM (hρ _ _ hp) (hρ _ _ hv) hl hw
    exact ⟨φ,w',by simp only [execOp,Sem.run_bind,h1,Result.andThen_ok,Sem.run_pure],Pl.le_refl _,h2⟩
   ·cases h
  ·cases h
 ·split at h
  ·rename_i b o hp
   injection h with h; subst h
   have h1:=hρ _ _ hp
   refine ⟨φ,_,w,?_,Pl.le_refl _,h1,hM⟩
   simp only [V.conc,Option.map_eq_some_iff] at h1
   obtain ⟨p,_,h1⟩:=h1
   simp only [execOp,← h1,Sem.run_pure]
  ·rename_i b o hp
   injection h with h; subst h
   have h1:=hρ _ _ hp
   refine ⟨φ,_,w,?_,Pl.le_refl _,h1,hM⟩
   simp only [V.conc,Option.some.injEq] at h1
   simp only [execOp,← h1,Sem.run_pure]
  ·cases h
 ·simp only [Option.bind_eq_some_iff] at h
  obtain ⟨a,ha,b,hb,h⟩:=h
  exact Did.rv h fun v m h' => bin_sound hG hX (fun d hd => hT _ _ hd) hM (hρ _ _ ha) (hρ _ _ hb) _ _ h'
 ·simp only [Option.bind_eq_some_iff] at h
  obtain ⟨a,ha,h⟩:=h
  exact Did.rv h fun v m h' => un_sound hG hX hM (hρ _ _ ha) h'
 ·simp only [Option.bind_eq_some_iff] at h
  obtain ⟨a,ha,h⟩:=h
  exact Did.rv h fun v m h' => conv_sound hG hX hT hM (hρ _ _ ha) h'
 ·rename_i f first captured
  split at h
  ·rename_i hc
   simp only [Option.map_eq_some_iff] at h
   obtain ⟨l,hl,rfl⟩:=h
   have h1:=evs_sound hρ hl
   have hc':captured = #[]:=Array.eq_empty_of_size_eq_zero hc
   refine ⟨φ,.func (.func f) (first.toList.map σ).toArray #[],w,?_,Pl.le_refl _,by simp [V.conc,h1],hM⟩
   have e:(first.toList.map σ).toArray = first.map σ:=by apply Array.ext'; simp
   simp [execOp,Instr.makeFunc,hc',e]
  ·cases h
 ·simp only [Option.bind_eq_some_iff] at h
  obtain ⟨d,hd,l,hl,c,hc,h⟩:=h
  obtain ⟨v,M',rfl,this⟩:=make_sound hT (hT _ _ hd) hM (hρ _ _ hl) (hρ _ _ hc) h
  exact Did.of this
 ·simp only [Option.bind_eq_some_iff] at h
  obtain ⟨d,hd,x,hx,lo,hlo,hi,hhi,mx,hmx,h⟩:=h
  simp only [Option.map_eq_some_iff] at h
  obtain ⟨v,hv,rfl⟩:=h
  obtain ⟨u,hu,hr⟩:=cut_sound (P:=P) hT (hT _ _ hd) hM (hρ _ _ hx) (opt_sound hρ hlo) (opt_sound hρ hhi) (opt_sound hρ hmx) hv
  exact Did.val0 (Gives.same hM hu hr)
 ·simp only [Option.bind_eq_some_iff,Option.map_eq_some_iff] at h
  obtain ⟨d,hd,x,hx,v,hv,rfl⟩:=h
  obtain ⟨u,hu,hr⟩:=fieldAddr_sound (P:=P) (w:=w) hT (hT _ _ hd) (hρ _ _ hx) hv
  exact Did.val0 (Gives.same hM hu hr)
 ·simp only [Option.bind_eq_some_iff,Option.map_eq_some_iff] at h
  obtain ⟨d,hd,x,hx,i,hi,v,hv,rfl⟩:=h
  obtain ⟨u,hu,hr⟩:=indexAddr_sound (P:=P) (w:=w) hT (hT _ _ hd) (hρ _ _ hx) (hρ _ _ hi) hv
  exact Did.val0 (Gives.same hM hu hr)
 ·simp only [Option.bind_eq_some_iff] at h
  obtain ⟨d,hd,x,hx,i,hi,h⟩:=h
  exact Did.rv h fun v m h' => index_sound hG hX hT (hT _ _ hd) hM (hρ _ _ hx) (hρ _ _ hi) h'
 ·split at h
  ·rename_i vs hx
   simp only [Option.map_eq_some_iff] at h
   obtain ⟨v,hv,rfl⟩:=h
   obtain ⟨u,hu,hr⟩:=extract_sound (P:=P) (w:=w) (hρ _ _ hx) hv
   exact Did.val0 (Gives.same hM hu hr)
  ·cases h
 ·rename_i c
  have bi:∀ (b:Builtin) (s:Sem Value) {v:V} {M':Mem},c.callee = .builtin b → (builtin b c.argTypes ty (c.args.map fun | .const _ => true | _ => false) (c.args.map σ) = (do pure (.value (← s)))) → Gives G prot W0 φ (s.run P w) v M' →
    Did P G prot W0 φ w M ((execOp σ { dst:=dst,op:=.call c,type:=ty,pos:=pos,after:=after,guard:=guard }).run P w) (.val v M'):=by
   intro b s v M' hc hb hg
   have:(execOp σ { dst:=dst,op:=.call c,type:=ty,pos:=pos,after:=after,guard:=guard }).run P w = (do pure (.value (← s)):Sem Next).run P w:=by
    simp only [execOp]
    rw [built_sound b hc,hb]
   rw [this]
   exact Did.of hg
  split at h
  ·rename_i f hc
   unfold aCallV at h
   split at h
   ·rename_i g first hf
    simp only [Option.map_eq_some_iff] at h
    obtain ⟨l,hl,rfl⟩:=h
    obtain ⟨us,h1,h2⟩:=call_sound (P:=P) (w:=w) (ty:=ty) hρ hc hf hl
    exact ⟨us,h1,h2⟩
   ·cases h
  ·rename_i b hc
   split at h
   ·unfold aLen at h
    split at h
    ·rename_i x t hx ht
     simp only [Option.bind_eq_some_iff,Option.map_eq_some_iff] at h
     obtain ⟨d,hd,v,hv,r,hr,rfl⟩:=h
     obtain ⟨u,hu,hrun⟩:=len_sound (P:=P) (w:=w) (ty:=ty) (hT _ _ hd) (hρ _ _ hv) hr
     exact bi _ _ hc (by rw [arr1 hx,arr1 ht]; simp [builtin]) (Gives.same hM hu hrun)
    ·cases h
   ·unfold aCap at h
    split at h
    ·rename_i x t hx ht
     simp only [Option.bind_eq_some_iff,Option.map_eq_some_iff] at h
     obtain ⟨d,hd,v,hv,r,hr,rfl⟩:=h
     obtain ⟨u,hu,hrun⟩:=cap_sound (P:=P) (w:=w) (ty:=ty) (hT _ _ hd) (hρ _ _ hv) hr
     exact bi _ _ hc (by rw [arr1 hx,arr1 ht]; simp [builtin]) (Gives.same hM hu hrun)
    ·cases h
   ·unfold aMin at h
    split at h
    ·rename_i x y hx
     simp only [Option.bind_eq_some_iff,Option.map_eq_some_iff] at h
     obtain ⟨a,ha,b,hb,p,hp,rfl⟩:=h
     obtain ⟨h1,k,h2⟩:=ints_conc hp (hρ _ _ ha) (hρ _ _ hb)
     refine bi _ (Builtin.min_ c.argTypes ty (c.args.map σ)) hc rfl (Gives.same hM (u:=.int p.1 (if p.2.2 < p.2.1 then p.2.2 else p.2.1)) rfl ?_)
     rw [arr2 hx]
     simp [Builtin.min_,h1,h2,Builtin.min2]
    ·cases h
   ·unfold aAppend at h
    split at h
    ·rename_i x y t u hx ht
     simp only [Option.bind_eq_some_iff] at h
     obtain ⟨d,hd,du,hdu,z,hz,s,hs,n,hn,h⟩:=h
     have hu:=hT _ _ hdu
     split at h
     ·rename_i k n' hk
      split at h
      ·rename_i hb
       have hrep:∀ φ:Pl,∀ zu:Value,z.1.conc φ = some zu → concs φ (List.replicate n'.toNat z.1) = some (List.replicate n'.toNat zu):=fun φ zu h => concs_replicate h _
       obtain ⟨e,i,zv,zu,h1,h2,h3,h4,h5,h6,h7⟩:=elem1_zero hT (hT _ _ hd) hz
       have hcn:=hρ _ _ hn
       simp only [V.conc,Option.some.injEq] at hcn
       obtain ⟨v,M',rfl,hg⟩:=append_sound (ty:=ty) (u:=u) (x:=σ y) hT (hT _ _ hd) hM hz (hρ _ _ hs) (hrep φ zu (h7 φ)) (fun i' zu' hi' hby hzu => by
        rw [h7 φ] at hzu
        injection hzu with hzu; subst hzu
        have hii:=hi' e h1
        rw [h2] at hii
        injection hii with hii; subst hii
        refine ⟨.inr ⟨⟨_,kind_int hu hk⟩,k,?_,?_,?_,by simp⟩⟩
        ·rw [← hcn,List.length_replicate]
         congr 1
         omega
        ·rw [List.length_replicate,hby]
         have:((n'.toNat * z.2:Nat):Int) = n' * z.2:=by
          rw [Int.natCast_mul,Int.toNat_of_nonneg hb.1]
         omega
        ·rw [List.length_replicate]; omega) h
       exact bi _ _ hc (by rw [arr2 hx,arr2 ht]; simp [builtin]) hg
      ·cases h
     ·rename_i e' n' hk
      simp only [Option.bind_eq_some_iff] at h
      obtain ⟨l,hl,h⟩:=h
      obtain ⟨us,h1,h2⟩:=src_slice (P:=P) (u:=u) hM (hρ _ _ hn) hl (kind_slice hu hk)
      obtain ⟨v,M',rfl,hg⟩:=append_sound (ty:=ty) (u:=u) (x:=σ y) hT (hT _ _ hd) hM hz (hρ _ _ hs) h1 (fun i zu _ _ _ => h2 i zu) h
      exact bi _ _ hc (by rw [arr2 hx,arr2 ht]; simp [builtin]) hg
     ·cases h
    ·cases h
   ·unfold aCopy at h
    split at h
    ·rename_i x y t u hx ht
     simp only [Option.bind_eq_some_iff] at h
     obtain ⟨d,hd,du,hdu,z,hz,s,hs,n,hn,h⟩:=h
     split at h
     ·simp only [Option.bind_eq_some_iff] at h
      obtain ⟨l,hl,h⟩:=h
      obtain ⟨v,M',rfl,hg⟩:=copy_sound (P:=P) (ty:=ty) (u:=u) hT (hT _ _ hd) hM hz (hρ _ _ hs) (hρ _ _ hn) hl h
      exact bi _ _ hc (by rw [arr2 hx,arr2 ht]; simp [builtin]) hg
     ·cases h
    ·cases h
   ·cases h
  ·cases h
 ·cases h
end
end
section
structure St where
 ts:List (Option V)
 ds:List (FuncId × List V)
 M:Mem
 deriving Inhabited
def undefV:V:=.tup []
def St.get (s:St):Operand → Option V
 | .tmp t => match s.ts[t]? with
  | some v => v
  | none => none
 | .const v => ofVal v
 | .global g => some (.gptr g 0)
 | .func f => some (.fn f [])
def St.put (s:St) (dst:Option Tmp) (v:V) (M:Mem):St :=
 match dst with
 | some d => { s with ts:=s.ts.set d (some v),M:=M }
 | none => { s with M:=M }
def gave (ops:Array Oper) (s:St) (j:Nat):Option (Option Bool) :=
 match ops[j]? with
 | some p => match p.dst with
  | some d => match s.ts[d]? with
   | some (some (.bool b)) => some (some b)
   | some (some (.tup [])) => some none
   | _ => none
  | none => none
 | none => none
def wants (ops:Array Oper) (s:St) (o:Oper):Option Bool :=
 match o.guard with
 | none => some true
 | some (j,want) => (gave ops s j).map fun b => b == some want
inductive AExit where
 | normal
 | exit (id:Nat)
 | goto (l:Nat)
 | ret
 deriving DecidableEq,Inhabited
def AExit.real:AExit → Exit
 | .normal => .normal
 | .exit id => .exit id
 | .goto l => .goto l
 | .ret => .ret
def defC (φ:Pl) (d:FuncId × List V):Option Deferred:=(concs φ d.2).map fun us => { target:=.fn (.func d.1) #[],args:=us.toArray }
def defsC (φ:Pl):List (FuncId × List V) → Option (List Deferred)
 | [] => some []
 | d :: ds => (defC φ d).bind fun x => (defsC φ ds).map (x :: ·)
theorem defsC_mono {φ φ':Pl} (h:φ.le φ'):∀ {ds:List (FuncId × List V)} {l:List Deferred},defsC φ ds = some l → defsC φ' ds = some l
 | [],l,e => by simpa [defsC] using e
 | d :: ds,l,e => by
  simp only [defsC,defC,Option.bind_eq_some_iff,Option.map_eq_some_iff] at e ⊢
  obtain ⟨x,⟨us,h1,rfl⟩,l',h2,rfl⟩:=e
  exact ⟨_,⟨us,concs_mono h _ h1,rfl⟩,l',defsC_mono h h2,rfl⟩
section
variable (G:GF) (prot:Pr) (W0:World)
structure SR (φ:Pl) (s:St) (a:Act) (w:World):Prop where
 mr:MR G prot W0 φ s.M w
 size:a.tmps.size = s.ts.length
 tm:∀ (t:Nat) (v:V),s.ts[t]? = some (some v) → ∃ u,v.conc φ = some u ∧ a.tmps[t]? = some u
 ds:defsC φ s.ds = some a.defers
end
section
variable {P:Program} {G:GF} {X:Rule} {T:Nat → Option Ty} {prot:Pr} {W0 w:World} {φ:Pl} {s:St} {a:Act} {Q:Exit → Act → World → Prop}
theorem SR.get (h:SR G prot W0 φ s a w) (x:Operand) (v:V) (hx:s.get x = some v):v.conc φ = some (a.eval x):=by
 cases x with
 | tmp t =>
  simp only [St.get] at hx
  split at hx
  ·rename_i v' hv
   subst hx
   obtain ⟨u,h1,h2⟩:=h.tm t v hv
   rw [h1]
   simp only [Act.eval]
   rw [Array.getD_eq_getD_getElem?,h2]; rfl
  ·cases hx
 | const c => exact ofVal_conc hx
 | global g => simp only [St.get,Option.some.injEq] at hx; subst hx; simp [V.conc,Act.eval]
 | func f => simp only [St.get,Option.some.injEq] at hx; subst hx; simp [V.conc,Act.eval,concs]
theorem SR.put (h:SR G prot W0 φ s a w) {φ':Pl} (hle:φ.le φ') {M':Mem} {w':World} (hM:MR G prot W0 φ' M' w') {v:V} {u:Value} (hv:v.conc φ' = some u) (dst:Option Tmp) :
  SR G prot W0 φ' (s.put dst v M') (a.put dst u) w':=by
 cases dst with
 | none =>
  refine ⟨hM,h.size,fun t x hx => ?_,defsC_mono hle h.ds⟩
  obtain ⟨y,h1,h2⟩:=h.tm t x hx
  exact ⟨y,V.conc_mono hle _ h1,h2⟩
 | some d =>
  refine ⟨hM,by simp [Act.put,St.put,h.size],fun t x hx => ?_,defsC_mono hle h.ds⟩
  simp only [St.put] at hx
  simp only [Act.put]
  by_cases ht:t = d
  ·subst ht
   have hlt:t < s.ts.length:=by
    have:=(List.getElem?_eq_some_iff.1 hx).1; simpa using this
   rw [List.getElem?_set_self hlt] at hx
   injection hx with hx; injection hx with hx; subst hx
   refine ⟨u,hv,?_⟩
   rw [Array.getElem?_setIfInBounds_self]; simp [h.size,hlt]
  ·rw [List.getElem?_set_ne (Ne.symm ht)] at hx
   obtain ⟨y,h1,h2⟩:=h.tm t x hx
   refine ⟨y,V.conc_mono hle _ h1,?_⟩
   rw [Array.getElem?_setIfInBounds_ne (Ne.symm ht)]; exact h2
theorem SR.gave (h:SR G prot W0 φ s a w) {ops:Array Oper} {j:Nat} {b:Option Bool} (hj:gave ops s j = some b):yielded ops a.tmps j = b:=by
 unfold Rel.gave at hj
 unfold yielded
 split at hj
 ·rename_i p hp
  split at hj
  ·rename_i d hd
   split at hj
   ·rename_i x hx
    injection hj with hj; subst hj
    obtain ⟨u,h1,h2⟩:=h.tm d _ hx
    simp only [V.conc,Option.some.injEq] at h1; subst h1
    simp [hp,hd,h2]
   ·rename_i hx
    injection hj with hj; subst hj
    obtain ⟨u,h1,h2⟩:=h.tm d _ hx
    simp only [V.conc,concs,Option.map_some,Option.some.injEq] at h1; subst h1
    simp [hp,hd,h2]
   ·cases hj
  ·cases hj
 ·cases hj
theorem SR.wants (h:SR G prot W0 φ s a w) {ops:Array Oper} {o:Oper} {b:Bool} (hb:wants ops s o = some b):Region.wanted o (yielded ops a.tmps) = b:=by
 unfold Rel.wants at hb
 unfold Region.wanted
 cases hg:o.guard with
 | none => simp only [hg,Option.some.injEq] at hb; subst hb; rfl
 | some p =>
  obtain ⟨j,want⟩:=p
  simp only [hg,Option.map_eq_some_iff] at hb
  obtain ⟨y,h1,rfl⟩:=hb
  simp only [h.gave h1]
end
def Plain (P : Program) (f : FuncId) : Prop := ∃ (fn : Func) (c : Code), P.funcs[f]? = some fn ∧ fn.name ≠ "runtime.NumGoroutine" ∧ fn.body = some c
def Back (G:GF) (prot:Pr) (W0:World) (φ:Pl) (v:V) (M':Mem):Ending → World → Prop
 | .returned u,w' => ∃ φ',φ.le φ' ∧ v.conc φ' = some u ∧ MR G prot W0 φ' M' w'
 | _,_ => False
def ACall (P:Program) (G:GF) (f:FuncId) (args:List V) (M:Mem) (v:V) (M':Mem):Prop :=
 Plain P f ∧ ∀ (prot:Pr) (W0:World) (φ:Pl) (w:World) (us:List Value),MR G prot W0 φ M w → concs φ args = some us → Calls P f us.toArray w (Back G prot W0 φ v M')
theorem Plain.run {P:Program} {f:FuncId} (h:Plain P f) (us:Array Value) (w:World):(callFunc f us).run P w = .ok (.enter f us) w:=by
 obtain ⟨fn,c,h1,h2,h3⟩:=h
 simp [callFunc,h1,h2,h3]
def AW (P:Program) (G:GF) (c:Code) (s:St) (x:AExit) (s':St):Prop :=
 ∀ (prot:Pr) (W0:World) (φ:Pl) (a:Act) (w:World) (Q:Exit → Act → World → Prop),SR G prot W0 φ s a w → (∀ φ' a' w',φ.le φ' → SR G prot W0 φ' s' a' w' → Q x.real a' w') → c.wp P Q a w
def AOps (P:Program) (G:GF) (ops:Array Oper) (l:List Nat) (s s':St):Prop :=
 ∀ (prot:Pr) (W0:World) (φ:Pl) (a:Act) (w:World) (Q:Exit → Act → World → Prop),SR G prot W0 φ s a w → (∀ φ' a' w',φ.le φ' → SR G prot W0 φ' s' a' w' → Q .normal a' w') → wpOps P ops Q l a w
def AOp (P:Program) (G:GF) (ops:Array Oper) (i:Nat) (s s':St):Prop :=
 ∀ (prot:Pr) (W0:World) (φ:Pl) (a:Act) (w:World) (Q:Exit → Act → World → Prop) (K:Act → World → Prop),SR G prot W0 φ s a w → (∀ φ' a' w',φ.le φ' → SR G prot W0 φ' s' a' w' → K a' w') → wpOp P ops Q i K a w
section
variable {P:Program} {G:GF} {X:Rule} {T:Nat → Option Ty} {s s1 s':St} {x:AExit} {ops:Array Oper}
theorem AOps.nil:AOps P G ops [] s s:=fun _ _ _ _ _ _ h k => k _ _ _ (Pl.le_refl _) h
theorem AOps.cons {i:Nat} {l:List Nat} (h:AOp P G ops i s s1) (h':AOps P G ops l s1 s'):AOps P G ops (i :: l) s s':=by
 intro prot W0 φ a w Q hs hk
 rw [wpOps_cons]
 exact h prot W0 φ a w Q _ hs fun φ' a' w' hle hs' => h' prot W0 φ' a' w' Q hs' fun φ'' a'' w'' hle' hs'' => hk φ'' a'' w'' (Pl.le_trans hle hle') hs''
theorem undef_conc (φ:Pl):undefV.conc φ = some undef:=by simp [undefV,V.conc,concs,undef]
def AOpV (P:Program) (G:GF) (ops:Array Oper) (i:Nat) (s:St) (dst:Option Tmp) (v:V) (M':Mem):Prop :=
 ∀ (prot:Pr) (W0:World) (φ:Pl) (a:Act) (w:World) (Q:Exit → Act → World → Prop) (K:Act → World → Prop),SR G prot W0 φ s a w →
  (∀ φ' u w',φ.le φ' → v.conc φ' = some u → MR G prot W0 φ' M' w' → K (a.put dst u) w') → wpOp P ops Q i K a w
theorem AOpV.op {i:Nat} {dst:Option Tmp} {v:V} {M':Mem} (h:AOpV P G ops i s dst v M'):AOp P G ops i s (s.put dst v M') :=
 fun prot W0 φ a w Q K hs hk => h prot W0 φ a w Q K hs fun φ' _ w' hle hv hM => hk φ' _ w' hle (hs.put hle hM hv dst)
theorem AOpV.idle {i:Nat} {o:Oper} (ho:ops[i]? = some o) (hw:wants ops s o = some false):AOpV P G ops i s o.dst undefV s.M:=by
 intro prot W0 φ a w Q K hs hk
 unfold wpOp
 simp only [ho,hs.wants hw]
 exact hk φ _ w (Pl.le_refl _) (undef_conc φ) hs.mr
def Makes (P:Program) (G:GF) (M:Mem) (v:V) (M':Mem):R → Prop
 | .pure v' => v = v' ∧ M' = M
 | .val v' M1 => v = v' ∧ M' = M1
 | .skip M1 => v = undefV ∧ M' = M1
 | .call f args => ACall P G f args M v M'
theorem AOpV.step (hG:GOK G) (hX:RuleOK G X) (hT:∀ (t:TypeId) (d:Ty),T t = some d → d.ok P t) {i:Nat} {o:Oper} (ho:ops[i]? = some o) (hw:wants ops s o = some true) {r:R} (hr:astep X T s.get s.M o.op = some r)
  {v:V} {M':Mem} (hs':Makes P G s.M v M' r):AOpV P G ops i s o.dst v M':=by
 intro prot W0 φ a w Q K hs hk
 unfold wpOp
 simp only [ho,hs.wants hw,if_true]
 left
 unfold Oper.wp
 have hd:=astep_sound (P:=P) (σ:=a.eval) hG hX hT (fun x v hx => hs.get x v hx) hs.mr hr
 cases r with
 | pure v' =>
  obtain ⟨φ',u,w',h1,h2,h3,h4⟩:=hd
  obtain ⟨rfl,rfl⟩:=hs'
  rw [h1]
  exact hk φ' _ _ h2 h3 h4
 | val v' M1 =>
  obtain ⟨φ',u,w',h1,h2,h3,h4⟩:=hd
  obtain ⟨rfl,rfl⟩:=hs'
  rw [h1]
  exact hk φ' _ _ h2 h3 h4
 | skip M1 =>
  obtain ⟨φ',w',h1,h2,h4⟩:=hd
  obtain ⟨rfl,rfl⟩:=hs'
  rw [h1]
  exact hk φ' _ _ h2 (undef_conc φ') h4
 | call f args =>
  obtain ⟨us,h1,h2⟩:=hd
  have hc:ACall P G f args s.M v M':=hs'
  rw [h2,hc.1.run]
  show Calls P f us.toArray w _
  refine Calls.mono (hc.2 prot W0 φ w us hs.mr h1) ?_
  intro e w' hb
  cases e with
  | returned u =>
   obtain ⟨φ',h3,h4,h5⟩:=hb
   exact hk φ' _ _ h3 h4 h5
  | panicked c => exact hb.elim
  | outgrown => exact hb.elim
theorem AOp.defer {i:Nat} {o:Oper} {c:Call} (ho:ops[i]? = some o) (hw:wants ops s o = some true) (hop:o.op = .defer c) {f:Operand} (hc:c.callee = .value f) {g:FuncId} {first l:List V} (hf:s.get f = some (.fn g first)) (hl:evs s.get c.args.toList = some l) :
  AOp P G ops i s ({ s with ds:=(g,first ++ l) :: s.ds }.put o.dst undefV s.M):=by
 intro prot W0 φ a w Q K hs hk
 unfold wpOp
 simp only [ho,hs.wants hw,if_true]
 left
 unfold Oper.wp
 have h1:=hs.get f _ hf
 simp only [V.conc,Option.map_eq_some_iff] at h1
 obtain ⟨xs,hx,he⟩:=h1
 have h2:=evs_sound (fun x v hx => hs.get x v hx) hl
 have hrun:(execOp a.eval o).run P w = .ok (.defer { target:=.fn (.func g) #[],args:=(xs ++ c.args.toList.map a.eval).toArray }) w:=by
  obtain ⟨dst,op,ty,pos,after,guard⟩:=o
  simp only at hop; subst hop
  have he':=he.symm
  simp only [execOp,resolve,hc,he',Deferred.ofValue,Sem.run_bind,Sem.run_pure,Result.andThen_ok]
  congr 3
  apply Array.ext'
  simp
 rw [hrun]
 refine hk φ _ _ (Pl.le_refl _) ?_
 have hs2:SR G prot W0 φ { s with ds:=(g,first ++ l) :: s.ds } { a with defers:={ target:=.fn (.func g) #[],args:=(xs ++ c.args.toList.map a.eval).toArray } :: a.defers } w:=by
  refine ⟨hs.mr,hs.size,hs.tm,?_⟩
  simp only [defsC,defC,concs_append hx h2,Option.map_some,Option.bind_some,hs.ds]
 exact hs2.put (Pl.le_refl _) hs.mr (undef_conc φ) o.dst
theorem AW.region {id:Nat} (h:AOps P G ops (List.range ops.size) s s'):AW P G (.region id ops false) s .normal s' :=
 fun prot W0 φ a w Q hs hk => wp_region (h prot W0 φ a w Q hs hk)
theorem AW.skip:AW P G .skip s .normal s:=fun _ _ _ _ _ _ hs hk => wp_skip (hk _ _ _ (Pl.le_refl _) hs)
theorem AW.label {l:Nat}:AW P G (.label l) s .normal s:=fun _ _ _ _ _ _ hs hk => wp_label (hk _ _ _ (Pl.le_refl _) hs)
theorem AW.exit {id:Nat}:AW P G (.exit id) s (.exit id) s:=fun _ _ _ _ _ _ hs hk => wp_exit (hk _ _ _ (Pl.le_refl _) hs)
theorem AW.goto {l:Nat}:AW P G (.goto l) s (.goto l) s:=fun _ _ _ _ _ _ hs hk => wp_goto (hk _ _ _ (Pl.le_refl _) hs)
theorem AW.ret:AW P G .ret s .ret s:=fun _ _ _ _ _ _ hs hk => wp_ret (hk _ _ _ (Pl.le_refl _) hs)
theorem AW.seq {a b:Code} (h:AW P G a s .normal s1) (h':AW P G b s1 x s'):AW P G (.seq a b) s x s' :=
 fun prot W0 φ ac w Q hs hk => wp_seq (h prot W0 φ ac w _ hs fun φ' a' w' hle hs' => h' prot W0 φ' a' w' Q hs' fun φ'' a'' w'' hle' hs'' => hk φ'' a'' w'' (Pl.le_trans hle hle') hs'')
theorem AW.seq_out {a b:Code} (h:AW P G a s x s') (hx:x ≠ .normal):AW P G (.seq a b) s x s' :=
 fun prot W0 φ ac w Q hs hk => wp_seq (h prot W0 φ ac w _ hs fun φ' a' w' hle hs' => by
  have:=hk φ' a' w' hle hs'
  cases x <;> first | exact absurd rfl hx | exact this)
theorem AW.cond {c:Operand} {a b:Code} {t:Bool} (hc:s.get c = some (.bool t)) (h:AW P G (if t then a else b) s x s'):AW P G (.cond c a b) s x s' :=
 fun prot W0 φ ac w Q hs hk => by
  have h1:=hs.get c _ hc
  simp only [V.conc,Option.some.injEq] at h1
  exact wp_cond h1.symm (h prot W0 φ ac w Q hs hk)
def inBlk (id:Nat):AExit → AExit
 | .exit i => if i = id then .normal else .exit i
 | x => x
theorem AW.block {id:Nat} {c:Code} (h:AW P G c s x s'):AW P G (.block id c) s (inBlk id x) s' :=
 fun prot W0 φ ac w Q hs hk => wp_block (h prot W0 φ ac w _ hs fun φ' a' w' hle hs' => by
  have:=hk φ' a' w' hle hs'
  cases x with
  | exit i =>
   simp only [AExit.real,Exit.inBlock]
   split
   ·rename_i hi; simp only [inBlk,hi,if_true,AExit.real] at this; exact this
   ·rename_i hi; simp only [inBlk,hi,if_false,AExit.real] at this; exact this
  | normal => exact this
  | goto l => exact this
  | ret => exact this)
inductive Its (P:Program) (G:GF) (c:Code):Nat → St → AExit → St → Prop
 | out {s:St} {x:AExit} {s':St} (h:AW P G c s x s') (hx:x ≠ .normal):Its P G c 0 s x s'
 | next {n:Nat} {s s1:St} {x:AExit} {s':St} (h:AW P G c s .normal s1) (h':Its P G c n s1 x s'):Its P G c (n + 1) s x s'
theorem wp_loop_n {c:Code} {Q:Exit → Act → World → Prop} {a:Act} {w:World} (J:Nat → Act → World → Prop) {n:Nat} (h0:J n a w)
  (round:∀ n a w,J n a w → c.wp P (Exit.then (fun a' w' => ∃ m,m < n ∧ J m a' w') Q) a w):(Code.loop c).wp P Q a w:=by
 intro b k cs
 have key:∀ n a w,J n a w → ∃ e a' w',Q e a' w' ∧ Arrives P (lone (b.at a (.code c :: .inLoop c :: k)) cs w) b k cs e a' w':=by
  intro n
  induction n using Nat.strongRecOn with
  | _ n ih =>
   intro a w hJ
   obtain ⟨e,a₁,w₁,hq,harr⟩:=round n a w hJ b (.inLoop c :: k) cs
   cases e with
   | normal =>
    obtain ⟨m,hm,hJ'⟩:=hq
    obtain ⟨e₂,a₂,w₂,hq₂,harr₂⟩:=ih m hm a₁ w₁ hJ'
    exact ⟨e₂,a₂,w₂,hq₂,.of_steps (Steps.trans harr (.one step_inLoop)) harr₂⟩
   | exit id => exact ⟨_,a₁,w₁,hq,.pass (x:=.inLoop c) rfl (fun _ _ => .inl (by simp)) harr⟩
   | goto l => exact ⟨_,a₁,w₁,hq,.pass (x:=.inLoop c) rfl (fun _ _ => .inl (by simp)) harr⟩
   | ret => exact ⟨_,a₁,w₁,hq,.pass (x:=.inLoop c) rfl (fun _ _ => .inl (by simp)) harr⟩
   | panic ch => exact ⟨_,a₁,w₁,hq,.pass (x:=.inLoop c) rfl (fun _ _ => .inl (by simp)) harr⟩
   | outgrown => exact ⟨_,a₁,w₁,hq,.pass (x:=.inLoop c) rfl (fun _ _ => .inl (by simp)) harr⟩
 obtain ⟨e,a',w',hq,harr⟩:=key n a w h0
 exact ⟨e,a',w',hq,.of_steps (.one step_loop) harr⟩
theorem AW.loop {c:Code} {n:Nat} (h:Its P G c n s x s'):AW P G (.loop c) s x s':=by
 intro prot W0 φ ac w Q hs hk
 refine wp_loop_n (fun n a w => ∃ φ1 s1,φ.le φ1 ∧ SR G prot W0 φ1 s1 a w ∧ Its P G c n s1 x s') (n:=n) ⟨φ,s,Pl.le_refl _,hs,h⟩ ?_
 rintro n a w ⟨φ1,s1,hle,hs1,hI⟩
 cases hI with
 | out h hx =>
  refine h prot W0 φ1 a w _ hs1 fun φ' a' w' hle' hs' => ?_
  have:=hk φ' a' w' (Pl.le_trans hle hle') hs'
  cases x <;> first | exact absurd rfl hx | exact this
 | next h h' =>
  exact h prot W0 φ1 a w _ hs1 fun φ' a' w' hle' hs' => ⟨_,Nat.lt_succ_self _,φ',_,Pl.le_trans hle hle',hs',h'⟩
inductive Jmp (P:Program) (G:GF) (c:Code):Nat → Code → St → AExit → St → Prop
 | out {d:Code} {s:St} {x:AExit} {s':St} (h:AW P G d s x s') (hx:∀ l,x = .goto l → findLabel c l = none):Jmp P G c 0 d s x s'
 | next {n:Nat} {d rest:Code} {l:Nat} {s s1:St} {x:AExit} {s':St} (h:AW P G d s (.goto l) s1) (hl:findLabel c l = some rest) (h':Jmp P G c n rest s1 x s'):Jmp P G c (n + 1) d s x s'
theorem wp_scope_n {c:Code} {Q:Exit → Act → World → Prop} {a:Act} {w:World} (J:Nat → Code → Act → World → Prop) {n:Nat} (h0:J n c a w)
  (pass:∀ n d a w,J n d a w → d.wp P (fun e a' w' => match e with
   | .goto l => match findLabel c l with
    | some rest => ∃ m,m < n ∧ J m rest a' w'
    | none => Q (.goto l) a' w'
   | e => Q e a' w') a w):(Code.scope c).wp P Q a w:=by
 intro b k cs
 have key:∀ n d a w,J n d a w → ∃ e a' w',Q e a' w' ∧ Arrives P (lone (b.at a (.code d :: .inScope c :: k)) cs w) b k cs e a' w':=by
  intro n
  induction n using Nat.strongRecOn with
  | _ n ih =>
   intro d a w hJ
   obtain ⟨e,a₁,w₁,hq,harr⟩:=pass n d a w hJ b (.inScope c :: k) cs
   cases e with
   | normal => exact ⟨.normal,a₁,w₁,hq,Steps.trans harr (.one step_inScope)⟩
   | exit id => exact ⟨.exit id,a₁,w₁,hq,fun k' hk => harr k' (by simp [exitTo,hk])⟩
   | goto l =>
    simp only at hq
    split at hq
    ·rename_i rest hf
     obtain ⟨m,hm,hJ'⟩:=hq
     have hg:gotoIn l (.inScope c :: k) = some (.code rest :: .inScope c :: k):=by simp [gotoIn,hf]
     obtain ⟨e₂,a₂,w₂,hq₂,harr₂⟩:=ih m hm rest a₁ w₁ hJ'
     exact ⟨e₂,a₂,w₂,hq₂,.of_steps (harr _ hg) harr₂⟩
    ·rename_i hf
     exact ⟨.goto l,a₁,w₁,hq,fun k' hk => harr k' (by simp [gotoIn,hf,hk])⟩
   | ret => exact ⟨_,a₁,w₁,hq,harr⟩
   | panic ch => exact ⟨_,a₁,w₁,hq,harr⟩
   | outgrown => exact ⟨_,a₁,w₁,hq,harr⟩
 obtain ⟨e,a₁,w₁,hq,harr⟩:=key n c a w h0
 exact ⟨e,a₁,w₁,hq,.of_steps (.one step_scope) harr⟩
theorem AW.scope {c:Code} {n:Nat} (h:Jmp P G c n c s x s'):AW P G (.scope c) s x s':=by
 intro prot W0 φ ac w Q hs hk
 refine wp_scope_n (fun n d a w => ∃ φ1 s1,φ.le φ1 ∧ SR G prot W0 φ1 s1 a w ∧ Jmp P G c n d s1 x s') (n:=n) ⟨φ,s,Pl.le_refl _,hs,h⟩ ?_
 rintro n d a w ⟨φ1,s1,hle,hs1,hI⟩
 cases hI with
 | out h hx =>
  refine h prot W0 φ1 a w _ hs1 fun φ' a' w' hle' hs' => ?_
  have:=hk φ' a' w' (Pl.le_trans hle hle') hs'
  cases x with
  | goto l => simp only [AExit.real,hx l rfl]; exact this
  | _ => exact this
 | next h hl h' =>
  refine h prot W0 φ1 a w _ hs1 fun φ' a' w' hle' hs' => ?_
  simp only [AExit.real,hl]
  exact ⟨_,Nat.lt_succ_self _,φ',_,Pl.le_trans hle hle',hs',h'⟩
end
end
section
section
variable {P:Program} {G:GF} {prot:Pr} {W0 w w':World} {φ φ1 φ':Pl} {M M1 M':Mem}
def ward (prot:Pr) (φ:Pl) (M:Mem) (S:Nat → Prop) (g:Nat):Prop:=prot.p g ∨ ∃ (b:Nat) (k:Blk) (p:Place),M[b]? = some k ∧ k.isRow = true ∧ S b ∧ φ b = some p ∧ p.1 = g
theorem ward_lt (h:MR G prot W0 φ M w) {S:Nat → Prop} {g:Nat} (hg:ward prot φ M S g):g < w.heap.size:=by
 rcases hg with hg | ⟨b,k,p,h1,h2,_,h3,rfl⟩
 ·exact Nat.lt_of_lt_of_le (h.lt g hg) h.size
 ·exact h.inheap h1 h2 h3
theorem MR.view (h:MR G prot W0 φ M w) (S:Nat → Prop) (fresh:∀ i,M1.length ≤ i → φ1 i = none)
  (own:∀ (i:Nat) (cs:List V) (gs:Nat),M1[i]? = some (.own cs gs) → ∃ b,¬ S b ∧ M[b]? = some (.own cs gs) ∧ φ1 i = φ b ∧ ∃ us,concs φ1 cs = some us ∧ concs φ cs = some us)
  (inj:∀ (i j b c:Nat) (k l:Blk),M1[i]? = some k → M1[j]? = some l → k.isRow = true → l.isRow = true → i ≠ j → M[b]? = some k → φ1 i = φ b → ¬ S b → (∃ cs gs,k = .own cs gs) → (∃ p q,φ1 j = some p ∧ φ c = some q ∧ p.1 = q.1 ∧ ∃ l',M[c]? = some l' ∧ l'.isRow = true) → b ≠ c)
  (ro:∀ (i:Nat) (cs:List V),M1[i]? = some (.ro cs) → ∃ (p:Place) (us:List Value) (c:Nat) (q:Place) (l:Blk),φ1 i = some p ∧ concs φ1 cs = some us ∧ (∀ (j:Nat) (u:Value),us[j]? = some u → w.cell? ⟨p.1,p.2.1 + j,none⟩ = some u) ∧ φ c = some q ∧ p.1 = q.1 ∧ M[c]? = some l ∧ l.isRow = true ∧ cs.length ≤ p.2.2.1)
  (eqn:∀ (i:Nat) (d:Def) (v:V),M1[i]? = some (.eqn d v) → ∃ (x:V) (u:Value),d.val G φ1 = some x ∧ x.conc .no = some u ∧ v.conc φ1 = some u) :
  MR G ⟨ward prot φ M S,M1.length,φ1⟩ w φ1 M1 w:=by
 refine ⟨rfl,rfl,rfl,Nat.le_refl _,fun g hg => ward_lt h hg,fun g _ => rfl,?_,fresh,Nat.le_refl _,fun _ _ => rfl,?_,?_,?_,eqn⟩
 ·intro g cs hg
  obtain ⟨h1,us,cur,e,fr,h2,h3,h4⟩:=h.laid g cs hg
  exact ⟨.inl h1,us,cur,e,fr,h2,(h.kept g h1).trans h3,h4⟩
 ·intro i cs gs hi
  obtain ⟨b,hS,hb,hφ,us,h1,h2⟩:=own i cs gs hi
  obtain ⟨p,us',cur,e,h3,h4,h5,h6,h7,h8⟩:=h.own b cs gs hb
  rw [h2] at h5; injection h5 with h5; subst h5
  refine ⟨p,us,cur,e,hφ.trans h3,?_,h1,h6,h7,h8⟩
  rintro (hp | ⟨c,k,q,hc,hk,hSc,hq,he⟩)
  ·exact h4 hp
  ·by_cases hbc:b = c
   ·subst hbc; exact hS hSc
   ·exact h.sep b c cs gs k p q hb hc hk hbc h3 hq he.symm
 ·intro i j cs gs k p q hi hj hk hne hp hq he
  obtain ⟨b,hS,hb,hφ,us,h1,h2⟩:=own i cs gs hi
  rw [hφ] at hp
  have hc:∃ c q' l,φ c = some q' ∧ q.1 = q'.1 ∧ M[c]? = some l ∧ l.isRow = true:=by
   cases k with
   | dead => simp [Blk.isRow] at hk
   | eqn d v => simp [Blk.isRow] at hk
   | own ds gs' =>
    obtain ⟨c,_,hc,hφc,_⟩:=own j ds gs' hj
    exact ⟨c,q,_,hφc ▸ hq,rfl,hc,rfl⟩
   | ro ds =>
    obtain ⟨p',us',c,q',l,h3,_,_,h4,h5,h6,h7,_⟩:=ro j ds hj
    have:p' = q:=Option.some.inj (h3.symm.trans hq)
    subst this
    exact ⟨c,q',l,h4,h5,h6,h7⟩
  obtain ⟨c,q',l,hc1,hc2,hc3,hc4⟩:=hc
  have hbc:=inj i j b c _ k hi hj rfl hk hne hb hφ hS ⟨cs,gs,rfl⟩ ⟨q,q',hq,hc1,hc2,l,hc3,hc4⟩
  exact h.sep b c cs gs l p q' hb hc3 hc4 hbc hp hc1 (he.trans hc2)
 ·intro i cs hi
  obtain ⟨p,us,c,q,l,h1,h2,h3,h4,h5,h6,h7,h70⟩:=ro i cs hi
  obtain ⟨cur,e,fr,hrow⟩:∃ cur e fr,w.heap[q.1]? = some (.cells cur e fr):=by
   cases l with
   | dead => simp [Blk.isRow] at h7
   | eqn d v => simp [Blk.isRow] at h7
   | own ds gs =>
    obtain ⟨q',_,cur,e,h8,_,_,⟨_,h9,_⟩,_⟩:=h.own c ds gs h6
    obtain rfl:q' = q:=Option.some.inj (h8.symm.trans h4)
    exact ⟨cur,e,_,h9⟩
   | ro ds =>
    obtain ⟨q',_,cur,e,fr,h8,_,h9,_⟩:=h.ro c ds h6
    obtain rfl:q' = q:=Option.some.inj (h8.symm.trans h4)
    exact ⟨cur,e,_,h9⟩
  rw [← h5] at hrow
  refine ⟨p,us,cur,e,fr,h1,h2,hrow,?_,h70⟩
  rw [List.prefix_iff_getElem?]
  intro j hj
  have:=h3 j us[j] (List.getElem?_eq_getElem hj)
  rw [cell_of_row w p.1 _ cur e fr hrow] at this
  simpa [List.getElem?_drop] using this
theorem MR.graft (h:MR G prot W0 φ M w) {prot1:Pr} (h1:MR G prot1 w φ1 M1 w') (hp:∀ g,prot.p g → prot1.p g) (hnb:prot.nb ≤ M'.length) (hbase:∀ b,b < prot.nb → φ' b = prot.base b) (fresh:∀ i,M'.length ≤ i → φ' i = none)
  (own:∀ (b:Nat) (cs:List V) (gs:Nat),M'[b]? = some (.own cs gs) →
   (M[b]? = some (.own cs gs) ∧ φ' b = φ b ∧ (∀ p,φ b = some p → prot1.p p.1) ∧ ∀ us,concs φ cs = some us → concs φ' cs = some us) ∨
   (∃ i ds,M1[i]? = some (.own ds gs) ∧ φ' b = φ1 i ∧ ∀ us,concs φ1 ds = some us → concs φ' cs = some us))
  (ro:∀ (b:Nat) (cs:List V),M'[b]? = some (.ro cs) → M[b]? = some (.ro cs) ∧ φ' b = φ b ∧ (∀ p,φ b = some p → prot1.p p.1) ∧ ∀ us,concs φ cs = some us → concs φ' cs = some us)
  (inj:∀ (b c i j:Nat) (k l:Blk),M'[b]? = some k → M'[c]? = some l → k.isRow = true → l.isRow = true → b ≠ c → φ' b = φ1 i → φ' c = φ1 j → (∃ ds gs,M1[i]? = some (.own ds gs)) → (∃ ds gs,M1[j]? = some (.own ds gs)) → i ≠ j)
  (eqn:∀ (b:Nat) (d:Def) (v:V),M'[b]? = some (.eqn d v) → ∃ (x:V) (u:Value),d.val G φ' = some x ∧ x.conc .no = some u ∧ v.conc φ' = some u) :
  MR G prot W0 φ' M' w':=by
 have hkept:∀ g,prot1.p g → w'.heap[g]? = w.heap[g]?:=h1.kept
 refine ⟨h1.os.trans h.os,h1.tape.trans h.tape,h1.output.trans h.output,Nat.le_trans h.size h1.size,h.lt,fun g hg => (hkept g (hp g hg)).trans (h.kept g hg),h.laid,fresh,hnb,hbase,?_,?_,?_,eqn⟩
 ·intro b cs gs hb
  rcases own b cs gs hb with ⟨h2,h3,h4,h5⟩ | ⟨i,ds,h2,h3,h4⟩
  ·obtain ⟨p,us,cur,e,a0,a1,a2,a3,a4,a5⟩:=h.own b cs gs h2
   exact ⟨p,us,cur,e,h3.trans a0,a1,h5 us a2,a3.imp fun _ h => ⟨(hkept _ (h4 p a0)).trans h.1,h.2⟩,a4,a5⟩
  ·obtain ⟨p,us,cur,e,a0,a1,a2,a3,a4,a5⟩:=h1.own i ds gs h2
   exact ⟨p,us,cur,e,h3.trans a0,fun hpp => a1 (hp _ hpp),h4 us a2,a3,a4,a5⟩
 ·intro b c cs gs k p q hb hc hk hne hpb hqc he
  have other:(∃ (prow:prot1.p q.1),M[c]? = some k ∧ φ c = some q) ∨ (∃ j ds gs',M1[j]? = some (.own ds gs') ∧ φ' c = φ1 j):=by
   cases k with
   | dead => simp [Blk.isRow] at hk
   | eqn d v => simp [Blk.isRow] at hk
   | own ds gs' =>
    rcases own c ds gs' hc with ⟨h2,h3,h4,_⟩ | ⟨j,ds',h2,h3,_⟩
    ·rw [h3] at hqc; exact .inl ⟨h4 q hqc,h2,hqc⟩
    ·exact .inr ⟨j,ds',gs',h2,h3⟩
   | ro ds =>
    obtain ⟨h2,h3,h4,_⟩:=ro c ds hc
    rw [h3] at hqc; exact .inl ⟨h4 q hqc,h2,hqc⟩
  rcases own b cs gs hb with ⟨h2,h3,h4,h5⟩ | ⟨i,ds,h2,h3,h4⟩
  ·rw [h3] at hpb
   rcases other with ⟨_,h6,h7⟩ | ⟨j,ds',gs',h6,h7⟩
   ·exact h.sep b c cs gs k p q h2 h6 hk hne hpb h7 he
   ·obtain ⟨p',_,_,_,a0,a1,_⟩:=h1.own j ds' gs' h6
    rw [h7,a0] at hqc
    injection hqc with hqc; subst hqc
    exact a1 (he ▸ h4 p hpb)
  ·have hpb':=hpb
   rw [h3] at hpb
   rcases other with ⟨hw,h6,h7⟩ | ⟨j,ds',gs',h6,h7⟩
   ·obtain ⟨p',_,_,_,a0,a1,_⟩:=h1.own i ds gs h2
    rw [a0] at hpb
    injection hpb with hpb; subst hpb
    exact a1 (he ▸ hw)
   ·have hij:=inj b c i j _ k hb hc rfl hk hne h3 h7 ⟨ds,gs,h2⟩ ⟨ds',gs',h6⟩
    rw [h7] at hqc
    exact h1.sep i j ds gs _ p q h2 h6 rfl hij hpb hqc he
 ·intro b cs hb
  obtain ⟨h2,h3,h4,h5⟩:=ro b cs hb
  obtain ⟨p,us,cur,e,fr,a0,a2,a3,a4⟩:=h.ro b cs h2
  exact ⟨p,us,cur,e,fr,h3.trans a0,h5 us a2,(hkept _ (h4 p a0)).trans a3,a4⟩
end
end
section
def Pl.lt (φ:Pl) (n:Nat):Pl:=fun b => if b < n then φ b else none
theorem Pl.lt_le (φ:Pl) (n:Nat):(φ.lt n).le φ:=fun b p h => by
 unfold Pl.lt at h; split at h
 ·exact h
 ·cases h
theorem Pl.lt_mono (φ:Pl) {n m:Nat} (h:n ≤ m):(φ.lt n).le (φ.lt m):=fun b p h' => by
 unfold Pl.lt at h' ⊢
 split at h'
 ·rw [if_pos (by omega)]; exact h'
 ·cases h'
def Blk.fine (G:GF) (φ:Pl):Blk → Prop
 | .dead => True
 | .own cs _ => ∃ us,concs φ cs = some us
 | .ro cs => ∃ us,concs φ cs = some us
 | .eqn d v => ∃ (x:V) (u:Value),d.val G φ = some x ∧ x.conc .no = some u ∧ v.conc φ = some u
theorem Blk.fine_mono {G:GF} {φ φ':Pl} (h:φ.le φ') {k:Blk} (hk:k.fine G φ):k.fine G φ':=by
 cases k with
 | dead => trivial
 | own cs gs => obtain ⟨us,h1⟩:=hk; exact ⟨us,concs_mono h _ h1⟩
 | ro cs => obtain ⟨us,h1⟩:=hk; exact ⟨us,concs_mono h _ h1⟩
 | eqn d v => obtain ⟨x,u,h1,h2,h3⟩:=hk; exact ⟨x,u,Def.val_mono h h1,h2,V.conc_mono h _ h3⟩
theorem MR.fine {G:GF} {prot:Pr} {W0 w:World} {φ:Pl} {M:Mem} (h:MR G prot W0 φ M w) {b:Nat} {k:Blk} (hb:M[b]? = some k):k.fine G φ:=by
 cases k with
 | dead => trivial
 | own cs gs => obtain ⟨_,us,_,_,_,_,h1,_⟩:=h.own b cs gs hb; exact ⟨us,h1⟩
 | ro cs => obtain ⟨_,us,_,_,_,_,h1,_⟩:=h.ro b cs hb; exact ⟨us,h1⟩
 | eqn d v => exact h.eqn b d v hb
theorem Pl.lt_le_lt {φ φ':Pl} (h:φ.le φ') (n:Nat):(φ.lt n).le (φ'.lt n):=fun b p hb => by
 unfold Pl.lt at hb ⊢
 split at hb
 ·rename_i hn; rw [if_pos hn]; exact h _ _ hb
 ·cases hb
theorem MR.lt_eq {G:GF} {prot:Pr} {W0 w:World} {φ:Pl} {M:Mem} (h:MR G prot W0 φ M w):φ.lt M.length = φ:=by
 funext b
 unfold Pl.lt
 split
 ·rfl
 ·exact (h.fresh b (by omega)).symm
structure Seg where
 L:Nat → Nat
 R:Nat → Mem
 ch:Nat → Nat → Bool
 v:Nat → V
 K:Nat → St
 A:Nat → Nat → Bool
def Seg.tch (g:Seg) (i b:Nat):Bool:=(decide (b < g.L i) && g.ch i b) || (decide (g.L i ≤ b) && decide (b < g.L (i + 1)))
def Seg.at (g:Seg) (s:St) (lo:Nat) (D:Nat → Bool):Nat → Nat → Option Blk
 | 0,b => if b < g.L lo then s.M[b]? else some .dead
 | n + 1,b => if (D (lo + n) && g.tch (lo + n) b) = true then (g.R (lo + n))[b]? else g.at s lo D n b
theorem Seg.at_congr (g:Seg) (s:St) (lo:Nat) {D D':Nat → Bool} {b:Nat}:∀ {n:Nat},(∀ j,lo ≤ j → j < lo + n → g.tch j b = true → D j = D' j) → g.at s lo D n b = g.at s lo D' n b
 | 0,_ => rfl
 | n + 1,h => by
  have ih:=Seg.at_congr g s lo (D:=D) (D':=D') (b:=b) (n:=n) fun j h1 h2 h3 => h j h1 (by omega) h3
  simp only [Seg.at]
  cases ht:g.tch (lo + n) b with
  | false => simp only [Bool.and_false,Bool.false_eq_true,if_false]; exact ih
  | true => rw [h (lo + n) (by omega) (by omega) ht,ih]
theorem Seg.at_more (g:Seg) (s:St) (lo:Nat) {D:Nat → Bool} {b n:Nat}:∀ {m:Nat},(∀ j,lo + n ≤ j → j < lo + n + m → g.tch j b = true → D j = false) → g.at s lo D (n + m) b = g.at s lo D n b
 | 0,_ => rfl
 | m + 1,h => by
  have ih:=Seg.at_more g s lo (D:=D) (b:=b) (n:=n) (m:=m) fun j h1 h2 h3 => h j h1 (by omega) h3
  rw [← Nat.add_assoc]
  simp only [Seg.at]
  rw [if_neg]
  ·exact ih
  ·intro hh
   simp only [Bool.and_eq_true] at hh
   have:=h (lo + (n + m)) (by omega) (by omega) hh.2
   rw [hh.1] at this; cases this
structure Seg.ok (P:Program) (G:GF) (ops:Array Oper) (s:St) (lo hi:Nat) (g:Seg):Prop where
 L0:g.L lo = s.M.length
 Ls:∀ i,lo ≤ i → i < hi → g.L i ≤ g.L (i + 1)
 op:∀ i,lo ≤ i → i < hi → ∃ o,ops[i]? = some o ∧ AOpV P G ops i (g.K i) o.dst (g.v i) (g.R i)
 len:∀ i,lo ≤ i → i < hi → (g.K i).M.length = g.L i
 rlen:∀ i,lo ≤ i → i < hi → (g.R i).length = g.L (i + 1)
 same:∀ i,lo ≤ i → i < hi → ∀ b,b < g.L i → g.tch i b = false → (g.R i)[b]? = (g.K i).M[b]?
 mem:∀ i,lo ≤ i → i < hi → ∀ (b:Nat) (k:Blk),(g.K i).M[b]? = some k → k = .dead ∨
  (g.at s lo (fun j => g.A j i) (i - lo) b = some k ∧ ∀ j,lo ≤ j → j < hi → j ≠ i → g.tch j b = true → (j < i ∧ g.A j i = true) ∨ (i < j ∧ g.A i j = true))
 ord:∀ i j b,lo ≤ i → i < j → j < hi → g.tch i b = true → g.tch j b = true → g.A i j = true
 ts:∀ i,lo ≤ i → i < hi → ∀ (t:Nat) (v:V),(g.K i).ts[t]? = some (some v) → (s.ts[t]? = some (some v) ∧ ∀ j o,lo ≤ j → j < hi → ops[j]? = some o → o.dst = some t → j = i ∨ (i < j ∧ g.A i j = true)) ∨ ∃ j o,lo ≤ j ∧ j < i ∧ g.A j i = true ∧ ops[j]? = some o ∧ o.dst = some t ∧ v = g.v j
 tl:∀ i,lo ≤ i → i < hi → (g.K i).ts.length = s.ts.length
 ds:∀ i,lo ≤ i → i < hi → (g.K i).ds = s.ds
 own:∀ i j oi oj t,lo ≤ i → i < hi → lo ≤ j → j < hi → ops[i]? = some oi → ops[j]? = some oj → oi.dst = some t → oj.dst = some t → i = j
 noro:∀ i,lo ≤ i → i < hi → ∀ (b:Nat) (cs:List V),(g.R i)[b]? = some (.ro cs) → g.tch i b = false
section
variable {P:Program} {G:GF} {ops:Array Oper} {s:St} {lo hi:Nat} {g:Seg}
theorem Seg.ok.L_le (h : g.ok P G ops s lo hi) : ∀ {i j : Nat}, lo ≤ i → i ≤ j → j ≤ hi → g.L i ≤ g.L j := by
  intro i j h0 hij hj
  induction j with
  | zero => have : i = 0 := by omega
            subst this; exact Nat.le_refl _
  | succ j ih =>
    by_cases e : i = j + 1
    · subst e; exact Nat.le_refl _
    · have := ih (by omega) (by omega)
      have := h.Ls j (by omega) (by omega); omega
structure IsD (s:St) (lo hi:Nat) (g:Seg) (D:Nat → Bool) (M:Mem):Prop where
 len:M.length = g.L hi
 get:∀ b,b < g.L hi → M[b]? = g.at s lo D (hi - lo) b
structure Inv (G:GF) (prot:Pr) (W0:World) (ops:Array Oper) (s:St) (lo hi:Nat) (g:Seg) (φ0:Pl) (D:Nat → Bool) (φ:Pl) (a:Act) (w:World):Prop where
 le0:φ0.le φ
 nb:prot.nb ≤ g.L lo
 mem:∃ M,IsD s lo hi g D M ∧ MR G prot W0 φ M w
 un:∀ j,lo ≤ j → j < hi → D j = false → ∀ b,g.L j ≤ b → b < g.L (j + 1) → φ b = none
 low:∀ (b:Nat) (k:Blk),s.M[b]? = some k → k.fine G (φ.lt (g.L lo))
 seg:∀ j,lo ≤ j → j < hi → D j = true → ∀ (b:Nat) (k:Blk),g.tch j b = true → (g.R j)[b]? = some k → k.fine G (φ.lt (g.L (j + 1)))
 size:a.tmps.size = s.ts.length
 ds:defsC (φ.lt (g.L lo)) s.ds = some a.defers
 tl:∀ (t:Nat) (v:V),s.ts[t]? = some (some v) → (∀ j o,lo ≤ j → j < hi → ops[j]? = some o → D j = true → o.dst ≠ some t) → ∃ u,v.conc (φ.lt (g.L lo)) = some u ∧ a.tmps[t]? = some u
 td:∀ j o t,lo ≤ j → j < hi → ops[j]? = some o → D j = true → o.dst = some t → t < s.ts.length → ∃ u,(g.v j).conc (φ.lt (g.L (j + 1))) = some u ∧ a.tmps[t]? = some u
theorem Inv.step (h:g.ok P G ops s lo hi) {prot:Pr} {W0 w:World} {φ0 φ:Pl} {D:Nat → Bool} {a:Act} {Q:Exit → Act → World → Prop} {K:Act → World → Prop} (hI:Inv G prot W0 ops s lo hi g φ0 D φ a w) {i:Nat} (h0:lo ≤ i) (h1:i < hi) (hD:D i = false)
  (hA:∀ j,lo ≤ j → j < i → g.A j i = true → D j = true) (hB:∀ j,i < j → j < hi → g.A i j = true → D j = false)
  (hk:∀ φ' a' w',Inv G prot W0 ops s lo hi g φ0 (fun j => if j = i then true else D j) φ' a' w' → K a' w'):wpOp P ops Q i K a w:=by
 obtain ⟨M,hIs,hM⟩:=hI.mem
 obtain ⟨o,ho,hop⟩:=h.op i h0 h1
 have hLi:g.L lo ≤ g.L i:=h.L_le (Nat.le_refl _) h0 (by omega)
 have hLi1:g.L (i + 1) ≤ g.L hi:=h.L_le (by omega) (by omega) (Nat.le_refl _)
 have hLs:=h.Ls i h0 h1
 have hKl:=h.len i h0 h1
 have at_fine:∀ (E:Nat → Bool) (n:Nat),lo + n ≤ hi → (∀ j,lo ≤ j → j < lo + n → E j = true → D j = true) → ∀ (b:Nat) (k:Blk),g.at s lo E n b = some k → k.fine G (φ.lt (g.L (lo + n))):=by
  intro E n
  induction n with
  | zero =>
   intro _ _ b k hk
   simp only [Seg.at] at hk
   split at hk
   ·exact hI.low b k hk
   ·injection hk with hk; subst hk; trivial
  | succ n ih =>
   intro hn hE b k hk
   simp only [Seg.at] at hk
   split at hk
   ·rename_i hc
    simp only [Bool.and_eq_true] at hc
    exact hI.seg (lo + n) (by omega) (by omega) (hE _ (by omega) (by omega) hc.1) b k hc.2 hk
   ·exact Blk.fine_mono (φ.lt_mono (h.L_le (by omega) (by omega) hn)) (ih (by omega) (fun j a1 a2 a3 => hE j a1 (by omega) a3) b k hk)
 have alive:∀ (b:Nat) (k:Blk),(g.K i).M[b]? = some k → k = .dead ∨ (M[b]? = some k ∧ k.fine G (φ.lt (g.L i)) ∧ b < g.L i):=by
  intro b k hb
  have hlt:b < g.L i:=by rw [← hKl]; exact (List.getElem?_eq_some_iff.1 hb).1
  rcases h.mem i h0 h1 b k hb with rfl | ⟨hat,hcmp⟩
  ·exact .inl rfl
  ·refine .inr ⟨?_,?_,hlt⟩
   ·rw [hIs.get b (by omega),← hat]
    have e1:g.at s lo D (hi - lo) b = g.at s lo D (i - lo) b:=by
     have:=Seg.at_more g s lo (D:=D) (b:=b) (n:=i - lo) (m:=hi - i) (by
      intro j a1 a2 a3
      by_cases e:j = i
      ·subst e; exact hD
      ·rcases hcmp j (by omega) (by omega) e a3 with ⟨b1,_⟩ | ⟨b1,b2⟩
       ·omega
       ·exact hB j b1 (by omega) b2)
     rw [show i - lo + (hi - i) = hi - lo by omega] at this
     exact this
    rw [e1]
    refine Seg.at_congr g s lo ?_
    intro j a1 a2 a3
    rcases hcmp j a1 (by omega) (by omega) a3 with ⟨b1,b2⟩ | ⟨b1,_⟩
    ·rw [hA j a1 b1 b2,b2]
    ·omega
   ·have:=at_fine (fun j => g.A j i) (i - lo) (by omega) (fun j a1 a2 a3 => hA j a1 (by omega) a3) b k hat
    rwa [show lo + (i - lo) = i by omega] at this
 have ltφ:∀ b,b < g.L i → φ.lt (g.L i) b = φ b:=fun b hb => by simp [Pl.lt,hb]
 have hv:MR G ⟨ward prot φ M (fun b:Nat => (∀ k:Blk,(g.K i).M[b]? = some k → k.isRow = false) ∨ ∃ cs:List V,M[b]? = some (.ro cs)),(g.K i).M.length,φ.lt (g.L i)⟩ w (φ.lt (g.L i)) (g.K i).M w:=by
  refine hM.view _ ?_ ?_ ?_ ?_ ?_
  ·intro b hb; rw [hKl] at hb; simp [Pl.lt]; omega
  ·intro b cs gs hb
   rcases alive b _ hb with hd | ⟨hm,hf,hlt⟩
   ·cases hd
   ·obtain ⟨us,hus⟩:=hf
    refine ⟨b,?_,hm,ltφ b hlt,us,hus,concs_mono (φ.lt_le _) _ hus⟩
    rintro (hn | ⟨ds,hro⟩)
    ·have:=hn _ hb; simp [Blk.isRow] at this
    ·rw [hm] at hro; cases hro
  ·rintro b c x y k l hb hc hk hl hne hx hφb hS ⟨cs,gs,rfl⟩ ⟨p,q,hp,hq,he,l',hl',hlr⟩ rfl
   rcases alive b _ hb with hd | ⟨hm,hf,hlt⟩
   ·cases hd
   ·rcases alive c _ hc with hd | ⟨hm2,hf2,hlt2⟩
    ·subst hd; simp [Blk.isRow] at hl
    ·rw [ltφ b hlt] at hφb
     rw [ltφ c hlt2] at hp
     exact hM.sep b c cs gs l q p hm hm2 hl hne (hφb.trans hq) hp he.symm
  ·intro b cs hb
   rcases alive b _ hb with hd | ⟨hm,hf,hlt⟩
   ·cases hd
   ·obtain ⟨us,hus⟩:=hf
    obtain ⟨p,us',cur,e,fr,b0,b1,b2,b3,b4⟩:=hM.ro b cs hm
    have:us' = us:=by
     have:=concs_mono (φ.lt_le (g.L i)) _ hus
     rw [b1] at this; exact Option.some.inj this
    subst this
    refine ⟨p,us',b,p,_,(ltφ b hlt).trans b0,hus,?_,b0,rfl,hm,rfl,b4⟩
    intro j u hu
    rw [cell_of_row w p.1 _ cur e fr b2]
    have:=prefix_get b3 hu
    simpa [List.getElem?_drop] using this
  ·intro b d v hb
   rcases alive b _ hb with hd | ⟨hm,hf,hlt⟩
   ·cases hd
   ·exact hf
 have hsr:SR G ⟨ward prot φ M (fun b:Nat => (∀ k:Blk,(g.K i).M[b]? = some k → k.isRow = false) ∨ ∃ cs:List V,M[b]? = some (.ro cs)),(g.K i).M.length,φ.lt (g.L i)⟩ w (φ.lt (g.L i)) (g.K i) a w:=by
  refine ⟨hv,by rw [h.tl i h0 h1]; exact hI.size,?_,by rw [h.ds i h0 h1]; exact defsC_mono (φ.lt_mono hLi) hI.ds⟩
  intro t v ht
  rcases h.ts i h0 h1 t v ht with ⟨hs,hno⟩ | ⟨j,oj,a1,a2,a3,a4,a5,rfl⟩
  ·obtain ⟨u,hu,hat⟩:=hI.tl t v hs (fun j o b1 b2 b3 b4 b5 => by
    rcases hno j o b1 b2 b3 b5 with rfl | ⟨b6,b7⟩
    ·rw [hD] at b4; cases b4
    ·rw [hB j b6 b2 b7] at b4; cases b4)
   exact ⟨u,V.conc_mono (φ.lt_mono hLi) v hu,hat⟩
  ·have hdj:=hA j a1 a2 a3
   have htl:t < s.ts.length:=by rw [← h.tl i h0 h1]; exact (List.getElem?_eq_some_iff.1 ht).1
   obtain ⟨u,hu,hat⟩:=hI.td j oj t a1 (by omega) a4 hdj a5 htl
   exact ⟨u,V.conc_mono (φ.lt_mono (h.L_le (by omega) (by omega) (by omega))) _ hu,hat⟩
 refine hop _ w (φ.lt (g.L i)) a w Q K hsr ?_
 intro φ1 u w' hle hvc hM1
 generalize hS:(fun b:Nat => (∀ k:Blk,(g.K i).M[b]? = some k → k.isRow = false) ∨ ∃ cs:List V,M[b]? = some (.ro cs)) = S at hM1
 have hSl:∀ b:Nat,(∀ k:Blk,(g.K i).M[b]? = some k → k.isRow = false) → S b:=fun b hb => by rw [← hS]; exact .inl hb
 have hSr:∀ (b:Nat) (cs:List V),M[b]? = some (.ro cs) → S b:=fun b cs hb => by rw [← hS]; exact .inr ⟨cs,hb⟩
 have h1low:∀ b,b < g.L i → φ1 b = φ b:=fun b hb => (hM1.base b (by show b < (g.K i).M.length; omega)).trans (ltφ b hb)
 have h1len:(g.R i).length = g.L (i + 1):=h.rlen i h0 h1
 have h1hi:∀ b,g.L (i + 1) ≤ b → φ1 b = none:=fun b hb => hM1.fresh b (by omega)
 have hun:∀ b,g.L i ≤ b → b < g.L (i + 1) → φ b = none:=hI.un i h0 h1 hD
 let φ':Pl:=fun b => if g.L i ≤ b ∧ b < g.L (i + 1) then φ1 b else φ b
 have in':∀ b,g.L i ≤ b → b < g.L (i + 1) → φ' b = φ1 b:=fun b a1 a2 => if_pos ⟨a1,a2⟩
 have out':∀ b,¬ (g.L i ≤ b ∧ b < g.L (i + 1)) → φ' b = φ b:=fun b a1 => if_neg a1
 have hle':φ.le φ':=by
  intro b p hb
  by_cases e:g.L i ≤ b ∧ b < g.L (i + 1)
  ·rw [hun b e.1 e.2] at hb; cases hb
  ·rw [out' b e]; exact hb
 have h1le:φ1.le (φ'.lt (g.L (i + 1))):=by
  intro b p hb
  have hb2:b < g.L (i + 1):=by
   by_cases e:b < g.L (i + 1)
   ·exact e
   ·rw [h1hi b (by omega)] at hb; cases hb
  unfold Pl.lt
  rw [if_pos hb2]
  by_cases e:g.L i ≤ b
  ·rw [in' b e hb2]; exact hb
  ·rw [out' b (by omega),← h1low b (by omega)]; exact hb
 have h1le':φ1.le φ':=Pl.le_trans h1le (Pl.lt_le _ _)
 obtain ⟨M',hM'⟩:∃ M':Mem,M' = (List.range (g.L hi)).map (fun b => (if g.tch i b = true then (g.R i)[b]? else M[b]?).getD .dead):=⟨_,rfl⟩
 have hsplen:M'.length = g.L hi:=by rw [hM']; simp
 have hsome:∀ b,b < g.L hi → M'[b]? = if g.tch i b = true then (g.R i)[b]? else M[b]?:=by
  intro b hb
  rw [hM',List.getElem?_map,List.getElem?_range hb,Option.map_some]
  by_cases ht:g.tch i b = true
  ·rw [if_pos ht]
   have:b < (g.R i).length:=by
    rw [h1len]
    simp only [Seg.tch,Bool.or_eq_true,Bool.and_eq_true,decide_eq_true_eq] at ht
    rcases ht with ⟨h2,_⟩ | ⟨_,h2⟩ <;> omega
   rw [List.getElem?_eq_getElem this]; rfl
  ·rw [if_neg ht,List.getElem?_eq_getElem (by rw [hIs.len]; exact hb)]; rfl
 have bound:∀ {b:Nat} {k:Blk},M'[b]? = some k → b < g.L hi:=fun hb => by rw [← hsplen]; exact (List.getElem?_eq_some_iff.1 hb).1
 have get_in:∀ {b:Nat} {k:Blk},M'[b]? = some k → g.tch i b = true → (g.R i)[b]? = some k:=fun hb ht => by
  have:=hsome _ (bound hb); rw [if_pos ht] at this; exact this.symm.trans hb
 have get_out:∀ {b:Nat} {k:Blk},M'[b]? = some k → ¬ g.tch i b = true → M[b]? = some k:=fun hb ht => by
  have:=hsome _ (bound hb); rw [if_neg ht] at this; exact this.symm.trans hb
 have tch_φ:∀ b,g.tch i b = true → φ' b = φ1 b:=by
  intro b ht
  simp only [Seg.tch,Bool.or_eq_true,Bool.and_eq_true,decide_eq_true_eq] at ht
  rcases ht with ⟨h2,_⟩ | ⟨h2,h3⟩
  ·rw [out' b (by omega),h1low b h2]
  ·exact in' b h2 h3
 have not_φ:∀ b,¬ g.tch i b = true → φ' b = φ b:=by
  intro b ht
  apply out'
  rintro ⟨h2,h3⟩
  apply ht
  simp [Seg.tch,h2,h3]
 have same1:∀ b,b < g.L i → ¬ g.tch i b = true → (g.R i)[b]? = (g.K i).M[b]?:=fun b h2 h3 => h.same i h0 h1 b h2 (by simpa using h3)
 have rowkind:∀ (x:Nat) (k:Blk) (p:Place),M'[x]? = some k → k.isRow = true → φ' x = some p → ward prot φ M S p.1 ∨ (∃ ds gs,(g.R i)[x]? = some (.own ds gs) ∧ φ1 x = some p):=by
  intro x k p hx hk hp
  by_cases e:g.tch i x = true
  ·have hx:=get_in hx e
   rw [tch_φ x e] at hp
   cases k with
   | dead => simp [Blk.isRow] at hk
   | eqn d v => simp [Blk.isRow] at hk
   | ro cs => have:=h.noro i h0 h1 x cs hx; rw [e] at this; cases this
   | own cs gs => exact .inr ⟨cs,gs,hx,hp⟩
  ·have hx:=get_out hx e
   rw [not_φ x e] at hp
   by_cases hrow:∀ k:Blk,(g.K i).M[x]? = some k → k.isRow = false
   ·exact .inl (.inr ⟨x,k,p,hx,hk,hSl x hrow,hp,rfl⟩)
   ·cases k with
    | dead => simp [Blk.isRow] at hk
    | eqn d v => simp [Blk.isRow] at hk
    | ro cs => exact .inl (.inr ⟨x,_,p,hx,hk,hSr x cs hx,hp,rfl⟩)
    | own cs gs =>
     have:∃ k2:Blk,(g.K i).M[x]? = some k2 ∧ k2.isRow = true:=by
      by_cases hn:∃ k2:Blk,(g.K i).M[x]? = some k2 ∧ k2.isRow = true
      ·exact hn
      ·exfalso; apply hrow; intro k2 h2
       cases hr:k2.isRow with
       | false => rfl
       | true => exact absurd ⟨k2,h2,hr⟩ hn
     obtain ⟨k2,h2,h3⟩:=this
     rcases alive x k2 h2 with hd | ⟨hm,_,hlt⟩
     ·subst hd; simp [Blk.isRow] at h3
     ·rw [hx] at hm; injection hm with hm; subst hm
      exact .inr ⟨cs,gs,by rw [same1 x hlt e]; exact h2,by rw [h1low x hlt]; exact hp⟩
 have hMR:MR G prot W0 φ' M' w':=by
  refine hM.graft hM1 (fun g' hg' => .inl hg') ?_ ?_ ?_ ?_ ?_ ?_ ?_
  ·rw [hsplen]; exact Nat.le_trans hI.nb (h.L_le (Nat.le_refl _) (by omega) (Nat.le_refl _))
  ·intro b hb
   have:=hI.nb
   rw [out' b (by omega)]; exact hM.base b hb
  ·intro b hb
   rw [hsplen] at hb
   rw [out' b (by omega)]; exact hM.fresh b (by rw [hIs.len]; exact hb)
  ·intro b cs gs hb
   by_cases e:g.tch i b = true
   ·exact .inr ⟨b,cs,get_in hb e,tch_φ b e,fun us hus => concs_mono h1le' _ hus⟩
   ·have hb0:=hb
    have hb:=get_out hb e
    by_cases hrow:∀ k:Blk,(g.K i).M[b]? = some k → k.isRow = false
    ·exact .inl ⟨hb,not_φ b e,fun p hp => .inr ⟨b,_,p,hb,rfl,hSl b hrow,hp,rfl⟩,fun us hus => concs_mono hle' _ hus⟩
    ·obtain ⟨p,_,_,_,hp,_⟩:=hM.own b cs gs hb
     rcases rowkind b _ p hb0 rfl (by rw [not_φ b e]; exact hp) with hw | ⟨ds,gs',h2,h3⟩
     ·exact .inl ⟨hb,not_φ b e,fun q hq => by rw [hp] at hq; injection hq with hq; subst hq; exact hw,fun us hus => concs_mono hle' _ hus⟩
     ·have hlt:b < g.L i:=by
       have h4:=(List.getElem?_eq_some_iff.1 h2).1
       rw [h1len] at h4
       by_cases h5:b < g.L i
       ·exact h5
       ·exfalso; apply e; simp [Seg.tch,h4,(by omega:g.L i ≤ b)]
      have h4:=h2
      rw [same1 b hlt e] at h4
      rcases alive b _ h4 with hd | ⟨hm,_,_⟩
      ·cases hd
      ·rw [hb] at hm; injection hm with hm; injection hm with hm1 hm2; subst hm1 hm2
       exact .inr ⟨b,cs,h2,by rw [not_φ b e,h3]; exact hp,fun us hus => concs_mono h1le' _ hus⟩
  ·intro b cs hb
   by_cases e:g.tch i b = true
   ·have:=h.noro i h0 h1 b cs (get_in hb e); rw [e] at this; cases this
   ·have hb:=get_out hb e
    exact ⟨hb,not_φ b e,fun p hp => .inr ⟨b,_,p,hb,rfl,hSr b cs hb,hp,rfl⟩,fun us hus => concs_mono hle' _ hus⟩
  ·rintro b c x y k l hb hc hk hl hne hbx hcy ⟨ds,gs,hx⟩ ⟨ds',gs',hy⟩ rfl
   obtain ⟨p,_,_,_,hp,hnp,_⟩:=hM1.own x ds gs hx
   rw [hp] at hbx hcy
   rcases rowkind b k p hb hk hbx with hw | ⟨ds1,gs1,h2,h3⟩
   ·exact hnp hw
   ·rcases rowkind c l p hc hl hcy with hw | ⟨ds2,gs2,h4,h5⟩
    ·exact hnp hw
    ·exact hM1.sep b c ds1 gs1 _ p p h2 h4 rfl hne h3 h5 rfl
  ·intro b d v hb
   by_cases e:g.tch i b = true
   ·obtain ⟨x,u,a1,a2,a3⟩:=hM1.eqn b d v (get_in hb e)
    exact ⟨x,u,Def.val_mono h1le' a1,a2,V.conc_mono h1le' _ a3⟩
   ·obtain ⟨x,u,a1,a2,a3⟩:=hM.eqn b d v (get_out hb e)
    exact ⟨x,u,Def.val_mono hle' a1,a2,V.conc_mono hle' _ a3⟩
 have dj:∀ j,lo ≤ j → j < hi → j ≠ i → ∀ b,g.L j ≤ b → b < g.L (j + 1) → ¬ (g.L i ≤ b ∧ b < g.L (i + 1)):=by
  intro j a1 a2 a3 b a4 a5 ⟨a6,a7⟩
  by_cases e:j < i
  ·have:=h.L_le (i:=j + 1) (j:=i) (by omega) (by omega) (by omega); omega
  ·have:=h.L_le (i:=i + 1) (j:=j) (by omega) (by omega) (by omega); omega
 have putne:∀ t,o.dst ≠ some t → (a.put o.dst u).tmps[t]? = a.tmps[t]?:=by
  intro t ht
  cases hd:o.dst with
  | none => rfl
  | some d => rw [hd] at ht; simp only [Act.put]; rw [Array.getElem?_setIfInBounds_ne (by intro e; subst e; exact ht rfl)]
 refine hk φ' (a.put o.dst u) w' ⟨Pl.le_trans hI.le0 hle',hI.nb,⟨M',⟨hsplen,?_⟩,hMR⟩,?_,?_,?_,?_,?_,?_,?_⟩
 ·intro b hb
  rw [hsome b hb]
  by_cases e:g.tch i b = true
  ·rw [if_pos e]
   have e1:=Seg.at_more g s lo (D:=fun j => if j = i then true else D j) (b:=b) (n:=i - lo + 1) (m:=hi - i - 1) (by
    intro j a1 a2 a3
    have hj:j ≠ i:=by omega
    simp only [hj,if_false]
    exact hB j (by omega) (by omega) (h.ord i j b h0 (by omega) (by omega) e a3))
   rw [show i - lo + 1 + (hi - i - 1) = hi - lo by omega] at e1
   rw [e1]
   simp only [Seg.at]
   have hi2:lo + (i - lo) = i:=by omega
   rw [hi2]
   simp [e]
  ·rw [if_neg e,hIs.get b hb]
   refine Seg.at_congr g s lo ?_
   intro j a1 a2 a3
   have hj:j ≠ i:=by rintro rfl; exact e a3
   simp [hj]
 ·intro j a1 a2 a3 b a4 a5
  by_cases e:j = i
  ·simp [e] at a3
  ·simp only [e,if_false] at a3
   rw [out' b (dj j a1 a2 e b a4 a5)]; exact hI.un j a1 a2 a3 b a4 a5
 ·intro b k hb
  exact Blk.fine_mono (Pl.lt_le_lt hle' _) (hI.low b k hb)
 ·intro j a1 a2 a3 b k ht hk'
  by_cases e:j = i
  ·subst e
   exact Blk.fine_mono h1le (hM1.fine hk')
  ·simp only [e,if_false] at a3
   exact Blk.fine_mono (Pl.lt_le_lt hle' _) (hI.seg j a1 a2 a3 b k ht hk')
 ·cases hd:o.dst with
  | none => exact hI.size
  | some d => simp only [Act.put,Array.size_setIfInBounds]; exact hI.size
 ·have hdf:(a.put o.dst u).defers = a.defers:=by cases o.dst <;> rfl
  rw [hdf]; exact defsC_mono (Pl.lt_le_lt hle' _) hI.ds
 ·intro t v ht hno
  have hni:o.dst ≠ some t:=hno i o h0 h1 ho (by simp)
  obtain ⟨x,hx1,hx2⟩:=hI.tl t v ht (fun j oj a1 a2 a3 a4 => hno j oj a1 a2 a3 (by by_cases e:j = i <;> simp [e,a4]))
  exact ⟨x,V.conc_mono (Pl.lt_le_lt hle' _) v hx1,(putne t hni).trans hx2⟩
 ·intro j oj t a1 a2 a3 a4 a5 a6
  by_cases e:j = i
  ·subst e
   rw [ho] at a3; injection a3 with a3; subst a3
   refine ⟨u,V.conc_mono h1le _ hvc,?_⟩
   rw [a5]; simp only [Act.put]
   rw [Array.getElem?_setIfInBounds_self]; simp [hI.size,a6]
  ·simp only [e,if_false] at a4
   obtain ⟨x,hx1,hx2⟩:=hI.td j oj t a1 a2 a3 a4 a5 a6
   refine ⟨x,V.conc_mono (Pl.lt_le_lt hle' _) _ hx1,(putne t fun hd => e (h.own j i oj o t a1 a2 h0 h1 a3 ho a5 hd)).trans hx2⟩
end
end
section
section
variable {P:Program} {G:GF} {ops:Array Oper} {s s1 s':St} {lo hi:Nat} {g:Seg}
def preds (ops:Array Oper) (i:Nat):List Nat :=
 match ops[i]? with
 | some o => (o.after.toList.filter fun e => Region.binds .any e).map fun e => e.on
 | none => []
def isOn (l:Array Bool) (i:Nat):Prop:=l[i]? = some true
structure Closed (ops:Array Oper) (l:Array Bool):Prop where
 size:l.size = ops.size
 down:∀ i,isOn l i → ∀ j ∈ preds ops i,isOn l j
def Anc (ops:Array Oper) (j i:Nat):Prop:=∀ l:Array Bool,Closed ops l → (∀ p ∈ preds ops i,isOn l p) → isOn l j
theorem ready_iff {l:Array Bool} (hs:l.size = ops.size) {i:Nat}:i ∈ Region.ready .any ops l ↔ i < ops.size ∧ ¬ isOn l i ∧ ∀ p ∈ preds ops i,isOn l p:=by
 unfold Region.ready
 simp only [List.mem_filter,List.mem_range,Bool.and_eq_true,Bool.not_eq_true']
 constructor
 ·rintro ⟨h1,h2,h3⟩
  refine ⟨h1,?_,?_⟩
  ·intro hon
   rw [Array.getD_eq_getD_getElem?,hon] at h2; simp at h2
  ·intro p hp
   unfold preds at hp
   rw [Array.getElem?_eq_getElem h1] at hp h3
   simp only [Option.map_some,Option.getD_some,Array.all_eq_true'] at h3
   simp only [List.mem_map,List.mem_filter] at hp
   obtain ⟨e,⟨he1,he2⟩,rfl⟩:=hp
   have:=h3 e (by simpa using he1)
   rw [he2] at this
   simp only [Bool.not_true,Bool.false_or] at this
   rw [Array.getD_eq_getD_getElem?] at this
   unfold isOn
   cases hx:l[e.on]? with
   | none => rw [hx] at this; simp at this
   | some b => rw [hx] at this; simp at this; rw [this]
 ·rintro ⟨h1,h2,h3⟩
  refine ⟨h1,?_,?_⟩
  ·rw [Array.getD_eq_getD_getElem?]
   have hlt:i < l.size:=by omega
   unfold isOn at h2
   rw [Array.getElem?_eq_getElem hlt] at h2 ⊢
   simpa using h2
  ·rw [Array.getElem?_eq_getElem h1]
   simp only [Option.map_some,Option.getD_some,Array.all_eq_true']
   intro e he
   cases hb:Region.binds .any e with
   | false => simp
   | true =>
    have:=h3 e.on (by
     unfold preds
     rw [Array.getElem?_eq_getElem h1]
     simp only [List.mem_map,List.mem_filter]
     exact ⟨e,⟨by simpa using he,hb⟩,rfl⟩)
    unfold isOn at this
    simp [Array.getD_eq_getD_getElem?,this]
theorem closed_set {l:Array Bool} (hc:Closed ops l) {i:Nat} (hi:i ∈ Region.ready .any ops l):Closed ops (l.setIfInBounds i true):=by
 obtain ⟨h1,h2,h3⟩:=(ready_iff hc.size).1 hi
 have on_mono:∀ {j:Nat},isOn l j → isOn (l.setIfInBounds i true) j:=by
  intro j hj
  unfold isOn at *
  by_cases e:i = j
  ·subst e; exact absurd hj h2
  ·rw [Array.getElem?_setIfInBounds_ne e]; exact hj
 refine ⟨by simp [hc.size],?_⟩
 intro k hk j hj
 by_cases e:i = k
 ·subst e; exact on_mono (h3 j hj)
 ·unfold isOn at hk
  rw [Array.getElem?_setIfInBounds_ne e] at hk
  exact on_mono (hc.down k hk j hj)
theorem on_set {l:Array Bool} (hs:l.size = ops.size) {i j:Nat} (hi:i < ops.size):isOn (l.setIfInBounds i true) j ↔ (j = i ∨ isOn l j):=by
 unfold isOn
 by_cases e:i = j
 ·subst e; rw [Array.getElem?_setIfInBounds_self]; simp [hs,hi]
 ·rw [Array.getElem?_setIfInBounds_ne e]
  constructor
  ·exact .inr
  ·rintro (rfl | h)
   ·exact absurd rfl e
   ·exact h
def Cut (ops:Array Oper) (lo hi:Nat):Prop:=∀ i,hi ≤ i → i < ops.size → ∀ j,lo ≤ j → j < hi → Anc ops j i
def Fwd (ops:Array Oper):Prop:=∀ i,i < ops.size → ∀ p ∈ preds ops i,p < i
structure Fin (ops:Array Oper) (s:St) (lo hi:Nat) (g:Seg) (s':St):Prop where
 M:s'.M.length = g.L hi ∧ ∀ b,b < g.L hi → s'.M[b]? = g.at s lo (fun _ => true) (hi - lo) b
 tl:s'.ts.length = s.ts.length
 ts:∀ (t:Nat) (v:V),s'.ts[t]? = some (some v) → (s.ts[t]? = some (some v) ∧ ∀ j o,lo ≤ j → j < hi → ops[j]? = some o → o.dst ≠ some t) ∨ ∃ j o,lo ≤ j ∧ j < hi ∧ ops[j]? = some o ∧ o.dst = some t ∧ v = g.v j
 ds:s'.ds = s.ds
 le:lo ≤ hi ∧ hi ≤ ops.size
inductive Par (P:Program) (G:GF) (ops:Array Oper):Nat → St → St → Prop
 | done {s:St}:Par P G ops ops.size s s
 | seg {lo hi:Nat} {s s1 s':St} {g:Seg} (h:g.ok P G ops s lo hi) (hA:∀ i j,i < hi → g.A j i = true → Anc ops j i) (hf:Fin ops s lo hi g s1) (hc:Cut ops lo hi) (h':Par P G ops hi s1 s'):Par P G ops lo s s'
 | bar {lo:Nat} {s s1 s':St} (hlt:lo < ops.size) (h:AOp P G ops lo s s1) (hc:Cut ops lo (lo + 1)) (h':Par P G ops (lo + 1) s1 s'):Par P G ops lo s s'
theorem exists_ready (hF:Fwd ops) {l:Array Bool} (hc:Closed ops l):∀ n,∀ i,i < n → i < ops.size → ¬ isOn l i → ∃ k,k ≤ i ∧ k ∈ Region.ready .any ops l
 | 0,_,h,_,_ => by omega
 | n + 1,i,h,hi,hn => by
  by_cases hp:∀ p ∈ preds ops i,isOn l p
  ·exact ⟨i,Nat.le_refl _,(ready_iff hc.size).2 ⟨hi,hn,hp⟩⟩
  ·simp only [Classical.not_forall] at hp
   obtain ⟨p,hm,hp⟩:=hp
   have hlt:=hF i hi p hm
   obtain ⟨k,h1,h2⟩:=exists_ready hF hc n p (by omega) (by omega) hp
   exact ⟨k,by omega,h2⟩
def cnt (D:Nat → Bool) (lo:Nat):Nat → Nat
 | 0 => 0
 | n + 1 => cnt D lo n + if D (lo + n) then 0 else 1
theorem cnt_set (D:Nat → Bool) (lo i:Nat) (h0:lo ≤ i) (hD:D i = false):∀ n,cnt (fun j => if j = i then true else D j) lo n + (if i < lo + n then 1 else 0) = cnt D lo n
 | 0 => by simp only [cnt]; rw [if_neg (by omega)]
 | n + 1 => by
  have ih:=cnt_set D lo i h0 hD n
  simp only [cnt]
  by_cases e:lo + n = i
  ·have e1:¬ i < lo + n:=by omega
   have e2:i < lo + (n + 1):=by omega
   simp only [e1,if_false,Nat.add_zero] at ih
   rw [ih,if_pos e2]
   simp [e,hD]
  ·by_cases e2:i < lo + n
   ·have e3:i < lo + (n + 1):=by omega
    simp only [e2,if_true] at ih
    simp only [e,e3,if_true,if_false]; omega
   ·have e3:¬ i < lo + (n + 1):=by omega
    simp only [e2,if_false] at ih
    simp only [e,e3,if_false]; omega
theorem cnt_zero {D:Nat → Bool} {lo:Nat}:∀ {n:Nat},cnt D lo n = 0 → ∀ j,lo ≤ j → j < lo + n → D j = true
 | 0,_,j,h1,h2 => by omega
 | n + 1,h,j,h1,h2 => by
  simp only [cnt] at h
  by_cases e:j = lo + n
  ·subst e
   cases hd:D (lo + n) with
   | true => rfl
   | false => rw [hd] at h; simp at h
  ·exact cnt_zero (n:=n) (by omega) j h1 (by omega)
theorem cnt_pos {D:Nat → Bool} {lo:Nat}:∀ {n m:Nat},cnt D lo n = m + 1 → ∃ j,lo ≤ j ∧ j < lo + n ∧ D j = false
 | 0,_,h => by simp [cnt] at h
 | n + 1,m,h => by
  cases hd:D (lo + n) with
  | false => exact ⟨lo + n,by omega,by omega,hd⟩
  | true =>
   simp only [cnt,hd,if_true] at h
   obtain ⟨j,h1,h2,h3⟩:=cnt_pos (n:=n) (m:=m) (by omega)
   exact ⟨j,h1,by omega,h3⟩
theorem inv_all {prot:Pr} {W0 w:World} {φ0 φ:Pl} {D:Nat → Bool} {a:Act} (hI:Inv G prot W0 ops s lo hi g φ0 D φ a w) (hf:Fin ops s lo hi g s1) (hD:∀ j,lo ≤ j → j < hi → D j = true):SR G prot W0 φ s1 a w:=by
 obtain ⟨M,hIs,hM⟩:=hI.mem
 have hMs:M = s1.M:=by
  apply List.ext_getElem?
  intro b
  by_cases h1:b < g.L hi
  ·rw [hIs.get b h1,hf.M.2 b h1]
   exact Seg.at_congr g s lo fun j a1 a2 _ => hD j a1 (by have:=hf.le.1; omega)
  ·rw [List.getElem?_eq_none_iff.2 (by rw [hIs.len]; omega),List.getElem?_eq_none_iff.2 (by rw [hf.M.1]; omega)]
 subst hMs
 refine ⟨hM,hI.size.trans hf.tl.symm,?_,by rw [hf.ds]; exact defsC_mono (φ.lt_le _) hI.ds⟩
 intro t v ht
 rcases hf.ts t v ht with ⟨hs,hno⟩ | ⟨j,o,a1,a2,a3,a4,rfl⟩
 ·obtain ⟨u,h1,h2⟩:=hI.tl t v hs (fun j o b1 b2 b3 _ => hno j o b1 b2 b3)
  exact ⟨u,V.conc_mono (φ.lt_le _) v h1,h2⟩
 ·have htl:t < s.ts.length:=by rw [← hf.tl]; exact (List.getElem?_eq_some_iff.1 ht).1
  obtain ⟨u,h1,h2⟩:=hI.td j o t a1 a2 a3 (hD j a1 a2) a4 htl
  exact ⟨u,V.conc_mono (φ.lt_le _) _ h1,h2⟩
theorem inv_none (h:g.ok P G ops s lo hi) (hle:lo ≤ hi) {prot:Pr} {W0 w:World} {φ0 φ:Pl} {a:Act} (h0:φ0.le φ) (hs:SR G prot W0 φ s a w):Inv G prot W0 ops s lo hi g φ0 (fun _ => false) φ a w:=by
 have hlt:φ.lt (g.L lo) = φ:=by rw [h.L0]; exact hs.mr.lt_eq
 have hL:=h.L_le (Nat.le_refl _) hle (Nat.le_refl _)
 refine ⟨h0,by rw [h.L0]; exact hs.mr.nbl,⟨s.M ++ List.replicate (g.L hi - g.L lo) .dead,⟨?_,?_⟩,?_⟩,?_,?_,?_,hs.size,by rw [hlt]; exact hs.ds,?_,?_⟩
 ·rw [List.length_append,List.length_replicate,← h.L0]; omega
 ·intro b hb
  have:=Seg.at_more g s lo (D:=fun _ => false) (b:=b) (n:=0) (m:=hi - lo) (fun _ _ _ _ => rfl)
  rw [Nat.zero_add] at this
  rw [this]
  simp only [Seg.at]
  by_cases e:b < g.L lo
  ·rw [if_pos e,List.getElem?_append_left (by rw [← h.L0]; exact e)]
  ·rw [if_neg e,List.getElem?_append_right (by rw [← h.L0]; omega),← h.L0,List.getElem?_replicate,if_pos (by omega)]
 ·have key:∀ n,MR G prot W0 φ (s.M ++ List.replicate n .dead) w:=by
   intro n
   have al:∀ {b:Nat} {k:Blk},(s.M ++ List.replicate n .dead)[b]? = some k → k ≠ .dead → s.M[b]? = some k:=by
    intro b k hb hk
    by_cases e:b < s.M.length
    ·rw [List.getElem?_append_left e] at hb; exact hb
    ·rw [List.getElem?_append_right (by omega),List.getElem?_replicate] at hb
     split at hb
     ·injection hb with hb; exact absurd hb.symm hk
     ·cases hb
   have hm:=hs.mr
   refine ⟨hm.os,hm.tape,hm.output,hm.size,hm.lt,hm.kept,hm.laid,?_,by have:=hm.nbl; simp; omega,hm.base,?_,?_,?_,?_⟩
   ·intro i hi; simp at hi; exact hm.fresh i (by omega)
   ·intro i cs gs hi; exact hm.own i cs gs (al hi (by simp))
   ·intro i j cs gs k p q hi hj hk; exact hm.sep i j cs gs k p q (al hi (by simp)) (al hj (by rintro rfl; simp [Blk.isRow] at hk)) hk
   ·intro i cs hi; exact hm.ro i cs (al hi (by simp))
   ·intro i d v hi; exact hm.eqn i d v (al hi (by simp))
  exact key _
 ·intro j a1 _ _ b a3 _
  have b1:=h.L_le (i:=lo) (j:=j) (Nat.le_refl _) a1 (by omega)
  exact hs.mr.fresh b (by rw [← h.L0]; omega)
 ·intro b k hb; rw [hlt]; exact hs.mr.fine hb
 ·intro j _ _ hd; cases hd
 ·intro t v ht _; rw [hlt]; exact hs.tm t v ht
 ·intro j o t _ _ _ hd; cases hd
theorem any_par (hF:Fwd ops) {prot:Pr} {W0:World} {Q:Exit → Act → World → Prop} {φ0:Pl} (h:Par P G ops lo s s') (hk:∀ φ' a' w',φ0.le φ' → SR G prot W0 φ' s' a' w' → Q .normal a' w') :
  ∀ (l:Array Bool) (a:Act) (w:World) (φ:Pl),Closed ops l → (∀ j,j < lo → isOn l j) → (∀ j,lo ≤ j → ¬ isOn l j) → φ0.le φ → SR G prot W0 φ s a w → wpAny P .any ops Q (ops.size - lo) l a w:=by
 induction h with
 | done =>
  intro l a w φ hc hon hoff hle hs
  rw [Nat.sub_self]
  refine ⟨?_,hk φ a w hle hs⟩
  apply List.eq_nil_iff_forall_not_mem.2
  intro i hi
  obtain ⟨h1,h2,_⟩:=(ready_iff hc.size).1 hi
  exact h2 (hon i h1)
 | @bar lo s s1 s' hlt hop hcut h' ih =>
  intro l a w φ hc hon hoff hle hs
  obtain ⟨f,hf⟩:∃ f,ops.size - lo = f + 1:=⟨ops.size - lo - 1,by omega⟩
  rw [hf]
  have hr:lo ∈ Region.ready .any ops l:=(ready_iff hc.size).2 ⟨hlt,hoff lo (Nat.le_refl _),fun p hp => hon p (hF lo hlt p hp)⟩
  refine ⟨fun hn => (by rw [hn] at hr; cases hr),?_⟩
  intro i hi
  obtain ⟨h1,h2,h3⟩:=(ready_iff hc.size).1 hi
  have hil:i = lo:=by
   by_cases e1:i < lo
   ·exact absurd (hon i e1) h2
   ·by_cases e2:i = lo
    ·exact e2
    ·exact absurd (hcut i (by omega) h1 lo (Nat.le_refl _) (by omega) l hc h3) (hoff lo (Nat.le_refl _))
  subst hil
  refine hop prot W0 φ a w Q _ hs ?_
  intro φ' a' w' hle' hs'
  have hfe:f = ops.size - (i + 1):=by omega
  rw [hfe]
  refine ih hk _ a' w' φ' (closed_set hc hi) ?_ ?_ (Pl.le_trans hle hle') hs'
  ·intro j hj
   rw [on_set hc.size h1]
   by_cases e:j = i
   ·exact .inl e
   ·exact .inr (hon j (by omega))
  ·intro j hj hon'
   rw [on_set hc.size h1] at hon'
   rcases hon' with e | e
   ·omega
   ·exact hoff j (by omega) e
 | @seg lo hi s s1 s' g hg hA hf hcut h' ih =>
  have inner:∀ (m:Nat) (D:Nat → Bool) (l:Array Bool) (a:Act) (w:World) (φ:Pl),Inv G prot W0 ops s lo hi g φ0 D φ a w → Closed ops l → (∀ j,j < lo → isOn l j) → (∀ j,hi ≤ j → ¬ isOn l j) → (∀ j,lo ≤ j → j < hi → (isOn l j ↔ D j = true)) →
    cnt D lo (hi - lo) = m → wpAny P .any ops Q (m + (ops.size - hi)) l a w:=by
   intro m
   induction m with
   | zero =>
    intro D l a w φ hI hc hon hoff hD hm
    rw [Nat.zero_add]
    have hall:=cnt_zero hm
    have hall':∀ j,lo ≤ j → j < hi → D j = true:=fun j h1 h2 => hall j h1 (by have:=hf.le.1; omega)
    refine ih hk l a w φ hc ?_ hoff hI.le0 (inv_all hI hf hall')
    intro j hj
    by_cases e:j < lo
    ·exact hon j e
    ·exact (hD j (by omega) hj).2 (hall' j (by omega) hj)
   | succ m ihm =>
    intro D l a w φ hI hc hon hoff hD hm
    rw [show m + 1 + (ops.size - hi) = (m + (ops.size - hi)) + 1 by omega]
    obtain ⟨u,hu1,hu2,hu3⟩:=cnt_pos hm
    have hu2':u < hi:=by have:=hf.le.1; omega
    have huoff:¬ isOn l u:=fun e => by have:=(hD u hu1 hu2').1 e; rw [hu3] at this; cases this
    have hus:u < ops.size:=by have:=hf.le.2; omega
    obtain ⟨k,_,hkr⟩:=exists_ready hF hc (u + 1) u (by omega) hus huoff
    refine ⟨fun hn => (by rw [hn] at hkr; cases hkr),?_⟩
    intro i hi'
    obtain ⟨h1,h2,h3⟩:=(ready_iff hc.size).1 hi'
    have hlo:lo ≤ i:=by
     by_cases e:i < lo
     ·exact absurd (hon i e) h2
     ·omega
    have hhi:i < hi:=by
     by_cases e:i < hi
     ·exact e
     ·exact absurd (hcut i (by omega) h1 u hu1 hu2' l hc h3) huoff
    have hDi:D i = false:=by
     cases hd:D i with
     | false => rfl
     | true => exact absurd ((hD i hlo hhi).2 hd) h2
    refine hI.step hg hlo hhi hDi ?_ ?_ ?_
    ·intro j b1 b2 b3
     exact (hD j b1 (by omega)).1 (hA i j hhi b3 l hc h3)
    ·intro j b1 b2 b3
     cases hd:D j with
     | false => rfl
     | true => exact absurd (hA j i b2 b3 l hc (hc.down j ((hD j (by omega) b2).2 hd))) h2
    ·intro φ' a' w' hI'
     refine ihm _ _ a' w' φ' hI' (closed_set hc hi') ?_ ?_ ?_ ?_
     ·intro j hj; rw [on_set hc.size h1]; exact .inr (hon j hj)
     ·intro j hj hon'
      rw [on_set hc.size h1] at hon'
      rcases hon' with e | e
      ·omega
      ·exact hoff j hj e
     ·intro j b1 b2
      rw [on_set hc.size h1]
      by_cases e:j = i
      ·simp [e]
      ·simp only [e,false_or,if_false]; exact hD j b1 b2
     ·have:=cnt_set D lo i hlo hDi (hi - lo)
      rw [if_pos (by omega),hm] at this
      omega
  intro l a w φ hc hon hoff hle hs
  have hcnt:∀ n,cnt (fun _ => false) lo n = n:=by
   intro n
   induction n with
   | zero => rfl
   | succ n ih => simp [cnt,ih]
  have:=inner (hi - lo) (fun _ => false) l a w φ (inv_none hg hf.le.1 hle hs) hc hon (fun j hj => hoff j (by have:=hf.le.1; omega)) (fun j b1 _ => by simp [hoff j b1]) (hcnt _)
  rw [show hi - lo + (ops.size - hi) = ops.size - lo by have:=hf.le; omega] at this
  exact this
theorem AW.drawn (hm:P.follows .mixedOrders = true) (hF:Fwd ops) {id:Nat} (h:Par P G ops 0 s s'):AW P G (.region id ops true) s .normal s':=by
 intro prot W0 φ a w Q hs hk
 refine wp_region_any hm ?_
 have hoff:∀ j,¬ isOn (Array.replicate ops.size false) j:=by
  intro j hj
  unfold isOn at hj
  rw [Array.getElem?_replicate] at hj
  split at hj <;> cases hj
 have:=any_par (Q:=Q) hF h hk (Array.replicate ops.size false) a w.drew φ ⟨by simp,fun i hi => absurd hi (hoff i)⟩ (fun j hj => by omega) (fun j _ => hoff j) (Pl.le_refl _)
  ⟨hs.mr.drew,hs.size,hs.tm,hs.ds⟩
 rw [Nat.sub_zero] at this
 exact this
end
end
section
structure Ent where
 K:St
 R:Mem
 v:V
 T:List Nat
 deriving Inhabited
def Ent.tch (e:Ent) (b:Nat):Bool:=(decide (b < e.K.M.length) && e.T.contains b) || (decide (e.K.M.length ≤ b) && decide (b < e.R.length))
section
variable {P:Program} {G:GF} {ops:Array Oper}
structure StepOK (P:Program) (G:GF) (ops:Array Oper) (A:Nat → Nat → Bool) (e:Nat → Ent) (st:Nat → St) (i:Nat):Prop where
 op:∃ o,ops[i]? = some o ∧ AOpV P G ops i (e i).K o.dst (e i).v (e i).R ∧ st (i + 1) = (st i).put o.dst (e i).v (st (i + 1)).M
 mask:∀ (t:Nat) (v:V),(e i).K.ts[t]? = some (some v) → (st i).ts[t]? = some (some v) ∧ ∀ j oj,j ≠ i → ops[j]? = some oj → oj.dst = some t → if j < i then A j i = true else A i j = true
 kts:(e i).K.ts.length = (st i).ts.length
 kds:(e i).K.ds = (st i).ds
 len:(e i).K.M.length = (st i).M.length
 len':(st (i + 1)).M.length = (e i).R.length
 le:(e i).K.M.length ≤ (e i).R.length
 same:∀ b,b < (e i).K.M.length → (e i).tch b = false → (e i).R[b]? = (e i).K.M[b]?
 km:∀ (b:Nat) (k:Blk),(e i).K.M[b]? = some k → k = .dead ∨ ((st i).M[b]? = some k ∧ ∀ j,j < i → A j i = false → (e j).tch b = false)
 nx:∀ b,b < (e i).R.length → (st (i + 1)).M[b]? = if (e i).tch b = true then (e i).R[b]? else (st i).M[b]?
 post:∀ j,j < i → A j i = false → ∀ b,(e i).tch b = true → (e j).tch b = false ∧ ∀ k,(e j).K.M[b]? = some k → k = .dead
 noro:∀ (b:Nat) (cs:List V),(e i).R[b]? = some (.ro cs) → (e i).tch b = false
theorem par_of_steps {A:Nat → Nat → Bool} (hA:∀ i j,i < ops.size → A j i = true → Anc ops j i) {e:Nat → Ent} {st:Nat → St} (h:∀ i,i < ops.size → StepOK P G ops A e st i)
  (hd:∀ i j oi oj t,i < ops.size → j < ops.size → ops[i]? = some oi → ops[j]? = some oj → oi.dst = some t → oj.dst = some t → i = j):Par P G ops 0 (st 0) (st ops.size):=by
 let g:Seg:={ L:=fun i => (st i).M.length,R:=fun i => (e i).R,ch:=fun i b => (e i).T.contains b,v:=fun i => (e i).v,K:=fun i => (e i).K,A:=A }
 have gt:∀ i,i < ops.size → ∀ b,g.tch i b = (e i).tch b:=by
  intro i hi b
  simp only [Seg.tch,Ent.tch,g,(h i hi).len,(h i hi).len']
 have hL:∀ i,i < ops.size → (st i).M.length ≤ (st (i + 1)).M.length:=fun i hi => by rw [(h i hi).len',← (h i hi).len]; exact (h i hi).le
 have hat:∀ i,i ≤ ops.size → ∀ b,b < (st i).M.length → (st i).M[b]? = g.at (st 0) 0 (fun _ => true) i b:=by
  intro i
  induction i with
  | zero => intro _ b hb; simp only [Seg.at]; rw [if_pos hb]
  | succ i ih =>
   intro hi b hb
   have hs:=h i (by omega)
   rw [hs.nx b (by rw [← hs.len']; exact hb)]
   simp only [Seg.at,Nat.zero_add,Bool.true_and,gt i (by omega)]
   by_cases ht:(e i).tch b = true
   ·rw [if_pos ht,if_pos ht]
   ·rw [if_neg ht,if_neg ht]
    refine ih (by omega) b ?_
    by_cases hb2:b < (st i).M.length
    ·exact hb2
    ·exfalso; apply ht
     have h1:=hs.len; have h2:=hs.len'
     simp only [Ent.tch,Bool.or_eq_true,Bool.and_eq_true,decide_eq_true_eq]
     exact .inr ⟨by omega,by omega⟩
 have hts:∀ i,i ≤ ops.size → (st i).ts.length = (st 0).ts.length ∧ (st i).ds = (st 0).ds ∧ ∀ (t:Nat) (v:V),(st i).ts[t]? = some (some v) →
   ((st 0).ts[t]? = some (some v) ∧ ∀ j o,j < i → ops[j]? = some o → o.dst ≠ some t) ∨ ∃ j o,j < i ∧ ops[j]? = some o ∧ o.dst = some t ∧ v = (e j).v:=by
  intro i
  induction i with
  | zero => intro _; exact ⟨rfl,rfl,fun t v hv => .inl ⟨hv,fun j o hj => by omega⟩⟩
  | succ i ih =>
   intro hi
   obtain ⟨a1,a2,a3⟩:=ih (by omega)
   obtain ⟨o,ho,_,hst⟩:=(h i (by omega)).op
   cases hdst:o.dst with
   | none =>
    have e1:(st (i + 1)).ts = (st i).ts:=by rw [hst,hdst]; rfl
    have e2:(st (i + 1)).ds = (st i).ds:=by rw [hst,hdst]; rfl
    refine ⟨e1 ▸ a1,e2 ▸ a2,fun t v hv => ?_⟩
    rw [e1] at hv
    rcases a3 t v hv with ⟨b1,b2⟩ | ⟨j,oj,b1,b2⟩
    ·refine .inl ⟨b1,fun j oj hj hoj => ?_⟩
     by_cases e3:j = i
     ·subst e3; rw [ho] at hoj; injection hoj with hoj; subst hoj; rw [hdst]; simp
     ·exact b2 j oj (by omega) hoj
    ·exact .inr ⟨j,oj,by omega,b2⟩
   | some d =>
    have e1:(st (i + 1)).ts = (st i).ts.set d (some (e i).v):=by rw [hst,hdst]; rfl
    have e2:(st (i + 1)).ds = (st i).ds:=by rw [hst,hdst]; rfl
    refine ⟨by rw [e1]; simpa using a1,e2 ▸ a2,fun t v hv => ?_⟩
    rw [e1] at hv
    by_cases htd:t = d
    ·subst htd
     have hlt:t < (st i).ts.length:=by
      have:=(List.getElem?_eq_some_iff.1 hv).1; simpa using this
     rw [List.getElem?_set_self hlt] at hv
     injection hv with hv; injection hv with hv
     exact .inr ⟨i,o,by omega,ho,hdst,hv.symm⟩
    ·rw [List.getElem?_set_ne (Ne.symm htd)] at hv
     rcases a3 t v hv with ⟨b1,b2⟩ | ⟨j,oj,b1,b2⟩
     ·refine .inl ⟨b1,fun j oj hj hoj => ?_⟩
      by_cases e3:j = i
      ·subst e3; rw [ho] at hoj; injection hoj with hoj; subst hoj; rw [hdst]; simp; exact fun e => htd e.symm
      ·exact b2 j oj (by omega) hoj
     ·exact .inr ⟨j,oj,by omega,b2⟩
 have hok:g.ok P G ops (st 0) 0 ops.size:=by
  refine ⟨rfl,fun i _ hi => hL i hi,?_,fun i _ hi => (h i hi).len,fun i _ hi => (h i hi).len'.symm,?_,?_,?_,?_,?_,?_,?_,?_⟩
  ·intro i _ hi
   obtain ⟨o,h1,h2,_⟩:=(h i hi).op
   exact ⟨o,h1,h2⟩
  ·intro i _ hi b hb ht
   rw [gt i hi] at ht
   exact (h i hi).same b (by rw [(h i hi).len]; exact hb) ht
  ·intro i _ hi b k hb
   rcases (h i hi).km b k hb with rfl | ⟨h1,h2⟩
   ·exact .inl rfl
   ·have hlt:b < (st i).M.length:=(List.getElem?_eq_some_iff.1 h1).1
    by_cases hk:k = .dead
    ·exact .inl hk
    refine .inr ⟨?_,?_⟩
    ·rw [hat i (by omega) b hlt] at h1
     rw [← h1,Nat.sub_zero]
     refine Seg.at_congr g (st 0) 0 fun j _ a2 a3 => ?_
     rw [gt j (by omega)] at a3
     cases hAj:g.A j i with
     | true => rfl
     | false => have:=h2 j (by omega) hAj; rw [this] at a3; cases a3
    ·intro j _ hj hne ht
     rw [gt j hj] at ht
     by_cases hji:j < i
     ·refine .inl ⟨hji,?_⟩
      cases hAj:g.A j i with
      | true => rfl
      | false => have:=h2 j hji hAj; rw [this] at ht; cases ht
     ·refine .inr ⟨by omega,?_⟩
      cases hAj:g.A i j with
      | true => rfl
      | false => exact absurd (((h j hj).post i (by omega) hAj b ht).2 k hb) hk
  ·intro i j b _ hij hj h1 h2
   rw [gt i (by omega)] at h1
   rw [gt j hj] at h2
   cases hAj:g.A i j with
   | true => rfl
   | false => have:=((h j hj).post i hij hAj b h2).1; rw [this] at h1; cases h1
  ·intro i _ hi t v hv
   obtain ⟨h1,h2⟩:=(h i hi).mask t v hv
   rcases (hts i (by omega)).2.2 t v h1 with ⟨b1,b2⟩ | ⟨j,oj,b1,b2,b3,b4⟩
   ·refine .inl ⟨b1,fun j o _ hj ho hdt => ?_⟩
    by_cases e1:j = i
    ·exact .inl e1
    ·have:=h2 j o e1 ho hdt
     by_cases e2:j < i
     ·exact absurd hdt (b2 j o e2 ho)
     ·rw [if_neg e2] at this; exact .inr ⟨by omega,this⟩
   ·have:=h2 j oj (by omega) b2 b3
    rw [if_pos b1] at this
    exact .inr ⟨j,oj,by omega,b1,this,b2,b3,b4⟩
  ·intro i _ hi
   exact (h i hi).kts.trans (hts i (by omega)).1
  ·intro i _ hi
   exact (h i hi).kds.trans (hts i (by omega)).2.1
  ·intro i j oi oj t _ hi _ hj a1 a2 a3 a4
   exact hd i j oi oj t hi hj a1 a2 a3 a4
  ·intro i _ hi b cs hb
   rw [gt i hi]; exact (h i hi).noro b cs hb
 refine .seg (g:=g) (hi:=ops.size) hok hA ⟨⟨rfl,?_⟩,(hts _ (Nat.le_refl _)).1,?_,(hts _ (Nat.le_refl _)).2.1,Nat.zero_le _,Nat.le_refl _⟩ (fun i hi hi2 => by omega) .done
 ·intro b hb
  rw [Nat.sub_zero]; exact hat ops.size (Nat.le_refl _) b hb
 ·intro t v hv
  rcases (hts ops.size (Nat.le_refl _)).2.2 t v hv with ⟨b1,b2⟩ | ⟨j,oj,b1,b2,b3,b4⟩
  ·exact .inl ⟨b1,fun j o _ hj ho => b2 j o hj ho⟩
  ·exact .inr ⟨j,oj,by omega,b1,b2,b3,b4⟩
end
end
section
noncomputable section
variable {α β:Type}
def nth (l:List α):Nat → Option α:=List.rec (motive:=fun _ => Nat → Option α) (fun _ => none) (fun a _ ih i => Nat.casesOn i (some a) (fun j => ih j)) l
theorem nth_eq (l:List α):∀ i,nth l i = l[i]?:=by
 induction l with
 | nil => intro i; simp [nth]
 | cons a l ih => intro i; cases i with
  | zero => rfl
  | succ j => exact ih j
def kNat (n:Nat) (k:Nat → α):α:=Nat.casesOn n (k 0) (fun m => k (m + 1))
def kInt (n:Int) (k:Int → α):α:=Int.casesOn n (fun n => kNat n fun n => k (.ofNat n)) (fun n => kNat n fun n => k (.negSucc n))
def kOpt (n:Option Nat) (k:Option Nat → α):α:=Option.casesOn n (k none) (fun n => kNat n fun n => k (some n))
theorem kNat_eq (n:Nat) (k:Nat → α):kNat n k = k n:=by cases n <;> rfl
theorem kInt_eq (n:Int) (k:Int → α):kInt n k = k n:=by cases n <;> simp [kInt,kNat_eq]
theorem kOpt_eq (n:Option Nat) (k:Option Nat → α):kOpt n k = k n:=by cases n <;> simp [kOpt,kNat_eq]
def kBool (b:Bool) (k:Bool → α):α:=Bool.casesOn b (k false) (k true)
theorem kBool_eq (b:Bool) (k:Bool → α):kBool b k = k b:=by cases b <;> rfl
def kSpine (l:List α):(List α → β) → β:=List.rec (motive:=fun _ => (List α → β) → β) (fun k => k []) (fun a _ ih k => ih fun l => k (a :: l)) l
theorem kSpine_eq (l:List α):∀ (k:List α → β),kSpine l k = k l:=by
 induction l with
 | nil => intro k; rfl
 | cons a l ih => intro k; exact ih _
def kInt2 (kd:IntKind) (n:Int) (k:V → α):α:=kInt n fun n => k (.int kd n)
def kPtr (b o:Nat) (k:V → α):α:=kNat b fun b => kNat o fun o => k (.ptr b o)
def kSl (b o len:Nat) (lim:Option Nat) (k:V → α):α:=kNat b fun b => kNat o fun o => kNat len fun len => kOpt lim fun lim => k (.sl b o len lim)
def kSym (kd:IntKind) (i:Nat) (lo hi:Int) (k:V → α):α:=kNat i fun i => kInt lo fun lo => kInt hi fun hi => k (.sym kd i lo hi)
def kAt (b o i n:Nat) (k:V → α):α:=kNat b fun b => kNat o fun o => kNat i fun i => kNat n fun n => k (.at b o i n)
def memN (l:List Nat) (t:Nat):Bool:=List.rec (motive:=fun _ => Bool) false (fun a _ ih => Bool.casesOn (Nat.beq a t) ih true) l
def kNats (l:List Nat):(List Nat → β) → β:=List.rec (motive:=fun _ => (List Nat → β) → β) (fun k => k []) (fun a _ ih k => kNat a fun a => ih fun l => k (a :: l)) l
theorem kNats_eq (l:List Nat):∀ (k:List Nat → β),kNats l k = k l:=by
 induction l with
 | nil => intro k; rfl
 | cons a l ih =>
  intro k
  show kNat a (fun a => kNats l fun l => k (a :: l)) = _
  rw [kNat_eq]; exact ih _
def kV1 (v:V) (k:V → α):α :=
 match v with
 | .int kd n => kInt2 kd n k
 | .ptr b o => kPtr b o k
 | .sl b o len lim => kSl b o len lim k
 | .sym kd i lo hi => kSym kd i lo hi k
 | .symb i => kNat i fun i => k (.symb i)
 | .at b o i n => kAt b o i n k
 | .among ss i => kNat i fun i => k (.among ss i)
 | .cut b o l => kNat b fun b => kNat o fun o => kNat l fun l => k (.cut b o l)
 | .bool b => kBool b fun b => k (.bool b)
 | v => k v
theorem kV1_eq (v:V) (k:V → α):kV1 v k = k v:=by
 cases v <;> simp [kV1,kInt2,kPtr,kSl,kSym,kAt,kNat_eq,kInt_eq,kOpt_eq,kBool_eq]
def kVs (l:List V):(List V → β) → β:=List.rec (motive:=fun _ => (List V → β) → β) (fun k => k []) (fun a _ ih k => kV1 a fun a => ih fun l => k (a :: l)) l
theorem kVs_eq (l:List V):∀ (k:List V → β),kVs l k = k l:=by
 induction l with
 | nil => intro k; rfl
 | cons a l ih =>
  intro k
  show kV1 a (fun a => kVs l fun l => k (a :: l)) = _
  rw [kV1_eq]; exact ih _
def kV (v:V) (k:V → α):α :=
 match v with
 | .agg cs => kVs cs fun cs => k (.agg cs)
 | .tup cs => kVs cs fun cs => k (.tup cs)
 | .fn f cs => kVs cs fun cs => k (.fn f cs)
 | v => kV1 v k
theorem kV_eq (v:V) (k:V → α):kV v k = k v:=by
 cases v <;> simp [kV,kVs_eq,kV1_eq]
def kInts (l:List Int):(List Int → β) → β:=List.rec (motive:=fun _ => (List Int → β) → β) (fun k => k []) (fun a _ ih k => kInt a fun a => ih fun l => k (a :: l)) l
theorem kInts_eq (l:List Int):∀ (k:List Int → β),kInts l k = k l:=by
 induction l with
 | nil => intro k; rfl
 | cons a l ih =>
  intro k
  show kInt a (fun a => kInts l fun l => k (a :: l)) = _
  rw [kInt_eq]; exact ih _
def kDef (d:Def) (k:Def → α):α :=
 match d with
 | .bin op kd a b => kV1 a fun a => kV1 b fun b => k (.bin op kd a b)
 | .shift op kd a b => kV1 a fun a => kV1 b fun b => k (.shift op kd a b)
 | .conv kd a => kV1 a fun a => k (.conv kd a)
 | .look kd t a => kInts t fun t => kV1 a fun a => k (.look kd t a)
 | .call g j kd l => kNat g fun g => kNat j fun j => kVs l fun l => k (.call g j kd l)
theorem kDef_eq (d:Def) (k:Def → α):kDef d k = k d:=by cases d <;> simp [kDef,kV1_eq,kVs_eq,kNat_eq,kInts_eq]
def kBlk (b:Blk) (k:Blk → α):α :=
 match b with
 | .dead => k .dead
 | .own cs gs => kVs cs fun cs => kNat gs fun gs => k (.own cs gs)
 | .ro cs => kVs cs fun cs => k (.ro cs)
 | .eqn d v => kDef d fun d => kV1 v fun v => k (.eqn d v)
theorem kBlk_eq (b:Blk) (k:Blk → α):kBlk b k = k b:=by cases b <;> simp [kBlk,kV1_eq,kVs_eq,kNat_eq,kDef_eq]
def kIdx (l:Mem):Nat → (Mem → β) → β :=
 List.rec (motive:=fun _ => Nat → (Mem → β) → β) (fun _ k => k []) (fun a l ih i k => Nat.casesOn i (kBlk a fun a => k (a :: l)) (fun j => ih j fun l => k (a :: l))) l
theorem kIdx_eq (l:Mem):∀ (i:Nat) (k:Mem → β),kIdx l i k = k l:=by
 induction l with
 | nil => intro i k; rfl
 | cons a l ih => intro i k; cases i with
  | zero => exact kBlk_eq a (fun a => k (a :: l))
  | succ j => exact ih j _
def kAll (M:Mem):(Mem → β) → β:=List.rec (motive:=fun _ => (Mem → β) → β) (fun k => k []) (fun a _ ih k => kBlk a fun a => ih fun l => k (a :: l)) M
theorem kAll_eq (l:Mem):∀ (k:Mem → β),kAll l k = k l:=by
 induction l with
 | nil => intro k; rfl
 | cons a l ih =>
  intro k
  show kBlk a (fun a => kAll l fun l => k (a :: l)) = _
  rw [kBlk_eq]; exact ih _
def kSet (ts:List α):Nat → α → (List α → β) → β :=
 List.rec (motive:=fun _ => Nat → α → (List α → β) → β) (fun _ _ k => k []) (fun a l ih i v k => Nat.casesOn i (k (v :: l)) (fun j => ih j v fun l => k (a :: l))) ts
theorem kSet_eq (l:List α):∀ (i:Nat) (v:α) (k:List α → β),kSet l i v k = k (l.set i v):=by
 induction l with
 | nil => intro i v k; rfl
 | cons a l ih => intro i v k; cases i with
  | zero => rfl
  | succ j => exact ih j v _
structure KSt where
 rs:List (List (Option V))
 ds:List (FuncId × List V)
 M:Mem
 base:Nat
 ch:List Nat
inductive Ch:List (List (Option V)) → List (Option V) → Prop
 | nil:Ch [] []
 | last {r:List (Option V)} (h:r.length ≤ 8):Ch [r] r
 | cons {r:List (Option V)} {rs:List (List (Option V))} {ts:List (Option V)} (h:r.length = 8) (h':Ch rs ts):Ch (r :: rs) (r ++ ts)
theorem Ch.get {rs:List (List (Option V))} {ts:List (Option V)} (h:Ch rs ts):∀ t:Nat,ts[t]? = (rs[t / 8]?).bind fun r => r[t % 8]?:=by
 induction h with
 | nil => intro t; simp
 | @last r h =>
  intro t
  by_cases ht:t < 8
  ·rw [Nat.div_eq_of_lt ht,Nat.mod_eq_of_lt ht]; simp
  ·have h1:r[t]? = none:=List.getElem?_eq_none_iff.2 (by omega)
   have h2:([r]:List (List (Option V)))[t / 8]? = none:=List.getElem?_eq_none_iff.2 (by simp; omega)
   rw [h1,h2]; rfl
 | @cons r rs ts h h' ih =>
  intro t
  by_cases ht:t < 8
  ·rw [Nat.div_eq_of_lt ht,Nat.mod_eq_of_lt ht,List.getElem?_append_left (by omega)]; simp
  ·rw [List.getElem?_append_right (by omega),h,ih]
   have e1:t / 8 = (t - 8) / 8 + 1:=by omega
   have e2:t % 8 = (t - 8) % 8:=by omega
   rw [e1,e2,List.getElem?_cons_succ]
theorem Ch.set {rs:List (List (Option V))} {ts:List (Option V)} (h:Ch rs ts):∀ (t:Nat) (v:Option V) (r:List (Option V)),rs[t / 8]? = some r → Ch (rs.set (t / 8) (r.set (t % 8) v)) (ts.set t v):=by
 induction h with
 | nil => intro t v r hr; simp at hr
 | @last r h =>
  intro t v r' hr
  have ht:t < 8:=by
   have:=(List.getElem?_eq_some_iff.1 hr).1
   simp at this; omega
  rw [Nat.div_eq_of_lt ht] at hr ⊢
  simp only [List.getElem?_cons_zero,Option.some.injEq] at hr
  subst hr
  rw [Nat.mod_eq_of_lt ht,List.set_cons_zero]
  exact .last (by simpa using h)
 | @cons r rs ts h h' ih =>
  intro t v r' hr
  by_cases ht:t < 8
  ·rw [Nat.div_eq_of_lt ht] at hr ⊢
   simp only [List.getElem?_cons_zero,Option.some.injEq] at hr
   subst hr
   rw [Nat.mod_eq_of_lt ht,List.set_cons_zero,List.set_append_left _ _ (by omega)]
   exact .cons (by simpa using h) h'
  ·have e1:t / 8 = (t - 8) / 8 + 1:=by omega
   have e2:t % 8 = (t - 8) % 8:=by omega
   rw [e1,List.getElem?_cons_succ] at hr
   rw [e1,e2,List.set_cons_succ,List.set_append_right _ _ (by omega),h]
   exact .cons h (ih _ _ _ hr)
def chunkS (ih:List (Option V) → List (List (Option V))) (l:List (Option V)):List (List (Option V)) :=
 match l with
 | a :: b :: c :: d :: e :: f :: g :: h :: l => [a,b,c,d,e,f,g,h] :: ih l
 | l => [l]
def chunk (n:Nat):List (Option V) → List (List (Option V)):=Nat.rec (motive:=fun _ => List (Option V) → List (List (Option V))) (fun _ => []) (fun _ ih l => chunkS ih l) n
theorem chunk_ch:∀ (n:Nat) (ts:List (Option V)),ts.length ≤ 8 * n → Ch (chunk n ts) ts
 | 0,ts,h => by
  have:ts = []:=List.eq_nil_of_length_eq_zero (by omega)
  subst this; exact .nil
 | n + 1,ts,h => by
  show Ch (chunkS (chunk n) ts) ts
  unfold chunkS
  split
  ·rename_i a b c d e f g h' l
   exact .cons (r:=[a,b,c,d,e,f,g,h']) rfl (chunk_ch n l (by simp only [List.length_cons] at h; omega))
  ·rename_i hne
   refine .last ?_
   match ts,hne with
   | [],_ => simp
   | [_],_ => simp
   | [_,_],_ => simp
   | [_,_,_],_ => simp
   | [_,_,_,_],_ => simp
   | [_,_,_,_,_],_ => simp
   | [_,_,_,_,_,_],_ => simp
   | [_,_,_,_,_,_,_],_ => simp
   | a :: b :: c :: d :: e :: f :: g :: h :: l,hne => exact absurd rfl (hne a b c d e f g h l)
def kRow (rs:List (List (Option V))) (ds:List (FuncId × List V)) (base:Nat) (M:Mem) (ch:List Nat) (d:Nat) (v:V) (k:KSt → Option α):Option α :=
 Option.casesOn (nth rs (d / 8)) none fun r => kSet r (d % 8) (some v) fun r => kSet rs (d / 8) r fun rs => k ⟨rs,ds,M,base,ch⟩
def kDst (s:KSt) (dst:Option Tmp) (v:V) (M:Mem) (ch:List Nat) (k:KSt → Option α):Option α :=
 KSt.casesOn s fun rs ds _ base _ => Option.casesOn dst (k ⟨rs,ds,M,base,ch⟩) (fun d => kRow rs ds base M ch d v k)
def kPut0 (s:KSt) (dst:Option Tmp) (v:V) (k:KSt → Option α):Option α :=
 KSt.casesOn s fun rs ds M base ch => kV v fun v => Option.casesOn dst (k ⟨rs,ds,M,base,ch⟩) (fun d => kRow rs ds base M ch d v k)
def addCh (base:Nat) (T:List Nat) (ch:List Nat):List Nat:=List.rec (motive:=fun _ => List Nat) ch (fun a _ ih => Bool.casesOn (Nat.blt a base && !memN ch a) ih (a :: ih)) T
def kForce (T:List Nat):Mem → (Mem → β) → β:=List.rec (motive:=fun _ => Mem → (Mem → β) → β) (fun M k => k M) (fun a _ ih M k => kIdx M a fun M => ih M k) T
theorem kForce_eq (T:List Nat):∀ (M:Mem) (k:Mem → β),kForce T M k = k M:=by
 induction T with
 | nil => intro M k; rfl
 | cons a T ih => intro M k; show kIdx M a (fun M => kForce T M k) = _; rw [kIdx_eq]; exact ih _ _
def kNew (old:Mem):Mem → (Mem → β) → β :=
 List.rec (motive:=fun _ => Mem → (Mem → β) → β) (fun new k => kAll new k) (fun _ _ ih new k => List.casesOn new (k []) (fun b new => ih new fun l => k (b :: l))) old
theorem kNew_eq (old:Mem):∀ (new:Mem) (k:Mem → β),kNew old new k = k new:=by
 induction old with
 | nil => intro new k; exact kAll_eq new k
 | cons a old ih => intro new k; cases new with
  | nil => rfl
  | cons b new => exact ih new _
def kPut (s:KSt) (dst:Option Tmp) (v:V) (M:Mem) (T:List Nat) (k:KSt → Option α):Option α :=
 kV v fun v => kNew s.M M fun M => kForce T M fun M => kNats (addCh s.base T s.ch) fun ch => kDst s dst v M ch k
structure Same (s:KSt) (s':St):Prop where
 ch:Ch s.rs s'.ts
 ds:s.ds = s'.ds
 M:s.M = s'.M
theorem kDst_eq {s:KSt} {s':St} (h:Same s s') {dst:Option Tmp} {v:V} {M:Mem} {k:KSt → Option α} {r:α} {ch:List Nat} (hr:kDst s dst v M ch k = some r):∃ s1,Same s1 (s'.put dst v M) ∧ s1.base = s.base ∧ s1.ch = ch ∧ k s1 = some r:=by
 obtain ⟨rs,ds,Ms,base,ch0⟩:=s
 have hch:Ch rs s'.ts:=h.ch
 cases dst with
 | none => exact ⟨⟨rs,ds,M,base,ch⟩,⟨hch,h.ds,rfl⟩,rfl,rfl,hr⟩
 | some d =>
  simp only [kDst,kRow] at hr
  rw [nth_eq] at hr
  cases hn:rs[d / 8]? with
  | none => rw [hn] at hr; cases hr
  | some row =>
   rw [hn] at hr
   simp only [kSet_eq] at hr
   exact ⟨⟨rs.set (d / 8) (row.set (d % 8) (some v)),ds,M,base,ch⟩,⟨hch.set d (some v) row hn,h.ds,rfl⟩,rfl,rfl,hr⟩
theorem kPut0_eq {s:KSt} {s':St} (h:Same s s') {dst:Option Tmp} {v:V} {k:KSt → Option α} {r:α} (hr:kPut0 s dst v k = some r):∃ s1,Same s1 (s'.put dst v s'.M) ∧ s1.base = s.base ∧ s1.ch = s.ch ∧ k s1 = some r:=by
 have hr:kDst s dst v s.M s.ch k = some r:=by
  obtain ⟨rs,ds,Ms,base,ch0⟩:=s
  simp only [kPut0,kV_eq] at hr
  exact hr
 rw [h.M] at hr
 exact kDst_eq h hr
theorem kPut_eq {s:KSt} {s':St} (h:Same s s') {dst:Option Tmp} {v:V} {M:Mem} {T:List Nat} {k:KSt → Option α} {r:α} (hr:kPut s dst v M T k = some r):∃ s1,Same s1 (s'.put dst v M) ∧ s1.base = s.base ∧ s1.ch = addCh s.base T s.ch ∧ k s1 = some r:=by
 rw [kPut,kV_eq,kNew_eq,kForce_eq,kNats_eq] at hr
 exact kDst_eq h hr
def kTmp (s:KSt) (t:Nat):Option (Option V):=Option.casesOn (nth s.rs (t / 8)) none fun r => nth r (t % 8)
def kGet (s:KSt) (x:Operand):Option V :=
 match x with
 | .tmp t => Option.casesOn (kTmp s t) none fun v => v
 | .const v => ofVal v
 | .global g => some (.gptr g 0)
 | .func f => some (.fn f [])
theorem kTmp_eq {s:KSt} {s':St} (h:Same s s') (t:Nat):kTmp s t = s'.ts[t]?:=by
 rw [h.ch.get t,kTmp,nth_eq]
 cases s.rs[t / 8]? with
 | none => rfl
 | some r => exact nth_eq r _
theorem kGet_eq {s:KSt} {s':St} (h:Same s s'):kGet s = s'.get:=by
 funext x; cases x with
 | tmp t =>
  simp only [kGet,St.get,kTmp_eq h]
  cases s'.ts[t]? <;> rfl
 | _ => rfl
def kGave (ops:Array Oper) (s:KSt) (j:Nat):Option (Option Bool) :=
 match ops[j]? with
 | some p => match p.dst with
  | some d => match kTmp s d with
   | some (some (.bool b)) => some (some b)
   | some (some (.tup [])) => some none
   | _ => none
  | none => none
 | none => none
def kWants (ops:Array Oper) (s:KSt) (o:Oper):Option Bool :=
 match o.guard with
 | none => some true
 | some p => (kGave ops s p.1).map fun b => b == some p.2
theorem kWants_eq {s:KSt} {s':St} (h:Same s s') (ops:Array Oper) (o:Oper):kWants ops s o = wants ops s' o:=by
 unfold kWants wants
 cases o.guard with
 | none => rfl
 | some p =>
  simp only [kGave,gave,kTmp_eq h] <;> rfl
def chT (M:Mem) (c:Option Nat):List Nat :=
 match c with
 | some b => match M[b]? with
  | some (.own _ _) => [b]
  | _ => []
 | none => []
structure FnV where
 ntmps:Nat
 results:List ResultVar
 body:Code
 deriving Inhabited
abbrev Known:=FuncId → List V → Mem → Option (V × Mem × List Nat)
section
variable (X:Rule) (T:Nat → Option Ty) (F:Nat → Option FnV) (S:Known)
def resCell (M:Mem) (d:Ty):V → Option V
 | .ptr b o => if d.kind.row then (rd M b o d.size).map .agg else (rd M b o 1).bind List.head?
 | _ => none
def resV (s:KSt):List ResultVar → Option (List V)
 | [] => some []
 | .tmp t :: rs => (kGet s (.tmp t)).bind fun v => (resV s rs).map (v :: ·)
 | .cell t u :: rs => (kGet s (.tmp t)).bind fun p => (T u).bind fun d => (resCell s.M d p).bind fun v => (resV s rs).map (v :: ·)
def retV:List V → V
 | [v] => v
 | l => .tup l
def start (fn:FnV) (args:List V):List (Option V):=args.map some ++ List.replicate (fn.ntmps - args.length) (some undefV)
def opR (call:Known) (o:Oper) (s:KSt) (k:KSt → Option KSt) (r:Option R):Option KSt :=
 match r with
 | some r => match r with
  | .pure v => kPut0 s o.dst v k
  | .val v M => kPut s o.dst v M (chT s.M (chO (kGet s) o.op)) k
  | .skip M => kPut s o.dst undefV M (chT s.M (chO (kGet s) o.op)) k
  | .call f args => kVs args fun args => match call f args s.M with
   | some p => kPut s o.dst p.1 p.2.1 p.2.2 k
   | none => none
 | none => none
def opK (call:Known) (ops:Array Oper) (o:Oper) (s:KSt) (k:KSt → Option KSt):Option KSt :=
 match kWants ops s o with
 | none => none
 | some b => Bool.casesOn b (kPut0 s o.dst undefV k) (opR call o s k (astep X T (kGet s) s.M o.op))
def evOps (call:Known) (ops:Array Oper) (l:List Oper):KSt → Option KSt :=
 List.rec (motive:=fun _ => KSt → Option KSt) (fun s => some s) (fun o _ ih s => opK X T call ops o s ih) l
def orM (ms:List Nat) (m p:Nat):Nat:=m ||| 2 ^ p ||| (nth ms p).getD 0
def maskStep (ops:Array Oper) (ms:List Nat) (i:Nat):Nat:=(preds ops i).foldl (orM ms) 0
def masks (ops:Array Oper) (n:Nat):List Nat:=Nat.rec (motive:=fun _ => List Nat) [] (fun i ms => ms ++ [maskStep ops ms i]) n
def bf (ms:List Nat) (j i:Nat):Bool:=Nat.testBit ((nth ms i).getD 0) j
structure KEnt where
 L:Nat
 L':Nat
 T:List Nat
 kd:Bool
 Kl:List Nat
 deriving Inhabited
def KEnt.tch (e:KEnt) (b:Nat):Bool:=(Nat.blt b e.L && memN e.T b) || (Nat.ble e.L b && Nat.blt b e.L')
def incE (ms:List Nat) (i:Nat):List Nat:=(List.range i).filter fun j => !bf ms j i
def badT (ops:Array Oper) (ms:List Nat) (i:Nat):List Nat:=(List.range ops.size).filterMap fun j =>
 if j = i then none else Bool.casesOn (Bool.casesOn (Nat.blt j i) (bf ms i j) (bf ms j i)) ((ops[j]?).bind fun o => o.dst) none
def mTmp (bad:List Nat) (s:KSt) (t:Nat):Option (Option V):=Bool.casesOn (memN bad t) (kTmp s t) none
def mGet (bad:List Nat) (s:KSt) (x:Operand):Option V :=
 match x with
 | .tmp t => Option.casesOn (mTmp bad s t) none fun v => v
 | .const v => ofVal v
 | .global g => some (.gptr g 0)
 | .func f => some (.fn f [])
def mGave (bad:List Nat) (ops:Array Oper) (s:KSt) (j:Nat):Option (Option Bool) :=
 match ops[j]? with
 | some p => match p.dst with
  | some d => match mTmp bad s d with
   | some (some (.bool b)) => some (some b)
   | some (some (.tup [])) => some none
   | _ => none
  | none => none
 | none => none
def mWants (bad:List Nat) (ops:Array Oper) (s:KSt) (o:Oper):Option Bool :=
 match o.guard with
 | none => some true
 | some p => (mGave bad ops s p.1).map fun b => b == some p.2
def KEnt.names (e:KEnt):List Nat:=e.T.filter (fun b => Nat.blt b e.L) ++ List.range' e.L (e.L' - e.L)
def postOK (acc:List KEnt) (inc T:List Nat):Bool :=
 T.all fun b => inc.all fun j => match nth acc j with
  | some e => !e.tch b && ((Nat.ble e.L b || e.kd) || memN e.Kl b)
  | none => false
def restore (M:Mem) (Kl:List Nat) (R:Mem):Mem:=Kl.foldl (fun R b => R.set b ((M[b]?).getD .dead)) R
theorem restore_get (M:Mem):∀ (Kl:List Nat) (R:Mem) (b:Nat),(restore M Kl R)[b]? = if b ∈ Kl ∧ b < R.length then some ((M[b]?).getD .dead) else R[b]?
 | [],R,b => by simp [restore]
 | a :: Kl,R,b => by
  have e:restore M (a :: Kl) R = restore M Kl (R.set a ((M[a]?).getD .dead)):=rfl
  rw [e,restore_get M Kl,List.length_set]
  by_cases h1:b ∈ Kl ∧ b < R.length
  ·rw [if_pos h1,if_pos ⟨List.mem_cons_of_mem _ h1.1,h1.2⟩]
  ·rw [if_neg h1]
   by_cases h2:a = b
   ·subst h2
    by_cases h3:a < R.length
    ·rw [List.getElem?_set_self h3,if_pos ⟨List.mem_cons_self ..,h3⟩]
    ·rw [if_neg (fun h => h3 h.2),List.getElem?_eq_none_iff.2 (by simp; omega),List.getElem?_eq_none_iff.2 (by omega)]
   ·rw [List.getElem?_set_ne h2,if_neg]
    rintro ⟨h3,h4⟩
    rcases List.mem_cons.1 h3 with h3 | h3
    ·exact h2 h3.symm
    ·exact h1 ⟨h3,h4⟩
theorem restore_len (M:Mem) (Kl:List Nat):∀ (R:Mem),(restore M Kl R).length = R.length:=by
 induction Kl with
 | nil => intro R; rfl
 | cons a Kl ih => intro R; show (restore M Kl (R.set a _)).length = _; rw [ih]; simp
theorem memN_iff {l:List Nat} {t:Nat}:memN l t = true ↔ t ∈ l:=by
 induction l with
 | nil => simp [memN]
 | cons a l ih =>
  show (Bool.casesOn (Nat.beq a t) (memN l t) true:Bool) = true ↔ _
  cases hb:Nat.beq a t with
  | true =>
   have:=Nat.eq_of_beq_eq_true hb; subst this; simp
  | false =>
   have hne:t ≠ a:=by rintro rfl; simp at hb
   simp only [List.mem_cons,hne,false_or]; exact ih
def minN (l:List Nat):Nat:=match l with
 | [] => 0
 | a :: l => List.rec (motive:=fun _ => Nat) a (fun b _ ih => Bool.casesOn (Nat.ble b ih) ih b) l
theorem minN_le {l:List Nat} {a:Nat} (h:a ∈ l):minN l ≤ a:=by
 cases l with
 | nil => cases h
 | cons x l =>
  have key:∀ l:List Nat,(List.rec (motive:=fun _ => Nat) x (fun b _ ih => Bool.casesOn (Nat.ble b ih) ih b) l:Nat) ≤ x ∧ ∀ a ∈ l,(List.rec (motive:=fun _ => Nat) x (fun b _ ih => Bool.casesOn (Nat.ble b ih) ih b) l:Nat) ≤ a:=by
   intro l
   induction l with
   | nil => exact ⟨Nat.le_refl _,fun a ha => by cases ha⟩
   | cons y l ih =>
    show (Bool.casesOn (Nat.ble y (List.rec (motive:=fun _ => Nat) x (fun b _ ih => Bool.casesOn (Nat.ble b ih) ih b) l)) (List.rec (motive:=fun _ => Nat) x (fun b _ ih => Bool.casesOn (Nat.ble b ih) ih b) l) y:Nat) ≤ x ∧ ∀ a ∈ y :: l,(Bool.casesOn (Nat.ble y (List.rec (motive:=fun _ => Nat) x (fun b _ ih => Bool.casesOn (Nat.ble b ih) ih b) l)) (List.rec (motive:=fun _ => Nat) x (fun b _ ih => Bool.casesOn (Nat.ble b ih) ih b) l) y:Nat) ≤ a
    generalize (List.rec (motive:=fun _ => Nat) x (fun b _ ih => Bool.casesOn (Nat.ble b ih) ih b) l:Nat) = m at *
    cases hb:Nat.ble y m with
    | true =>
     rw [Nat.ble_eq] at hb
     refine ⟨by show y ≤ x; omega,fun a ha => ?_⟩
     show y ≤ a
     rcases List.mem_cons.1 ha with rfl | ha
     ·exact Nat.le_refl _
     ·have:=ih.2 a ha; omega
    | false =>
     have hb':¬ y ≤ m:=fun e => by rw [← Nat.ble_eq,hb] at e; cases e
     refine ⟨ih.1,fun a ha => ?_⟩
     show m ≤ a
     rcases List.mem_cons.1 ha with rfl | ha
     ·omega
     ·exact ih.2 a ha
  show (List.rec (motive:=fun _ => Nat) x (fun b _ ih => Bool.casesOn (Nat.ble b ih) ih b) l:Nat) ≤ a
  rcases List.mem_cons.1 h with rfl | h
  ·exact (key l).1
  ·exact (key l).2 a h
def tlM (M:Mem):Mem:=List.casesOn M [] (fun _ l => l)
def hdM (M:Mem):Blk:=List.casesOn M .dead (fun b _ => b)
def restGo (Kl:List Nat) (f:Nat) (R:Mem):Nat → Mem → Mem:=List.rec (motive:=fun _ => Nat → Mem → Mem) (fun _ _ => []) (fun r _ ih i M => Bool.casesOn (Nat.blt i f) (Bool.casesOn (memN Kl i) (r :: ih (Nat.succ i) (tlM M)) (hdM M :: ih (Nat.succ i) (tlM M))) (r :: ih (Nat.succ i) (tlM M))) R
theorem tlM_get (M:Mem) (b:Nat):(tlM M)[b]? = M[b + 1]?:=by cases M <;> simp [tlM]
theorem hdM_get (M:Mem):hdM M = (M[0]?).getD .dead:=by cases M <;> simp [hdM]
theorem restGo_get (Kl:List Nat) (f:Nat):∀ (R:Mem) (i:Nat) (M:Mem) (b:Nat),(restGo Kl f R i M)[b]? = if (f ≤ i + b ∧ i + b ∈ Kl) ∧ b < R.length then some ((M[b]?).getD .dead) else R[b]?
 | [],i,M,b => by simp [restGo]
 | r :: R,i,M,b => by
  show (Bool.casesOn (Nat.blt i f) (Bool.casesOn (memN Kl i) (r :: restGo Kl f R (Nat.succ i) (tlM M)) (hdM M :: restGo Kl f R (Nat.succ i) (tlM M))) (r :: restGo Kl f R (Nat.succ i) (tlM M)):Mem)[b]? = _
  have ih:=restGo_get Kl f R (Nat.succ i) (tlM M)
  have hb:Nat.blt i f = true ↔ i < f:=by simp [Nat.blt_eq]
  cases b with
  | zero =>
   cases h1:Nat.blt i f with
   | true =>
    have:=hb.1 h1
    rw [if_neg (by omega)]; rfl
   | false =>
    have:¬ i < f:=fun e => by rw [hb.2 e] at h1; cases h1
    cases h2:memN Kl i with
    | true => rw [if_pos ⟨⟨by omega,memN_iff.1 h2⟩,by simp⟩]; simp [hdM_get]
    | false =>
     have h3:¬ i ∈ Kl:=fun e => by rw [memN_iff.2 e] at h2; cases h2
     rw [if_neg (fun e => h3 e.1.2)]; rfl
  | succ b =>
   have e:∀ x:Blk,(x :: restGo Kl f R (Nat.succ i) (tlM M))[b + 1]? = if (f ≤ i + (b + 1) ∧ i + (b + 1) ∈ Kl) ∧ b + 1 < (r :: R).length then some ((M[b + 1]?).getD .dead) else (r :: R)[b + 1]?:=by
    intro x
    rw [List.getElem?_cons_succ,ih b,tlM_get,show Nat.succ i + b = i + (b + 1) by omega]
    simp
   cases h1:Nat.blt i f with
   | true => exact e r
   | false =>
    cases h2:memN Kl i with
    | true => exact e _
    | false => exact e r
def restK (M:Mem) (Kl:List Nat) (R:Mem):Mem:=match Kl with
 | [] => R
 | a :: l => kNat (minN (a :: l)) fun f => restGo (a :: l) f R 0 M
theorem restK_eq (M:Mem) (Kl:List Nat) (R:Mem):restK M Kl R = restore M Kl R:=by
 cases Kl with
 | nil => rfl
 | cons a l =>
  apply List.ext_getElem?
  intro b
  show (kNat (minN (a :: l)) fun f => restGo (a :: l) f R 0 M)[b]? = _
  rw [kNat_eq,restGo_get,restore_get,Nat.zero_add]
  by_cases h:b ∈ a :: l ∧ b < R.length
  ·rw [if_pos h,if_pos ⟨⟨minN_le h.1,h.1⟩,h.2⟩]
  ·rw [if_neg h,if_neg (fun e => h ⟨e.1.2,e.2⟩)]
def kRest (Kl:List Nat) (M:Mem) (k:Mem → Option α):Option α :=
 match Kl with
 | [] => k M
 | a :: l => kSpine (restK [] (a :: l) M) k
theorem kRest_eq (Kl:List Nat) (M:Mem) (k:Mem → Option α):kRest Kl M k = k (restore [] Kl M):=by
 cases Kl with
 | nil => rfl
 | cons a l => rw [kRest,kSpine_eq,restK_eq]
def isMove:Op → Bool
 | .move _ => true
 | .assign _ => true
 | .extract _ _ => true
 | .nilCheck _ => true
 | .fieldAddr _ _ _ => true
 | _ => false
def dNew (s:KSt) (dst:Option Tmp) (acc:List KEnt) (inc Kl:List Nat) (v:V) (R:Mem) (T:List Nat) (k:KSt → List KEnt → Option KSt):Option KSt :=
 kNats T fun T => kNat (lenK s.M) fun L => kNat (lenK R) fun L' => Bool.casesOn (postOK acc inc T && Nat.ble L L') none
  (kV v fun v => kNew s.M (restK s.M Kl R) fun M => kForce T M fun M => kNats (addCh s.base T s.ch) fun ch => kDst s dst v M ch fun s => kSpine (acc ++ [⟨L,L',T,false,Kl⟩]) fun acc => k s acc)
def dOld (s:KSt) (dst:Option Tmp) (acc:List KEnt) (kd:Bool) (Kl:List Nat) (v:V) (k:KSt → List KEnt → Option KSt):Option KSt :=
 KSt.casesOn s fun rs ds M base ch => kPut0 ⟨rs,ds,M,base,ch⟩ dst v fun s => kSpine (acc ++ [⟨M.length,M.length,[],kd,Kl⟩]) fun acc => k s acc
def dRun (call:Known) (o:Oper) (s:KSt) (acc:List KEnt) (ρ:Operand → Option V) (inc Kl:List Nat) (k:KSt → List KEnt → Option KSt):Option KSt :=
 kRest Kl s.M fun KM =>
 match astep X T ρ KM o.op with
 | some r => match r with
  | .pure v => dOld s o.dst acc false Kl v k
  | .val v R => dNew s o.dst acc inc Kl v R (chT KM (chO ρ o.op)) k
  | .skip R => dNew s o.dst acc inc Kl undefV R (chT KM (chO ρ o.op)) k
  | .call f args => kVs args fun args => match call f args KM with
   | some p => dNew s o.dst acc inc Kl p.1 p.2.1 p.2.2 k
   | none => none
 | none => none
def dOp (call:Known) (ops:Array Oper) (ms:List Nat) (i:Nat) (o:Oper) (s:KSt) (acc:List KEnt) (k:KSt → List KEnt → Option KSt):Option KSt :=
 kNats (badT ops ms i) fun bad =>
 match mWants bad ops s o with
 | none => none
 | some b => Bool.casesOn b (dOld s o.dst acc true [] undefV k)
  (Bool.casesOn (isMove o.op)
   (kNats (incE ms i) fun inc => kNats (inc.flatMap fun j => ((nth acc j).getD default).names) fun Kl => dRun X T call o s acc (mGet bad s) inc Kl k)
   (match astep X T (mGet bad s) [] o.op with
    | some (.pure v) => dOld s o.dst acc true [] v k
    | _ => none))
def evD (call:Known) (ops:Array Oper) (ms:List Nat) (l:List Oper):Nat → KSt → List KEnt → Option KSt :=
 List.rec (motive:=fun _ => Nat → KSt → List KEnt → Option KSt) (fun _ s _ => some s) (fun o _ ih i s acc => dOp X T call ops ms i o s acc fun s acc => kNat (i + 1) fun i => ih i s acc) l
def dGood (ops:Array Oper):Bool :=
 ((List.range ops.size).all fun i => (preds ops i).all fun p => Nat.blt p i) &&
 ((List.range ops.size).all fun i => (List.range ops.size).all fun j => Nat.beq i j || (match (ops[i]?).bind (·.dst),(ops[j]?).bind (·.dst) with | some a,some b => !Nat.beq a b | _,_ => true))
def evDr (call:Known) (ops:Array Oper) (s:KSt):Option KSt :=
 Bool.casesOn (dGood ops) none (kNats (masks ops ops.size) fun ms => evD X T call ops ms ops.toList 0 s [])
abbrev Res:=Option (AExit × KSt)
inductive Ctx where
 | plain
 | scope (c:Code)
 | loop (c:Code)
abbrev EVT:=Ctx → Code → KSt → Res
def jumpK (J:EVT) (body:Code) (r:Res):Res :=
 match r with
 | some p => match p.1 with
  | .goto l => match findLabel body l with
   | some rest => J (.scope body) rest p.2
   | none => some (.goto l,p.2)
  | x => some (x,p.2)
 | none => none
def loopK (J:EVT) (body:Code) (r:Res):Res :=
 match r with
 | some p => match p.1 with
  | .normal => J (.loop body) body p.2
  | x => some (x,p.2)
 | none => none
def seqK (k:KSt → Res) (r:Res):Res :=
 match r with
 | some p => match p.1 with
  | .normal => k p.2
  | x => some (x,p.2)
 | none => none
def condK (a b:KSt → Res) (s:KSt) (v:Option V):Res :=
 match v with
 | some (.bool t) => Bool.casesOn t (b s) (a s)
 | _ => none
def blockK (id:Nat) (r:Res):Res :=
 match r with
 | some p => some (inBlk id p.1,p.2)
 | none => none
def regK (r:Option KSt):Res :=
 match r with
 | some s => some (.normal,s)
 | none => none
def evC (call:Known) (J:EVT) (c:Code):KSt → Res :=
 Code.rec (motive:=fun _ => KSt → Res)
  (fun s => some (.normal,s))
  (fun _ ops draw s => Bool.casesOn draw (regK (evOps X T call ops ops.toList s)) (regK (evDr X T call ops s)))
  (fun _ _ iha ihb s => seqK ihb (iha s))
  (fun c _ _ iha ihb s => condK iha ihb s (kGet s c))
  (fun id _ ih s => blockK id (ih s))
  (fun c ih s => loopK J c (ih s))
  (fun _ _ _ _ _ _ _ => none)
  (fun id s => some (.exit id,s))
  (fun c ih s => jumpK J c (ih s))
  (fun _ s => some (.normal,s))
  (fun l s => some (.goto l,s))
  (fun s => some (.ret,s))
  (fun _ _ => none) c
def evS (call:Known) (J:EVT):EVT:=fun x c s =>
 match x with
 | .plain => evC X T call J c s
 | .scope body => jumpK J body (evC X T call J c s)
 | .loop body => loopK J body (evC X T call J body s)
def EV (call:Known) (n:Nat):EVT:=Nat.rec (motive:=fun _ => EVT) (fun _ _ _ => none) (fun _ J => evS X T call J) n
def finK (s:KSt) (rs:List ResultVar):Option (V × Mem × List Nat) :=
 match s.ds with
 | [] => (resV T s rs).map fun l => (retV l,s.M,s.ch)
 | _ => none
def retK (rs:List ResultVar) (r:Res):Option (V × Mem × List Nat) :=
 match r with
 | some p => match p.1 with
  | .normal => finK T p.2 rs
  | .ret => finK T p.2 rs
  | _ => none
 | none => none
def fnK (call:Known) (args:List V) (M:Mem) (r:Option FnV):Option (V × Mem × List Nat) :=
 match r with
 | some fn => if 320 < (start fn args).length then none else kSpine (chunk 40 (start fn args)) fun rs => kNat M.length fun L => retK T fn.results (EV X T call 100000 .plain fn.body ⟨rs,[],M,L,[]⟩)
 | none => none
def knownK (call:Known) (f:FuncId) (args:List V) (M:Mem) (r:Option (V × Mem × List Nat)):Option (V × Mem × List Nat) :=
 match r with
 | some r => some r
 | none => fnK X T call args M (F f)
def FN (m:Nat):Known:=Nat.rec (motive:=fun _ => Known) (fun _ _ _ => none) (fun _ call f args M => knownK X T F call f args M (S f args M)) m
end
end
end
section
structure GrowL (M M':Mem) (T:List Nat):Prop where
 le:M.length ≤ M'.length
 same:∀ b,b < M.length → M'[b]? ≠ M[b]? → b ∈ T
 ro:∀ (b:Nat) (cs:List V),M'[b]? = some (.ro cs) → M[b]? = some (.ro cs)
 keep:∀ (b:Nat) (cs:List V),M[b]? = some (.ro cs) → M'[b]? = some (.ro cs)
 own:∀ b ∈ T,∀ cs,M[b]? ≠ some (.ro cs)
theorem GrowL.refl (M:Mem):GrowL M M []:=⟨Nat.le_refl _,fun _ _ h => absurd rfl h,fun _ _ h => h,fun _ _ h => h,fun _ h => by cases h⟩
theorem Grow.toL {M M':Mem} {c:Option Nat} (h:Grow M M' c):GrowL M M' (chT M c):=by
 refine ⟨h.le,?_,h.ro,?_,?_⟩
 ·intro b hb hne
  obtain ⟨rfl,cs,gs,ho⟩:=h.same b hb hne
  simp [chT,ho]
 ·intro b cs hb
  have hlt:=(List.getElem?_eq_some_iff.1 hb).1
  by_cases e:M'[b]? = M[b]?
  ·rw [e]; exact hb
  ·obtain ⟨_,ds,gs,ho⟩:=h.same b hlt e
   rw [hb] at ho; cases ho
 ·intro b hb cs
  unfold chT at hb
  split at hb
  ·split at hb
   ·rename_i ho
    simp only [List.mem_singleton] at hb; subst hb
    rw [ho]; simp
   ·cases hb
  ·cases hb
theorem mem_addCh {base:Nat} {T ch:List Nat} {b:Nat}:b ∈ addCh base T ch ↔ b ∈ ch ∨ (b ∈ T ∧ b < base):=by
 induction T with
 | nil => simp [addCh]
 | cons a T ih =>
  show b ∈ (Bool.casesOn (Nat.blt a base && !memN ch a) (addCh base T ch) (a :: addCh base T ch):List Nat) ↔ _
  cases hc:(Nat.blt a base && !memN ch a) with
  | true =>
   simp only [Bool.and_eq_true,Bool.not_eq_true'] at hc
   have hlt:a < base:=by simpa [Nat.blt_eq] using hc.1
   simp only [List.mem_cons,ih]
   constructor
   ·rintro (rfl | h | ⟨h1,h2⟩)
    ·exact .inr ⟨.inl rfl,hlt⟩
    ·exact .inl h
    ·exact .inr ⟨.inr h1,h2⟩
   ·rintro (h | ⟨rfl | h,h2⟩)
    ·exact .inr (.inl h)
    ·exact .inl rfl
    ·exact .inr (.inr ⟨h,h2⟩)
  | false =>
   simp only [List.mem_cons,ih]
   constructor
   ·rintro (h | ⟨h1,h2⟩)
    ·exact .inl h
    ·exact .inr ⟨.inr h1,h2⟩
   ·rintro (h | ⟨rfl | h,h2⟩)
    ·exact .inl h
    ·left
     rw [Bool.and_eq_false_iff] at hc
     rcases hc with hc | hc
     ·have:Nat.blt b base = true:=by simpa [Nat.blt_eq] using h2
      rw [this] at hc; cases hc
     ·simp only [Bool.not_eq_false'] at hc
      exact memN_iff.1 hc
    ·exact .inr ⟨h,h2⟩
theorem GrowL.trans {M M1 M2:Mem} {ch T:List Nat} (h:GrowL M M1 ch) (h':GrowL M1 M2 T):GrowL M M2 (addCh M.length T ch):=by
 refine ⟨Nat.le_trans h.le h'.le,?_,fun b cs hb => h.ro b cs (h'.ro b cs hb),fun b cs hb => h'.keep b cs (h.keep b cs hb),?_⟩
 ·intro b hb hne
  rw [mem_addCh]
  by_cases e:M2[b]? = M1[b]?
  ·exact .inl (h.same b hb (by rwa [e] at hne))
  ·exact .inr ⟨h'.same b (Nat.lt_of_lt_of_le hb h.le) e,hb⟩
 ·intro b hb cs he
  rw [mem_addCh] at hb
  rcases hb with hb | ⟨hb,_⟩
  ·exact h.own b hb cs he
  ·exact h'.own b hb cs (h.keep b cs he)
structure Good (M0:Mem) (s:KSt) (s':St):Prop where
 same:Same s s'
 base:s.base = M0.length
 grow:GrowL M0 s'.M s.ch
section
variable {P:Program} {G:GF} {X:Rule} {T:Nat → Option Ty} {F:Nat → Option FnV} {S:Known} {M0:Mem}
def CallOK (P:Program) (G:GF) (call:Known):Prop:=∀ f args M v M' ch,call f args M = some (v,M',ch) → ACall P G f args M v M' ∧ GrowL M M' ch
theorem Good.put0 {s:KSt} {s':St} (h:Good M0 s s') {dst:Option Tmp} {v:V} {k:KSt → Option KSt} {r:KSt} (hr:kPut0 s dst v k = some r):∃ s1,Good M0 s1 (s'.put dst v s'.M) ∧ k s1 = some r:=by
 obtain ⟨s1,h1,h2,h3,h4⟩:=kPut0_eq h.same hr
 refine ⟨s1,⟨h1,h2.trans h.base,?_⟩,h4⟩
 rw [h3]
 have:(s'.put dst v s'.M).M = s'.M:=by cases dst <;> rfl
 rw [this]; exact h.grow
theorem put_M (s':St) (dst:Option Tmp) (v:V) (M:Mem):(s'.put dst v M).M = M:=by cases dst <;> rfl
theorem Good.put {s:KSt} {s':St} (h:Good M0 s s') {dst:Option Tmp} {v:V} {M:Mem} {L:List Nat} (hg:GrowL s'.M M L) {k:KSt → Option KSt} {r:KSt} (hr:kPut s dst v M L k = some r):∃ s1,Good M0 s1 (s'.put dst v M) ∧ k s1 = some r:=by
 obtain ⟨s1,h1,h2,h3,h4⟩:=kPut_eq h.same hr
 refine ⟨s1,⟨h1,h2.trans h.base,?_⟩,h4⟩
 rw [h3,put_M,h.base]
 exact h.grow.trans hg
theorem opK_sound (hG:GOK G) (hX:RuleOK G X) (hT:∀ (t:TypeId) (d:Ty),T t = some d → d.ok P t) {call:Known} (hC:CallOK P G call) {ops:Array Oper} {i:Nat} {o:Oper} (ho:ops[i]? = some o) {s:KSt} {s':St} (h:Good M0 s s')
  {k:KSt → Option KSt} {r:KSt} (hr:opK X T call ops o s k = some r):∃ s1 v M',AOpV P G ops i s' o.dst v M' ∧ Good M0 s1 (s'.put o.dst v M') ∧ k s1 = some r:=by
 unfold opK at hr
 rw [kWants_eq h.same] at hr
 split at hr
 ·cases hr
 ·rename_i b hw
  cases b with
  | false =>
   obtain ⟨s1,h1,h2⟩:=h.put0 hr
   exact ⟨s1,undefV,s'.M,AOpV.idle ho hw,h1,h2⟩
  | true =>
   simp only at hr
   rw [kGet_eq h.same,h.same.M] at hr
   unfold opR at hr
   split at hr
   ·rename_i r' hs
    have hgr:=astep_grow hs
    rw [kGet_eq h.same,h.same.M] at hr
    split at hr
    ·rename_i v
     obtain ⟨s1,h1,h2⟩:=h.put0 hr
     exact ⟨s1,v,s'.M,AOpV.step hG hX hT ho hw hs ⟨rfl,rfl⟩,h1,h2⟩
    ·rename_i v M
     obtain ⟨s1,h1,h2⟩:=h.put (Grow.toL hgr) hr
     exact ⟨s1,v,M,AOpV.step hG hX hT ho hw hs ⟨rfl,rfl⟩,h1,h2⟩
    ·rename_i M
     obtain ⟨s1,h1,h2⟩:=h.put (Grow.toL hgr) hr
     exact ⟨s1,undefV,M,AOpV.step hG hX hT ho hw hs ⟨rfl,rfl⟩,h1,h2⟩
    ·rename_i f args
     rw [kVs_eq] at hr
     split at hr
     ·rename_i p hp
      obtain ⟨v,M,ch⟩:=p
      obtain ⟨hc1,hc2⟩:=hC _ _ _ _ _ _ hp
      obtain ⟨s1,h1,h2⟩:=h.put hc2 hr
      exact ⟨s1,v,M,AOpV.step hG hX hT ho hw hs hc1,h1,h2⟩
     ·cases hr
   ·cases hr
theorem evOps_sound (hG:GOK G) (hX:RuleOK G X) (hT:∀ (t:TypeId) (d:Ty),T t = some d → d.ok P t) {call:Known} (hC:CallOK P G call) {ops:Array Oper} :
  ∀ (l:List Oper) (i:Nat) (s:KSt) (s':St) (r:KSt),ops.toList.drop i = l → Good M0 s s' → evOps X T call ops l s = some r → ∃ r',Good M0 r r' ∧ AOps P G ops (List.range' i l.length) s' r'
 | [],i,s,s',r,_,h,hr => by
  simp only [evOps] at hr
  injection hr with hr; subst hr
  exact ⟨s',h,.nil⟩
 | o :: l,i,s,s',r,hl,h,hr => by
  have ho:ops[i]? = some o:=by
   have:=congrArg (fun l => l[0]?) hl
   simpa [List.getElem?_drop] using this
  have hl':ops.toList.drop (i + 1) = l:=by
   have:=congrArg (fun l => l.drop 1) hl
   simpa [List.drop_drop] using this
  obtain ⟨s1,v,M',h1,h2,h3⟩:=opK_sound hG hX hT hC ho h (k:=evOps X T call ops l) hr
  obtain ⟨r',h4,h5⟩:=evOps_sound hG hX hT hC l (i + 1) s1 _ r hl' h2 h3
  refine ⟨r',h4,?_⟩
  rw [List.length_cons,List.range'_succ]
  exact AOps.cons h1.op h5
def DrOK (P:Program) (G:GF) (X:Rule) (T:Nat → Option Ty) (call:Known):Prop:=∀ (M0:Mem) (id:Nat) (ops:Array Oper) (s:KSt) (s':St) (r:KSt),Good M0 s s' → evDr X T call ops s = some r → ∃ r',Good M0 r r' ∧ AW P G (.region id ops true) s' .normal r'
def CtxOK (P:Program) (G:GF) (M0:Mem) (x:Ctx) (c:Code) (s':St) (r:AExit × KSt):Prop :=
 match x with
 | .plain => ∃ r',Good M0 r.2 r' ∧ AW P G c s' r.1 r'
 | .scope body => ∃ r' n,Good M0 r.2 r' ∧ Jmp P G body n c s' r.1 r'
 | .loop body => ∃ r' n,Good M0 r.2 r' ∧ Its P G body n s' r.1 r'
def EVOK (P:Program) (G:GF) (J:EVT):Prop:=∀ (M0:Mem) (x:Ctx) (c:Code) (s:KSt) (s':St) (r:AExit × KSt),(∀ b,x = .loop b → c = b) → Good M0 s s' → J x c s = some r → CtxOK P G M0 x c s' r
theorem jumpK_sound {J:EVT} (hJ:EVOK P G J) {body c:Code} {s':St} {q:Res} {r:AExit × KSt} (hq:∀ p,q = some p → ∃ r',Good M0 p.2 r' ∧ AW P G c s' p.1 r') (hr:jumpK J body q = some r):∃ r' n,Good M0 r.2 r' ∧ Jmp P G body n c s' r.1 r':=by
 unfold jumpK at hr
 split at hr
 ·rename_i p
  obtain ⟨x,s1⟩:=p
  obtain ⟨r',h1,h2⟩:=hq _ rfl
  simp only at hr
  split at hr
  ·rename_i l
   split at hr
   ·rename_i rest hl
    obtain ⟨r2,n,h3,h4⟩:=hJ M0 (.scope body) rest s1 r' r (by intro b hb; cases hb) h1 hr
    exact ⟨r2,n + 1,h3,.next h2 hl h4⟩
   ·rename_i hl
    injection hr with hr; subst hr
    refine ⟨r',0,h1,.out h2 ?_⟩
    intro l' he; injection he with he; subst he; exact hl
  ·rename_i y hne
   injection hr with hr; subst hr
   refine ⟨r',0,h1,.out h2 ?_⟩
   intro l' he
   simp only at he
   exact absurd he (hne l')
 ·cases hr
theorem loopK_sound {J:EVT} (hJ:EVOK P G J) {body:Code} {s':St} {q:Res} {r:AExit × KSt} (hq:∀ p,q = some p → ∃ r',Good M0 p.2 r' ∧ AW P G body s' p.1 r') (hr:loopK J body q = some r):∃ r' n,Good M0 r.2 r' ∧ Its P G body n s' r.1 r':=by
 unfold loopK at hr
 split at hr
 ·rename_i p
  obtain ⟨x,s1⟩:=p
  obtain ⟨r',h1,h2⟩:=hq _ rfl
  simp only at hr
  split at hr
  ·obtain ⟨r2,n,h3,h4⟩:=hJ M0 (.loop body) body s1 r' r (by intro b hb; injection hb) h1 hr
   exact ⟨r2,n + 1,h3,.next h2 h4⟩
  ·rename_i hne
   injection hr with hr; subst hr
   exact ⟨r',0,h1,.out h2 hne⟩
 ·cases hr
theorem evC_sound (hG:GOK G) (hX:RuleOK G X) (hT:∀ (t:TypeId) (d:Ty),T t = some d → d.ok P t) {call:Known} (hC:CallOK P G call) (hD:DrOK P G X T call) {J:EVT} (hJ:EVOK P G J) :
  ∀ (c:Code) (s:KSt) (s':St) (r:AExit × KSt),Good M0 s s' → evC X T call J c s = some r → ∃ r',Good M0 r.2 r' ∧ AW P G c s' r.1 r':=by
 intro c
 induction c with
 | skip => intro s s' r h hr; injection hr with hr; subst hr; exact ⟨s',h,.skip⟩
 | region id ops draw =>
  intro s s' r h hr
  cases draw with
  | false =>
   have hr:regK (evOps X T call ops ops.toList s) = some r:=hr
   unfold regK at hr
   split at hr
   ·rename_i s1 hs
    injection hr with hr; subst hr
    obtain ⟨r',h1,h2⟩:=evOps_sound hG hX hT hC ops.toList 0 s s' s1 rfl h hs
    refine ⟨r',h1,AW.region ?_⟩
    rw [Array.length_toList,← List.range_eq_range'] at h2
    exact h2
   ·cases hr
  | true =>
   have hr:regK (evDr X T call ops s) = some r:=hr
   unfold regK at hr
   split at hr
   ·rename_i s1 hs
    injection hr with hr; subst hr
    exact hD M0 id ops s s' s1 h hs
   ·cases hr
 | seq a b iha ihb =>
  intro s s' r h hr
  have hr:seqK (evC X T call J b) (evC X T call J a s) = some r:=hr
  unfold seqK at hr
  split at hr
  ·rename_i p hp
   obtain ⟨x,s1⟩:=p
   obtain ⟨r',h1,h2⟩:=iha s s' _ h hp
   simp only at hr
   split at hr
   ·obtain ⟨r2,h3,h4⟩:=ihb s1 r' r h1 hr
    exact ⟨r2,h3,AW.seq h2 h4⟩
   ·rename_i hne
    injection hr with hr; subst hr
    exact ⟨r',h1,AW.seq_out h2 hne⟩
  ·cases hr
 | cond x a b iha ihb =>
  intro s s' r h hr
  have hr:condK (evC X T call J a) (evC X T call J b) s (kGet s x) = some r:=hr
  unfold condK at hr
  rw [kGet_eq h.same] at hr
  split at hr
  ·rename_i t hx
   cases t with
   | true =>
    obtain ⟨r',h1,h2⟩:=iha s s' r h hr
    exact ⟨r',h1,AW.cond hx h2⟩
   | false =>
    obtain ⟨r',h1,h2⟩:=ihb s s' r h hr
    exact ⟨r',h1,AW.cond hx h2⟩
  ·cases hr
 | block id c ih =>
  intro s s' r h hr
  have hr:blockK id (evC X T call J c s) = some r:=hr
  unfold blockK at hr
  split at hr
  ·rename_i p hp
   injection hr with hr; subst hr
   obtain ⟨r',h1,h2⟩:=ih s s' _ h hp
   exact ⟨r',h1,AW.block h2⟩
  ·cases hr
 | loop c ih =>
  intro s s' r h hr
  have hr:loopK J c (evC X T call J c s) = some r:=hr
  obtain ⟨r',n,h1,h2⟩:=loopK_sound hJ (fun p hp => ih s s' p h hp) hr
  exact ⟨r',h1,AW.loop h2⟩
 | rangeFunc f ps a b _ _ => intro s s' r h hr; cases hr
 | exit id => intro s s' r h hr; injection hr with hr; subst hr; exact ⟨s',h,.exit⟩
 | scope c ih =>
  intro s s' r h hr
  have hr:jumpK J c (evC X T call J c s) = some r:=hr
  obtain ⟨r',n,h1,h2⟩:=jumpK_sound hJ (fun p hp => ih s s' p h hp) hr
  exact ⟨r',h1,AW.scope h2⟩
 | label l => intro s s' r h hr; injection hr with hr; subst hr; exact ⟨s',h,.label⟩
 | goto l => intro s s' r h hr; injection hr with hr; subst hr; exact ⟨s',h,.goto⟩
 | ret => intro s s' r h hr; injection hr with hr; subst hr; exact ⟨s',h,.ret⟩
 | refuse w => intro s s' r h hr; cases hr
theorem EV_sound (hG:GOK G) (hX:RuleOK G X) (hT:∀ (t:TypeId) (d:Ty),T t = some d → d.ok P t) {call:Known} (hC:CallOK P G call) (hD:DrOK P G X T call):∀ n,EVOK P G (EV X T call n)
 | 0 => fun _ _ _ _ _ _ _ _ hr => by cases hr
 | n + 1 => by
  have ih:=EV_sound hG hX hT hC hD n
  intro M0 x c s s' r hx h hr
  have hr:evS X T call (EV X T call n) x c s = some r:=hr
  cases x with
  | plain => exact evC_sound hG hX hT hC hD ih c s s' r h hr
  | scope body =>
   have hr:jumpK (EV X T call n) body (evC X T call (EV X T call n) c s) = some r:=hr
   exact jumpK_sound ih (fun p hp => evC_sound hG hX hT hC hD ih c s s' p h hp) hr
  | loop body =>
   have hr:loopK (EV X T call n) body (evC X T call (EV X T call n) body s) = some r:=hr
   exact loopK_sound ih (fun p hp => evC_sound hG hX hT hC hD ih body s s' p h hp) hr
end
end
end Go.Proofs.YthajgdmcjfmjoaaGreatDoor.Rel
