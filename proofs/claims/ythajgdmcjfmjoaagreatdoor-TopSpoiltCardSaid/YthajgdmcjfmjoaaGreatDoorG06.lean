/- TopSpoilt, part 6 of 38 of its proof: a relative machine (values, memory, an evaluator, all sound against the model), and by it the walks. Conditions: none. -/
import Derived.Test.YthajgdmcjfmjoaaGreatDoorG01
import Derived.Test.YthajgdmcjfmjoaaGreatDoorG05
set_option linter.all false
namespace Go.Proofs.YthajgdmcjfmjoaaGreatDoor.Rel
section
open Go.Proofs
noncomputable def tyRows:List (List (Option Ty)):=[
 [none,
  none,
  none,
  some { kind:=.int .i64,size:=1,bytes:=8,zero:=[.int .i64 0] },
  some { kind:=.bool,size:=1,bytes:=1,zero:=[.bool false] },
  some { kind:=.int .u8,size:=1,bytes:=1,zero:=[.int .u8 0] },
  none,
  none,
  none,
  some { kind:=.str,size:=1,bytes:=16,zero:=[.str ⟨#[]⟩] },
  none,
  none,
  none,
  none,
  none,
  none],
 [none,
  none,
  none,
  none,
  some { kind:=.iface,size:=1,bytes:=16,zero:=[.nilif] },
  none,
  some { kind:=.slice 5,size:=1,bytes:=24,zero:=[.nilsl] },
  none,
  some { kind:=.struct [(0,3),(1,3),(2,3),(3,3),(4,4),(5,22),(6,22)],size:=7,bytes:=88,zero:=[.int .i64 0,.int .i64 0,.int .i64 0,.int .i64 0,.bool false,.nilsl,.nilsl] },
  none,
  none,
  none,
  some { kind:=.struct [(0,3),(1,3),(2,3),(3,4)],size:=4,bytes:=32,zero:=[.int .i64 0,.int .i64 0,.int .i64 0,.bool false] },
  none,
  none,
  some { kind:=.int .i64,size:=1,bytes:=8,zero:=[.int .i64 0] }],
 [none,
  none,
  none,
  none,
  some { kind:=.slice 22,size:=1,bytes:=24,zero:=[.nilsl] },
  some { kind:=.ptr 55,size:=1,bytes:=8,zero:=[.nilptr] },
  none,
  none,
  none,
  some { kind:=.ptr 66,size:=1,bytes:=8,zero:=[.nilptr] },
  none,
  none,
  none,
  some { kind:=.ptr 63,size:=1,bytes:=8,zero:=[.nilptr] },
  none,
  none],
 [none,
  none,
  none,
  none,
  none,
  none,
  none,
  some { kind:=.struct [(0,4),(1,4),(2,28),(6,41),(7,22),(8,45),(9,22),(10,22)],size:=11,bytes:=128,zero:=[.bool false,.bool false,.int .i64 0,.int .i64 0,.int .i64 0,.bool false,.nilptr,.nilsl,.nilptr,.nilsl,.nilsl] },
  some { kind:=.slice 3,size:=1,bytes:=24,zero:=[.nilsl] },
  none,
  none,
  none,
  none,
  none,
  none,
  some { kind:=.struct [(0,41),(1,3),(2,4),(3,22),(4,22),(5,22)],size:=6,bytes:=96,zero:=[.nilptr,.int .i64 0,.bool false,.nilsl,.nilsl,.nilsl] }],
 [some { kind:=.other,size:=1,bytes:=8,zero:=[.nilfn] },
  none,
  some { kind:=.struct [(0,3),(1,64)],size:=2,bytes:=16,zero:=[.int .i64 0,.nilfn] },
  none,
  none,
  none,
  none,
  none,
  none,
  none,
  none,
  none,
  none,
  none,
  none,
  none],
 [none,
  none,
  none,
  none,
  none,
  none,
  none,
  none,
  none,
  none,
  none,
  none,
  none,
  none,
  none,
  none],
 [none,
  none,
  some { kind:=.int .i64,size:=1,bytes:=8,zero:=[.int .i64 0] },
  none,
  none,
  some { kind:=.slice 36,size:=1,bytes:=24,zero:=[.nilsl] },
  none,
  some { kind:=.struct [(0,101)],size:=1,bytes:=24,zero:=[.nilsl] },
  none,
  none,
  none,
  none,
  none,
  none,
  none,
  none],
 [none,
  some { kind:=.struct [(0,56),(1,56)],size:=2,bytes:=48,zero:=[.nilsl,.nilsl] },
  none,
  none,
  some { kind:=.int .u64,size:=1,bytes:=8,zero:=[.int .u64 0] },
  some { kind:=.slice 122,size:=1,bytes:=24,zero:=[.nilsl] },
  none,
  none,
  none,
  some { kind:=.struct [(0,117),(1,117)],size:=2,bytes:=48,zero:=[.nilsl,.nilsl] },
  some { kind:=.int .u32,size:=1,bytes:=4,zero:=[.int .u32 0] },
  some { kind:=.array 4 122,size:=4,bytes:=16,zero:=[.int .u32 0,.int .u32 0,.int .u32 0,.int .u32 0] },
  none,
  none,
  none,
  none],
 [none,
  none,
  none,
  none,
  some { kind:=.array 4 22,size:=4,bytes:=96,zero:=[.nilsl,.nilsl,.nilsl,.nilsl] },
  some { kind:=.array 4 22,size:=4,bytes:=96,zero:=[.nilsl,.nilsl,.nilsl,.nilsl] },
  none,
  none,
  none,
  some { kind:=.struct [(0,133),(4,36)],size:=5,bytes:=120,zero:=[.nilsl,.nilsl,.nilsl,.nilsl,.nilsl] },
  none,
  none,
  none,
  none,
  none,
  some { kind:=.struct [(0,117),(1,3)],size:=2,bytes:=32,zero:=[.nilsl,.int .i64 0] }],
 [none,
  none,
  none,
  none,
  none,
  none,
  none,
  none,
  none,
  none,
  none,
  none,
  none,
  some { kind:=.array 8 5,size:=8,bytes:=8,zero:=[.int .u8 0,.int .u8 0,.int .u8 0,.int .u8 0,.int .u8 0,.int .u8 0,.int .u8 0,.int .u8 0] },
  some { kind:=.array 3 22,size:=3,bytes:=72,zero:=[.nilsl,.nilsl,.nilsl] },
  none],
 [some { kind:=.array 5 3,size:=5,bytes:=40,zero:=[.int .i64 0,.int .i64 0,.int .i64 0,.int .i64 0,.int .i64 0] },
  some { kind:=.array 7 3,size:=7,bytes:=56,zero:=[.int .i64 0,.int .i64 0,.int .i64 0,.int .i64 0,.int .i64 0,.int .i64 0,.int .i64 0] },
  none,
  none,
  none,
  none,
  none,
  none,
  none,
  some { kind:=.array 4 3,size:=4,bytes:=32,zero:=[.int .i64 0,.int .i64 0,.int .i64 0,.int .i64 0] },
  none,
  none,
  none,
  some { kind:=.array 4 5,size:=4,bytes:=4,zero:=[.int .u8 0,.int .u8 0,.int .u8 0,.int .u8 0] },
  some { kind:=.array 4 173,size:=16,bytes:=16,zero:=List.replicate 16 (.int .u8 0) },
  none],
 [some { kind:=.int .u64,size:=1,bytes:=8,zero:=[.int .u64 0] },
  none,
  none,
  none,
  none,
  some { kind:=.array 2 176,size:=2,bytes:=16,zero:=[.int .u64 0,.int .u64 0] },
  some { kind:=.array 3 181,size:=6,bytes:=48,zero:=[.int .u64 0,.int .u64 0,.int .u64 0,.int .u64 0,.int .u64 0,.int .u64 0] },
  none,
  some { kind:=.slice 117,size:=1,bytes:=24,zero:=[.nilsl] },
  none,
  some { kind:=.array 8 9,size:=8,bytes:=128,zero:=[.str ⟨#[]⟩,.str ⟨#[]⟩,.str ⟨#[]⟩,.str ⟨#[]⟩,.str ⟨#[]⟩,.str ⟨#[]⟩,.str ⟨#[]⟩,.str ⟨#[]⟩] },
  none,
  none,
  some { kind:=.array 4 9,size:=4,bytes:=64,zero:=[.str ⟨#[]⟩,.str ⟨#[]⟩,.str ⟨#[]⟩,.str ⟨#[]⟩] },
  none,
  none],
 [some { kind:=.array 256 4,size:=256,bytes:=256,zero:=List.replicate 256 (.bool false) },
  none,
  none,
  none,
  none,
  none,
  none,
  none,
  none,
  none,
  none,
  none,
  none,
  none,
  none,
  none]]
noncomputable def tyF (t:Nat):Option Ty:=match nth tyRows (t / 16) with
 | some r => match nth r (t % 16) with
  | some d => d
  | none => none
 | none => none
theorem tyF_all:(List.range 208).map tyF = (List.range 208).map ty:=by kernel_rfl
theorem tyRows_len:tyRows.length = 13:=rfl
theorem tyF_ok:∀ (t:Nat) (d:Ty),tyF t = some d → d.ok Tryz.prog t:=by
 intro t d h
 by_cases ht:t < 208
 ·have h1:=congrArg (fun l => l[t]?) tyF_all
  simp only [List.getElem?_map,List.getElem?_range ht,Option.map_some,Option.some.injEq] at h1
  exact ty_ok t d (h1.symm.trans h)
 ·have h0:nth tyRows (t / 16) = none:=by rw [nth_eq]; exact List.getElem?_eq_none_iff.2 (by rw [tyRows_len]; omega)
  unfold tyF at h
  rw [h0] at h
  cases h
noncomputable def fnOf (f:Func):FnV:=⟨f.ntmps,f.results.toList,f.body.getD .skip⟩
noncomputable def fnRows:List (List (Option FnV)):=[
 [none,none,none,some (fnOf Tryz.f3),some (fnOf Tryz.f4),some (fnOf Tryz.f5),some (fnOf Tryz.f6),some (fnOf Tryz.f7),some (fnOf Tryz.f8),some (fnOf Tryz.f9),some (fnOf Tryz.f10),some (fnOf Tryz.f11),some (fnOf Tryz.f12),some (fnOf Tryz.f13),some (fnOf Tryz.f14),some (fnOf Tryz.f15)],
 [some (fnOf Tryz.f16),some (fnOf Tryz.f17),some (fnOf Tryz.f18),some (fnOf Tryz.f19),some (fnOf Tryz.f20),some (fnOf Tryz.f21),some (fnOf Tryz.f22),some (fnOf Tryz.f23),some (fnOf Tryz.f24),some (fnOf Tryz.f25),some (fnOf Tryz.f26),some (fnOf Tryz.f27),some (fnOf Tryz.f28),some (fnOf Tryz.f29),some (fnOf Tryz.f30),some (fnOf Tryz.f31)],
 [some (fnOf Tryz.f32),some (fnOf Tryz.f33),some (fnOf Tryz.f34),some (fnOf Tryz.f35),some (fnOf Tryz.f36),some (fnOf Tryz.f37),some (fnOf Tryz.f38),some (fnOf Tryz.f39),some (fnOf Tryz.f40),some (fnOf Tryz.f41),some (fnOf Tryz.f42),some (fnOf Tryz.f43),some (fnOf Tryz.f44),some (fnOf Tryz.f45),some (fnOf Tryz.f46),some (fnOf Tryz.f47)],
 [some (fnOf Tryz.f48),some (fnOf Tryz.f49),some (fnOf Tryz.f50),some (fnOf Tryz.f51),some (fnOf Tryz.f52),some (fnOf Tryz.f53),some (fnOf Tryz.f54),some (fnOf Tryz.f55),some (fnOf Tryz.f56),some (fnOf Tryz.f57),some (fnOf Tryz.f58),some (fnOf Tryz.f59),some (fnOf Tryz.f60),some (fnOf Tryz.f61),some (fnOf Tryz.f62),some (fnOf Tryz.f63)],
 [some (fnOf Tryz.f64),some (fnOf Tryz.f65),some (fnOf Tryz.f66),some (fnOf Tryz.f67),some (fnOf Tryz.f68),some (fnOf Tryz.f69),some (fnOf Tryz.f70),some (fnOf Tryz.f71),some (fnOf Tryz.f72),some (fnOf Tryz.f73),some (fnOf Tryz.f74),some (fnOf Tryz.f75),some (fnOf Tryz.f76),some (fnOf Tryz.f77),some (fnOf Tryz.f78),some (fnOf Tryz.f79)],
 [some (fnOf Tryz.f80),some (fnOf Tryz.f81),some (fnOf Tryz.f82),some (fnOf Tryz.f83),some (fnOf Tryz.f84),some (fnOf Tryz.f85),some (fnOf Tryz.f86),some (fnOf Tryz.f87),some (fnOf Tryz.f88),some (fnOf Tryz.f89),some (fnOf Tryz.f90),some (fnOf Tryz.f91),some (fnOf Tryz.f92),some (fnOf Tryz.f93),some (fnOf Tryz.f94),some (fnOf Tryz.f95)],
 [some (fnOf Tryz.f96),some (fnOf Tryz.f97),some (fnOf Tryz.f98),some (fnOf Tryz.f99),some (fnOf Tryz.f100),some (fnOf Tryz.f101),some (fnOf Tryz.f102),some (fnOf Tryz.f103),some (fnOf Tryz.f104),some (fnOf Tryz.f105),some (fnOf Tryz.f106),some (fnOf Tryz.f107),some (fnOf Tryz.f108),some (fnOf Tryz.f109),some (fnOf Tryz.f110),some (fnOf Tryz.f111)],
 [some (fnOf Tryz.f112),some (fnOf Tryz.f113),some (fnOf Tryz.f114),some (fnOf Tryz.f115),some (fnOf Tryz.f116),some (fnOf Tryz.f117),some (fnOf Tryz.f118),some (fnOf Tryz.f119),some (fnOf Tryz.f120),some (fnOf Tryz.f121),some (fnOf Tryz.f122),some (fnOf Tryz.f123),some (fnOf Tryz.f124),some (fnOf Tryz.f125),some (fnOf Tryz.f126),some (fnOf Tryz.f127)],
 [some (fnOf Tryz.f128),some (fnOf Tryz.f129),some (fnOf Tryz.f130),some (fnOf Tryz.f131),some (fnOf Tryz.f132),some (fnOf Tryz.f133),some (fnOf Tryz.f134),some (fnOf Tryz.f135),some (fnOf Tryz.f136),some (fnOf Tryz.f137),some (fnOf Tryz.f138),some (fnOf Tryz.f139),some (fnOf Tryz.f140),some (fnOf Tryz.f141),some (fnOf Tryz.f142),some (fnOf Tryz.f143)],
 [some (fnOf Tryz.f144),some (fnOf Tryz.f145),some (fnOf Tryz.f146),some (fnOf Tryz.f147),some (fnOf Tryz.f148),some (fnOf Tryz.f149),some (fnOf Tryz.f150),some (fnOf Tryz.f151),none,none,none,none,none,none,none,none]]
noncomputable def fn (f:Nat):Option FnV:=match nth fnRows (f / 16) with
 | some r => match nth r (f % 16) with
  | some d => d
  | none => none
 | none => none
end
section
section
variable {P:Program} {G:GF} {X:Rule} {T:Nat → Option Ty} {F:Nat → Option FnV} {S:Known} {M0:Mem}
def FOK (P : Program) (F : Nat → Option FnV) : Prop := ∀ f v, F f = some v → ∃ g : Func, P.funcs[f]? = some g ∧ g.name ≠ "runtime.NumGoroutine" ∧ g.body = some v.body ∧ g.ntmps = v.ntmps ∧ g.results.toList = v.results
theorem ret_conc {φ:Pl} {l:List V} {us:List Value} (h:concs φ l = some us):(retV l).conc φ = some (if h:us.toArray.size = 1 then us.toArray[0] else .tuple us.toArray):=by
 cases l with
 | nil =>
  simp only [concs,Option.some.injEq] at h; subst h
  simp [retV,V.conc,concs]
 | cons v l =>
  obtain ⟨u,us',h1,h2,rfl⟩:=concs_cons.1 h
  cases l with
  | nil =>
   simp only [concs,Option.some.injEq] at h2; subst h2
   simp [retV,h1]
  | cons v2 l =>
   obtain ⟨u2,us2,h3,h4,rfl⟩:=concs_cons.1 h2
   have hne:¬ ((u :: u2 :: us2).toArray.size = 1):=by simp
   rw [dif_neg hne]
   show (V.tup (v :: v2 :: l)).conc φ = _
   simp only [V.conc,h,Option.map_some]
theorem resCell_sound (hT:∀ (t:TypeId) (d:Ty),T t = some d → d.ok P t) {prot:Pr} {W0 w:World} {φ:Pl} {M:Mem} {t:TypeId} {d:Ty} (hd:T t = some d) (hM:MR G prot W0 φ M w) {p v:V} {q:Value} (hp:p.conc φ = some q) (h:resCell M d p = some v) :
  ∃ u,v.conc φ = some u ∧ (do loadVar t (← asAddr q):Sem Value).run P w = .ok u w:=by
 cases p <;> simp only [resCell] at h <;> try (cases h; done)
 rename_i b o
 simp only [V.conc,Option.map_eq_some_iff] at hp
 obtain ⟨p,hp,rfl⟩:=hp
 split at h
 ·rename_i hrow
  simp only [Option.map_eq_some_iff] at h
  obtain ⟨vs,hr,rfl⟩:=h
  obtain ⟨p',us,hp',h1,h2,h3⟩:=hM.read hr
  obtain rfl:p' = p:=Option.some.inj (hp'.symm.trans hp)
  refine ⟨.agg us.toArray,by simp [V.conc,h1],?_⟩
  simp only [asAddr,Sem.run_bind,Sem.run_pure,Result.andThen_ok]
  exact run_loadVar_rel (hT _ _ hd) hrow h2 h3
 ·rename_i hrow
  simp only [Option.bind_eq_some_iff] at h
  obtain ⟨vs,hr,hv⟩:=h
  obtain ⟨p',us,hp',h1,h2,h3⟩:=hM.read hr
  obtain rfl:p' = p:=Option.some.inj (hp'.symm.trans hp)
  cases vs with
  | nil => cases hv
  | cons y ys =>
   simp only [List.head?_cons,Option.some.injEq] at hv
   subst hv
   obtain ⟨u,us',h4,h5,rfl⟩:=concs_cons.1 h1
   refine ⟨u,h4,?_⟩
   simp only [asAddr,Sem.run_bind,Sem.run_pure,Result.andThen_ok]
   exact run_loadVar_one (hT _ _ hd) (by simpa using hrow) (h3 0 u rfl)
def resF (tmps:Array Value):ResultVar → Sem Value
 | .tmp t => pure (tmps.getD t undef)
 | .cell a t => do loadVar t (← asAddr (tmps.getD a undef))
theorem resV_sound (hT:∀ (t:TypeId) (d:Ty),T t = some d → d.ok P t) {prot:Pr} {W0 w:World} {φ:Pl} {s:KSt} {s':St} {a:Act} (hs:Same s s') (h:SR G prot W0 φ s' a w) :
  ∀ {rs:List ResultVar} {l:List V},resV T s rs = some l → ∃ us,concs φ l = some us ∧ (rs.mapM (resF a.tmps)).run P w = .ok us w
 | [],l,hr => by
  simp only [resV,Option.some.injEq] at hr; subst hr
  exact ⟨[],by simp [concs],by simp⟩
 | .tmp t :: rs,l,hr => by
  simp only [resV,Option.bind_eq_some_iff,Option.map_eq_some_iff] at hr
  obtain ⟨v,hv,vs,hvs,rfl⟩:=hr
  rw [kGet_eq hs] at hv
  obtain ⟨us,h1,h2⟩:=resV_sound hT hs h hvs
  refine ⟨_,concs_cons.2 ⟨_,_,h.get _ _ hv,h1,rfl⟩,?_⟩
  rw [List.mapM_cons]
  simp only [Sem.run_bind,resF,Sem.run_pure,Result.andThen_ok,h2,Act.eval]
 | .cell t u :: rs,l,hr => by
  simp only [resV,Option.bind_eq_some_iff,Option.map_eq_some_iff] at hr
  obtain ⟨p,hp,d,hd,v,hv,vs,hvs,rfl⟩:=hr
  rw [kGet_eq hs] at hp
  rw [hs.M] at hv
  obtain ⟨us,h1,h2⟩:=resV_sound hT hs h hvs
  obtain ⟨x,h3,h4⟩:=resCell_sound hT hd h.mr (h.get _ _ hp) hv
  refine ⟨_,concs_cons.2 ⟨_,_,h3,h1,rfl⟩,?_⟩
  rw [List.mapM_cons]
  have h5:(resF a.tmps (.cell t u)).run P w = .ok x w:=h4
  simp only [Sem.run_bind,h5,Sem.run_pure,Result.andThen_ok,h2]
theorem results_sound (hT:∀ (t:TypeId) (d:Ty),T t = some d → d.ok P t) {prot:Pr} {W0 w:World} {φ:Pl} {s:KSt} {s':St} {a:Act} (hs:Same s s') (h:SR G prot W0 φ s' a w) {fn:Func} {l:List V} (hr:resV T s fn.results.toList = some l) :
  ∃ u,(retV l).conc φ = some u ∧ (results fn a.tmps).run P w = .ok u w:=by
 obtain ⟨us,h1,h2⟩:=resV_sound hT hs h hr
 refine ⟨_,ret_conc h1,?_⟩
 unfold results
 have h3:(fn.results.mapM (resF a.tmps)).run P w = .ok us.toArray w:=by
  rw [Array.mapM_eq_mapM_toList]
  simp only [map_eq_pure_bind,Sem.run_bind,h2,Result.andThen_ok,Sem.run_pure]
 have key:∀ f:ResultVar → Sem Value,(∀ r,f r = resF a.tmps r) → (fn.results.mapM f).run P w = .ok us.toArray w:=fun f hf => by rw [funext hf]; exact h3
 rw [Sem.run_bind,key _ (fun r => by cases r <;> rfl)]
 rfl
theorem start_sr {prot:Pr} {W0 w:World} {φ:Pl} {M:Mem} (hM:MR G prot W0 φ M w) {args:List V} {us:List Value} (ha:concs φ args = some us) (fn:FnV) :
  SR G prot W0 φ ⟨start fn args,[],M⟩ { tmps:=us.toArray ++ Array.replicate (fn.ntmps - us.toArray.size) undef,defers:=[] } w:=by
 have hl:=concs_length ha
 refine ⟨hM,by simp [start,hl],?_,by simp [defsC]⟩
 intro t v ht
 simp only [start] at ht
 by_cases h:t < args.length
 ·rw [List.getElem?_append_left (by simpa using h),List.getElem?_map] at ht
  cases hv:args[t]? with
  | none => rw [hv] at ht; cases ht
  | some v' =>
   rw [hv] at ht
   simp only [Option.map_some,Option.some.injEq] at ht
   subst ht
   obtain ⟨u,h1,h2⟩:=concs_get ha t v' hv
   refine ⟨u,h2,?_⟩
   rw [Array.getElem?_append_left (by simp; omega)]
   simpa using h1
 ·rw [List.getElem?_append_right (by simp; omega),List.getElem?_replicate] at ht
  split at ht
  ·rename_i hlt
   simp only [Option.some.injEq] at ht
   subst ht
   refine ⟨undef,undef_conc φ,?_⟩
   simp only [List.length_map] at hlt
   rw [Array.getElem?_append_right (by simp; omega),Array.getElem?_replicate,if_pos (by simp; omega)]
  ·cases ht
theorem fnK_sound (hT:∀ (t:TypeId) (d:Ty),T t = some d → d.ok P t) {call:Known} (hJ:∀ n,EVOK P G (EV X T call n)) (hF:FOK P F) {f:FuncId} {args:List V} {M M':Mem} {v:V} {ch:List Nat}
  (h:fnK X T call args M (F f) = some (v,M',ch)):ACall P G f args M v M' ∧ GrowL M M' ch:=by
 unfold fnK at h
 split at h
 ·rename_i fv hf
  obtain ⟨g,g1,g2,g3,g4,g5⟩:=hF f fv hf
  split at h
  ·cases h
  ·rename_i hlen
   rw [kSpine_eq,kNat_eq] at h
   unfold retK at h
   split at h
   ·rename_i p hp
    obtain ⟨x,s⟩:=p
    have hg:Good M ⟨chunk 40 (start fv args),[],M,M.length,[]⟩ ⟨start fv args,[],M⟩:=⟨⟨chunk_ch 40 _ (by omega),rfl,rfl⟩,rfl,GrowL.refl M⟩
    obtain ⟨s',h1,h2⟩:=hJ _ M .plain fv.body _ _ _ (by intro b hb; cases hb) hg hp
    have fin:finK T s fv.results = some (v,M',ch) → (x = .normal ∨ x = .ret) → ACall P G f args M v M' ∧ GrowL M M' ch:=by
     intro hfin hx
     unfold finK at hfin
     split at hfin
     ·rename_i hds
      simp only [Option.map_eq_some_iff,Prod.mk.injEq] at hfin
      obtain ⟨l,hl,rfl,rfl,rfl⟩:=hfin
      refine ⟨⟨⟨g,fv.body,g1,g2,g3⟩,?_⟩,by rw [h1.same.M]; exact h1.grow⟩
      intro prot W0 φ w us hM ha
      refine calls_of_wp g1 g3 ?_
      rw [g4]
      refine h2 prot W0 φ _ w _ (start_sr hM ha fv) ?_
      intro φ' a' w' hle hsr
      have hd:a'.defers = []:=by
       have:=hsr.ds
       rw [← h1.same.ds,hds] at this
       simp only [defsC,Option.some.injEq] at this
       exact this.symm
      rw [← g5] at hl
      obtain ⟨u,hu1,hu2⟩:=results_sound hT h1.same hsr hl
      have post:a'.defers = [] ∧ ∃ v',(results g a'.tmps).run P w' = .ok v' w' ∧ Back G prot W0 φ (retV l) s.M (.returned v') w' :=
       ⟨hd,u,hu2,φ',hle,hu1,by rw [h1.same.M]; exact hsr.mr⟩
      rcases hx with rfl | rfl
      ·exact post
      ·exact post
     ·cases hfin
    simp only at h
    split at h
    ·exact fin h (.inl rfl)
    ·exact fin h (.inr rfl)
    ·cases h
   ·cases h
 ·cases h
theorem FN_sound (hG:GOK G) (hX:RuleOK G X) (hT:∀ (t:TypeId) (d:Ty),T t = some d → d.ok P t) (hF:FOK P F) (hS:CallOK P G S) (hD:∀ call,CallOK P G call → DrOK P G X T call):∀ m,CallOK P G (FN X T F S m)
 | 0 => fun _ _ _ _ _ _ h => by cases h
 | m + 1 => by
  have ih:=FN_sound hG hX hT hF hS hD m
  intro f args M v M' ch h
  have h:knownK X T F (FN X T F S m) f args M (S f args M) = some (v,M',ch):=h
  unfold knownK at h
  split at h
  ·rename_i r hr
   injection h with h; subst h
   exact hS f args M v M' ch hr
  ·exact fnK_sound hT (fun n => EV_sound hG hX hT ih (hD _ ih) n) hF h
end
end
section
theorem foldl_bit {ms:List Nat} {j:Nat}:∀ {l:List Nat} {m:Nat},(l.foldl (orM ms) m).testBit j = true → m.testBit j = true ∨ ∃ p ∈ l,p = j ∨ ((nth ms p).getD 0).testBit j = true
 | [],m,h => .inl h
 | p :: l,m,h => by
  rcases foldl_bit (l:=l) h with h1 | ⟨q,hq,h2⟩
  ·simp only [orM,Nat.testBit_or,Bool.or_eq_true,Nat.testBit_two_pow,decide_eq_true_eq] at h1
   rcases h1 with (h1 | h1) | h1
   ·exact .inl h1
   ·exact .inr ⟨p,List.mem_cons_self ..,.inl h1⟩
   ·exact .inr ⟨p,List.mem_cons_self ..,.inr h1⟩
  ·exact .inr ⟨q,List.mem_cons_of_mem _ hq,h2⟩
theorem masks_len (ops:Array Oper):∀ n,(masks ops n).length = n
 | 0 => rfl
 | n + 1 => by
  show (masks ops n ++ [maskStep ops (masks ops n) n]).length = n + 1
  rw [List.length_append,masks_len ops n]; rfl
theorem masks_sound (ops:Array Oper):∀ n,∀ i j,bf (masks ops n) j i = true → Anc ops j i
 | 0,i,j,h => by
  have h0:nth (masks ops 0) i = none:=rfl
  unfold bf at h
  rw [h0] at h
  simp at h
 | n + 1,i,j,h => by
  have e:masks ops (n + 1) = masks ops n ++ [maskStep ops (masks ops n) n]:=rfl
  unfold bf at h
  rw [nth_eq,e] at h
  by_cases hlt:i < n
  ·rw [List.getElem?_append_left (by rw [masks_len]; exact hlt)] at h
   exact masks_sound ops n i j (by unfold bf; rw [nth_eq]; exact h)
  ·by_cases hi:i = n
   ·subst hi
    rw [List.getElem?_append_right (by rw [masks_len]; omega),masks_len,Nat.sub_self] at h
    simp only [List.getElem?_cons_zero,Option.getD_some,maskStep] at h
    rcases foldl_bit h with h1 | ⟨p,hp,h1 | h1⟩
    ·simp at h1
    ·subst h1; exact fun l _ hon => hon p hp
    ·exact fun l hc hon => masks_sound ops i p j h1 l hc (hc.down p (hon p hp))
   ·rw [List.getElem?_eq_none_iff.2 (by rw [List.length_append,masks_len]; simp; omega)] at h
    simp at h
noncomputable def St.mask (bad:List Nat) (s:St):St:={ s with ts:=s.ts.mapIdx fun t v => if memN bad t = true then none else v }
theorem mask_ts (bad:List Nat) (s:St) (t:Nat):(s.mask bad).ts[t]? = (s.ts[t]?).map fun v => if memN bad t = true then none else v:=by
 simp only [St.mask,List.getElem?_mapIdx]
theorem mGet_eq {s:KSt} {s':St} (h:Same s s') (bad:List Nat):mGet bad s = (s'.mask bad).get:=by
 funext x
 cases x with
 | tmp t =>
  simp only [mGet,St.get,mask_ts,mTmp,kTmp_eq h]
  cases memN bad t <;> cases s'.ts[t]? <;> rfl
 | _ => rfl
theorem mWants_eq {s:KSt} {s':St} (h:Same s s') (bad:List Nat) (ops:Array Oper) (o:Oper):mWants bad ops s o = wants ops (s'.mask bad) o:=by
 unfold mWants wants
 cases o.guard with
 | none => rfl
 | some p =>
  have:mGave bad ops s p.1 = gave ops (s'.mask bad) p.1:=by
   unfold mGave gave
   cases ops[p.1]? with
   | none => rfl
   | some q =>
    simp only
    cases q.dst with
    | none => rfl
    | some d =>
     simp only [mask_ts,mTmp,kTmp_eq h]
     cases memN bad d with
     | true => cases s'.ts[d]? <;> rfl
     | false =>
      cases s'.ts[d]? with
      | none => rfl
      | some v => rfl
  simp only [this]
theorem blt_iff {a b:Nat}:Nat.blt a b = true ↔ a < b:=by simp [Nat.blt_eq]
theorem ktch_iff {a:KEnt} {b:Nat}:a.tch b = true ↔ (b < a.L ∧ b ∈ a.T) ∨ (a.L ≤ b ∧ b < a.L'):=by
 simp only [KEnt.tch,Bool.or_eq_true,Bool.and_eq_true,blt_iff,memN_iff,Nat.ble_eq]
theorem names_iff {a:KEnt} {b:Nat}:b ∈ a.names ↔ a.tch b = true:=by
 rw [ktch_iff]
 simp only [KEnt.names,List.mem_append,List.mem_filter,blt_iff,List.mem_range'_1]
 constructor
 ·rintro (⟨h1,h2⟩ | ⟨h1,h2⟩)
  ·exact .inl ⟨h2,h1⟩
  ·exact .inr ⟨h1,by omega⟩
 ·rintro (⟨h1,h2⟩ | ⟨h1,h2⟩)
  ·exact .inl ⟨h2,h1⟩
  ·exact .inr ⟨h1,by omega⟩
theorem tch_iff {e:Ent} {b:Nat}:e.tch b = true ↔ (b < e.K.M.length ∧ b ∈ e.T) ∨ (e.K.M.length ≤ b ∧ b < e.R.length):=by
 simp only [Ent.tch,Bool.or_eq_true,Bool.and_eq_true,decide_eq_true_eq,List.contains_iff_mem]
theorem tch_false {e:Ent} {b:Nat} (h:¬ e.tch b = true):e.tch b = false:=by simpa using h
section
variable {P:Program} {G:GF} {X:Rule} {T:Nat → Option Ty} {M0:Mem} {ops:Array Oper} {ms:List Nat}
structure DI (P:Program) (G:GF) (ops:Array Oper) (ms:List Nat) (M0:Mem) (i:Nat) (e:Nat → Ent) (st:Nat → St) (acc:List KEnt) (s:KSt):Prop where
 good:Good M0 s (st i)
 len:acc.length = i
 ok:∀ j,j < i → StepOK P G ops (bf ms) e st j
 ent:∀ j,j < i → ∃ a,acc[j]? = some a ∧ a.L = (e j).K.M.length ∧ a.L' = (e j).R.length ∧ a.T = (e j).T ∧ (a.kd = true → ∀ (b:Nat) (k:Blk),(e j).K.M[b]? = some k → k = .dead) ∧ (∀ b ∈ a.Kl,∀ k,(e j).K.M[b]? = some k → k = .dead)
theorem DI.mono {i:Nat} {e:Nat → Ent} {st:Nat → St} {acc:List KEnt} {s:KSt} (h:DI P G ops ms M0 i e st acc s) {j:Nat} (hj:j < i):(e j).R.length ≤ (st i).M.length:=by
 have key:∀ n,j + 1 + n ≤ i → (e j).R.length ≤ (st (j + 1 + n)).M.length:=by
  intro n
  induction n with
  | zero => intro _; rw [Nat.add_zero,(h.ok j hj).len']; exact Nat.le_refl _
  | succ n ih =>
   intro hn
   have:=h.ok (j + 1 + n) (by omega)
   rw [← Nat.add_assoc,this.len']
   have h2:=this.le
   rw [this.len] at h2
   exact Nat.le_trans (ih (by omega)) h2
 have:=key (i - (j + 1)) (by omega)
 rwa [show j + 1 + (i - (j + 1)) = i by omega] at this
theorem DI.tch {i:Nat} {e:Nat → Ent} {st:Nat → St} {acc:List KEnt} {s:KSt} (h:DI P G ops ms M0 i e st acc s) {j:Nat} (hj:j < i) {a:KEnt} (ha:acc[j]? = some a) (b:Nat):a.tch b = (e j).tch b:=by
 obtain ⟨a',h1,h2,h3,h4,_⟩:=h.ent j hj
 rw [ha] at h1; injection h1 with h1; subst h1
 rw [Bool.eq_iff_iff,ktch_iff,tch_iff,h2,h3,h4]
theorem DI.next {i:Nat} {e e':Nat → Ent} {st st':Nat → St} {acc:List KEnt} {s:KSt} (h:DI P G ops ms M0 i e st acc s) (a:KEnt) {s1:KSt} (he:∀ j,j < i → e' j = e j) (hst:∀ j,j ≤ i → st' j = st j) (hg:Good M0 s1 (st' (i + 1)))
  (ha:a.L = (e' i).K.M.length ∧ a.L' = (e' i).R.length ∧ a.T = (e' i).T ∧ (a.kd = true → ∀ (b:Nat) (k:Blk),(e' i).K.M[b]? = some k → k = .dead) ∧ (∀ b ∈ a.Kl,∀ k,(e' i).K.M[b]? = some k → k = .dead))
  (hs:StepOK P G ops (bf ms) e' st' i):DI P G ops ms M0 (i + 1) e' st' (acc ++ [a]) s1:=by
 refine ⟨hg,by simp [h.len],?_,?_⟩
 ·intro j hj
  by_cases hji:j = i
  ·subst hji; exact hs
  ·have hlt:j < i:=by omega
   have ho:=h.ok j hlt
   have e1:=he j hlt
   have e2:=hst j (by omega)
   have e3:=hst (j + 1) (by omega)
   obtain ⟨o1,o2,o3,o4,o5,o6,o7,o8,o9,o10,o11,o12⟩:=ho
   refine ⟨?_,?_,?_,?_,?_,?_,?_,?_,?_,?_,?_,?_⟩
   ·rw [e1,e2,e3]; exact o1
   ·rw [e1,e2]; exact o2
   ·rw [e1,e2]; exact o3
   ·rw [e1,e2]; exact o4
   ·rw [e1,e2]; exact o5
   ·rw [e1,e3]; exact o6
   ·rw [e1]; exact o7
   ·rw [e1]; exact o8
   ·rw [e1,e2]
    intro b k hb
    rcases o9 b k hb with h1 | ⟨h1,h2⟩
    ·exact .inl h1
    ·exact .inr ⟨h1,fun l hl hA => by rw [he l (by omega)]; exact h2 l hl hA⟩
   ·rw [e1,e2,e3]; exact o10
   ·rw [e1]
    intro l hl hA b hb
    rw [he l (by omega)]; exact o11 l hl hA b hb
   ·rw [e1]; exact o12
 ·intro j hj
  by_cases hji:j = i
  ·subst hji
   exact ⟨a,by rw [List.getElem?_append_right (by rw [h.len]; exact Nat.le_refl _),h.len]; simp,ha⟩
  ·obtain ⟨a',h1,h2⟩:=h.ent j (by omega)
   refine ⟨a',by rw [List.getElem?_append_left (by rw [h.len]; omega)]; exact h1,?_⟩
   rw [he j (by omega)]; exact h2
end
end
section
section
variable {P:Program} {G:GF} {X:Rule} {T:Nat → Option Ty} {M0:Mem} {ops:Array Oper} {ms:List Nat}
theorem badT_mem {i j:Nat} {oj:Oper} {t:Nat} (hne:j ≠ i) (ho:ops[j]? = some oj) (hd:oj.dst = some t) (hb:(if j < i then bf ms j i = true else bf ms i j = true) → False):t ∈ badT ops ms i:=by
 have hlt:j < ops.size:=(Array.getElem?_eq_some_iff.1 ho).1
 unfold badT
 rw [List.mem_filterMap]
 refine ⟨j,List.mem_range.2 hlt,?_⟩
 rw [if_neg hne]
 have hc:(Bool.casesOn (Nat.blt j i) (bf ms i j) (bf ms j i):Bool) = false:=by
  by_cases e:j < i
  ·rw [if_pos e] at hb
   rw [blt_iff.2 e]
   cases hx:bf ms j i with
   | false => rfl
   | true => exact (hb hx).elim
  ·rw [if_neg e] at hb
   have:Nat.blt j i = false:=by rw [Bool.eq_false_iff]; intro h; exact e (blt_iff.1 h)
   rw [this]
   cases hx:bf ms i j with
   | false => rfl
   | true => exact (hb hx).elim
 rw [hc]
 simp [ho,hd]
theorem incE_mem {i j:Nat}:j ∈ incE ms i ↔ j < i ∧ bf ms j i = false:=by
 simp [incE,List.mem_filter]
noncomputable def seen (ops:Array Oper) (ms:List Nat) (i:Nat) (s:St) (KM:Mem):St:={ s.mask (badT ops ms i) with M:=KM }
theorem seen_mask {i:Nat} {s:St} {KM:Mem} {t:Nat} {v:V} (h:(seen ops ms i s KM).ts[t]? = some (some v)):s.ts[t]? = some (some v) ∧ ∀ j oj,j ≠ i → ops[j]? = some oj → oj.dst = some t → if j < i then bf ms j i = true else bf ms i j = true:=by
 have h:(s.mask (badT ops ms i)).ts[t]? = some (some v):=h
 rw [mask_ts] at h
 simp only [Option.map_eq_some_iff] at h
 obtain ⟨x,h1,h2⟩:=h
 split at h2
 ·cases h2
 ·rename_i hm
  subst h2
  refine ⟨h1,fun j oj hne ho hd => ?_⟩
  apply Classical.byContradiction
  intro hc
  exact hm (memN_iff.2 (badT_mem hne ho hd hc))
theorem seen_len {i:Nat} {s:St} {KM:Mem}:(seen ops ms i s KM).ts.length = s.ts.length:=by simp [seen,St.mask]
theorem dOld_sound {i:Nat} {e:Nat → Ent} {st:Nat → St} {acc:List KEnt} {s:KSt} (h:DI P G ops ms M0 i e st acc s) {o:Oper} (ho:ops[i]? = some o) {KM:Mem} {v:V}
  (hop:AOpV P G ops i (seen ops ms i (st i) KM) o.dst v KM) (hlen:KM.length = (st i).M.length) (hkm:∀ (b:Nat) (k:Blk),KM[b]? = some k → k = .dead ∨ ((st i).M[b]? = some k ∧ ∀ j,j < i → bf ms j i = false → (e j).tch b = false))
  {kd:Bool} {Kl:List Nat} (hkd:kd = true → ∀ (b:Nat) (k:Blk),KM[b]? = some k → k = .dead) (hKl:∀ b ∈ Kl,∀ k,KM[b]? = some k → k = .dead) {k:KSt → List KEnt → Option KSt} {r:KSt} (hr:dOld s o.dst acc kd Kl v k = some r) :
  ∃ e' st' acc' s1,DI P G ops ms M0 (i + 1) e' st' acc' s1 ∧ st' 0 = st 0 ∧ k s1 acc' = some r:=by
 have hr:kPut0 s o.dst v (fun s1 => kSpine (acc ++ [⟨s.M.length,s.M.length,[],kd,Kl⟩]) fun acc => k s1 acc) = some r:=by
  obtain ⟨rs,ds,Ms,base,ch0⟩:=s
  exact hr
 obtain ⟨s1,hg,hk⟩:=h.good.put0 hr
 rw [kSpine_eq] at hk
 let E:Ent:=⟨seen ops ms i (st i) KM,KM,v,[]⟩
 refine ⟨fun j => if j = i then E else e j,fun j => if j = i + 1 then (st i).put o.dst v (st i).M else st j,_,s1,h.next _ (fun j hj => if_neg (by omega)) (fun j hj => if_neg (by omega)) ?_ ?_ ?_,if_neg (by omega),hk⟩
 ·simp only [if_true]; exact hg
 ·simp only [if_true]
  refine ⟨?_,?_,rfl,hkd,hKl⟩
  ·show s.M.length = KM.length
   rw [h.good.same.M,hlen]
  ·show s.M.length = KM.length
   rw [h.good.same.M,hlen]
 ·have e0:(fun j => if j = i + 1 then (st i).put o.dst v (st i).M else st j) i = st i:=if_neg (by omega)
  have e1:(fun j => if j = i + 1 then (st i).put o.dst v (st i).M else st j) (i + 1) = (st i).put o.dst v (st i).M:=if_pos rfl
  have eE:(fun j => if j = i then E else e j) i = E:=if_pos rfl
  have ej:∀ j,j < i → (fun j => if j = i then E else e j) j = e j:=fun j hj => if_neg (by omega)
  generalize hst':(fun j => if j = i + 1 then (st i).put o.dst v (st i).M else st j) = st' at e0 e1 ⊢
  generalize he':(fun j => if j = i then E else e j) = e' at eE ej ⊢
  have nt:∀ b,(e' i).tch b = false:=by
   intro b
   rw [eE]
   apply tch_false
   rw [tch_iff]
   rintro (⟨_,h2⟩ | ⟨h2,h3⟩)
   ·cases h2
   ·have h2:KM.length ≤ b:=h2
    have h3:b < KM.length:=h3
    omega
  refine ⟨⟨o,ho,?_,?_⟩,?_,?_,?_,?_,?_,?_,?_,?_,?_,?_,?_⟩
  ·rw [eE]; exact hop
  ·rw [e0,e1,eE,put_M]
  ·rw [e0,eE]; intro t v hv; exact seen_mask hv
  ·rw [e0,eE]; exact seen_len
  ·rw [e0,eE]; rfl
  ·rw [e0,eE]; exact hlen
  ·rw [e1,eE,put_M]; exact hlen.symm
  ·rw [eE]; exact Nat.le_refl _
  ·rw [eE]; intro b _ _; rfl
  ·rw [e0,eE]
   intro b k hb
   rcases hkm b k hb with h1 | ⟨h1,h2⟩
   ·exact .inl h1
   ·exact .inr ⟨h1,fun j hj hA => by rw [ej j hj]; exact h2 j hj hA⟩
  ·rw [e0,e1,put_M]
   intro b _
   rw [nt b]; rfl
  ·intro j hj hA b hb
   rw [nt b] at hb; cases hb
  ·intro b cs _; exact nt b
theorem post_iff {acc:List KEnt} {inc L:List Nat} (h:postOK acc inc L = true) {b j:Nat} (hb:b ∈ L) (hj:j ∈ inc):∃ a,acc[j]? = some a ∧ a.tch b = false ∧ (a.L ≤ b ∨ a.kd = true ∨ b ∈ a.Kl):=by
 simp only [postOK,List.all_eq_true] at h
 have:=h b hb j hj
 rw [nth_eq] at this
 split at this
 ·rename_i a ha
  simp only [Bool.and_eq_true,Bool.not_eq_true',Bool.or_eq_true,Nat.ble_eq,memN_iff] at this
  refine ⟨a,ha,this.1,?_⟩
  rcases this.2 with (h1 | h1) | h1
  ·exact .inl h1
  ·exact .inr (.inl h1)
  ·exact .inr (.inr h1)
 ·cases this
theorem dNew_sound {i:Nat} {e:Nat → Ent} {st:Nat → St} {acc:List KEnt} {s:KSt} (h:DI P G ops ms M0 i e st acc s) {o:Oper} (ho:ops[i]? = some o) {Kl:List Nat} (hKl:Kl = (incE ms i).flatMap fun j => ((nth acc j).getD default).names) {v:V} {R:Mem} {L:List Nat}
  (hop:AOpV P G ops i (seen ops ms i (st i) (restore [] Kl (st i).M)) o.dst v R) (hgr:GrowL (restore [] Kl (st i).M) R L) {k:KSt → List KEnt → Option KSt} {r:KSt} (hr:dNew s o.dst acc (incE ms i) Kl v R L k = some r) :
  ∃ e' st' acc' s1,DI P G ops ms M0 (i + 1) e' st' acc' s1 ∧ st' 0 = st 0 ∧ k s1 acc' = some r:=by
 have hsM:=h.good.same.M
 unfold dNew at hr
 rw [kNats_eq] at hr
 simp only [lenK_eq,kNat_eq,restK_eq] at hr
 have hpost:postOK acc (incE ms i) L = true:=by
  cases hp:postOK acc (incE ms i) L with
  | true => rfl
  | false => rw [hp] at hr; simp at hr
 rw [hpost] at hr
 have hble:Nat.ble s.M.length R.length = true:=by
  cases hp:Nat.ble s.M.length R.length with
  | true => rfl
  | false => rw [hp] at hr; simp at hr
 rw [hble] at hr
 simp only [Bool.and_self,kV_eq,kSpine_eq,kForce_eq,kNew_eq,kNats_eq] at hr
 generalize hKM:restore [] Kl (st i).M = KM at hop hgr
 have hKMl:KM.length = (st i).M.length:=by rw [← hKM,restore_len]
 have killed:∀ b,b ∈ Kl → ∃ j,j < i ∧ bf ms j i = false ∧ (e j).tch b = true:=by
  intro b hb
  rw [hKl,List.mem_flatMap] at hb
  obtain ⟨j,hj,hb⟩:=hb
  obtain ⟨hj1,hj2⟩:=incE_mem.1 hj
  obtain ⟨a,ha,_⟩:=h.ent j hj1
  rw [nth_eq,ha,Option.getD_some,names_iff,h.tch hj1 ha] at hb
  exact ⟨j,hj1,hj2,hb⟩
 have killed':∀ b j,j < i → bf ms j i = false → (e j).tch b = true → b ∈ Kl:=by
  intro b j hj hA hb
  rw [hKl,List.mem_flatMap]
  obtain ⟨a,ha,_⟩:=h.ent j hj
  exact ⟨j,incE_mem.2 ⟨hj,hA⟩,by rw [nth_eq,ha,Option.getD_some,names_iff,h.tch hj ha]; exact hb⟩
 have tchlt:∀ b j,j < i → (e j).tch b = true → b < (st i).M.length:=by
  intro b j hj hb
  have h1:=h.mono hj
  have h2:=(h.ok j hj).le
  rw [tch_iff] at hb
  rcases hb with ⟨h3,_⟩ | ⟨_,h3⟩ <;> omega
 have killedlt:∀ b,b ∈ Kl → b < (st i).M.length:=fun b hb => by
  obtain ⟨j,h1,_,h3⟩:=killed b hb
  exact tchlt b j h1 h3
 have KMget:∀ b,KM[b]? = if b ∈ Kl then some .dead else (st i).M[b]?:=by
  intro b
  rw [← hKM,restore_get]
  by_cases e1:b ∈ Kl
  ·rw [if_pos ⟨e1,killedlt b e1⟩,if_pos e1]; rfl
  ·rw [if_neg (fun h => e1 h.1),if_neg e1]
 have Lnot:∀ b,b ∈ L → b ∉ Kl:=by
  intro b hb hk
  obtain ⟨j,h1,h2,h3⟩:=killed b hk
  obtain ⟨a,ha,h4,_⟩:=post_iff hpost hb (incE_mem.2 ⟨h1,h2⟩)
  rw [h.tch h1 ha,h3] at h4; cases h4
 let E:Ent:=⟨seen ops ms i (st i) KM,R,v,L⟩
 have Etch:∀ b,E.tch b = true ↔ (b < (st i).M.length ∧ b ∈ L) ∨ ((st i).M.length ≤ b ∧ b < R.length):=by
  intro b
  rw [tch_iff]
  show (b < KM.length ∧ _) ∨ (KM.length ≤ b ∧ _) ↔ _
  rw [hKMl]
 have hRle:(st i).M.length ≤ R.length:=by rw [← hKMl]; exact hgr.le
 have same:∀ b,b < KM.length → E.tch b = false → R[b]? = KM[b]?:=by
  intro b hb ht
  apply Classical.byContradiction
  intro hne
  have:=(Etch b).2 (.inl ⟨by omega,hgr.same b hb hne⟩)
  rw [ht] at this; cases this
 have noro:∀ (b:Nat) (cs:List V),R[b]? = some (.ro cs) → E.tch b = false:=by
  intro b cs hb
  apply tch_false
  intro ht
  have h1:=hgr.ro b cs hb
  have hlt:b < KM.length:=(List.getElem?_eq_some_iff.1 h1).1
  rcases (Etch b).1 ht with ⟨_,h2⟩ | ⟨h2,_⟩
  ·exact hgr.own b h2 cs h1
  ·omega
 have newM:∀ b,b < R.length → (restore (st i).M Kl R)[b]? = if E.tch b = true then R[b]? else (st i).M[b]?:=by
  intro b hb
  rw [restore_get]
  by_cases e1:b ∈ Kl
  ·have hlt:=killedlt b e1
   have ht:¬ E.tch b = true:=by
    intro ht
    rcases (Etch b).1 ht with ⟨_,h2⟩ | ⟨h2,_⟩
    ·exact Lnot b h2 e1
    ·omega
   rw [if_pos ⟨e1,hb⟩,if_neg ht,List.getElem?_eq_getElem hlt]; rfl
  ·rw [if_neg (fun h => e1 h.1)]
   by_cases ht:E.tch b = true
   ·rw [if_pos ht]
   ·have hlt:b < (st i).M.length:=by
     by_cases e2:b < (st i).M.length
     ·exact e2
     ·exact absurd ((Etch b).2 (.inr ⟨by omega,hb⟩)) ht
    rw [if_neg ht,same b (by omega) (tch_false ht),KMget b,if_neg e1]
 have newlen:(restore (st i).M Kl R).length = R.length:=restore_len _ _ _
 have hgrow:GrowL (st i).M (restore (st i).M Kl R) L:=by
  refine ⟨by rw [newlen]; exact hRle,?_,?_,?_,?_⟩
  ·intro b hb hne
   rw [newM b (by omega)] at hne
   split at hne
   ·rename_i ht
    rcases (Etch b).1 ht with ⟨_,h2⟩ | ⟨h2,_⟩
    ·exact h2
    ·omega
   ·exact absurd rfl hne
  ·intro b cs hb
   have hlt:b < R.length:=by rw [← newlen]; exact (List.getElem?_eq_some_iff.1 hb).1
   rw [newM b hlt] at hb
   split at hb
   ·rename_i ht
    have:=noro b cs hb; rw [this] at ht; cases ht
   ·exact hb
  ·intro b cs hb
   have hlt:b < (st i).M.length:=(List.getElem?_eq_some_iff.1 hb).1
   rw [newM b (by omega)]
   split
   ·rename_i ht
    exfalso
    rcases (Etch b).1 ht with ⟨_,h2⟩ | ⟨h2,_⟩
    ·exact hgr.own b h2 cs (by rw [KMget b,if_neg (Lnot b h2)]; exact hb)
    ·omega
   ·exact hb
  ·intro b hb cs he
   exact hgr.own b hb cs (by rw [KMget b,if_neg (Lnot b hb)]; exact he)
 rw [hsM] at hr
 obtain ⟨s1,g1,g2,g3,hk⟩:=kDst_eq h.good.same hr
 have hg:Good M0 s1 ((st i).put o.dst v (restore (st i).M Kl R)):=⟨g1,g2.trans h.good.base,by rw [g3,put_M,h.good.base]; exact h.good.grow.trans hgrow⟩
 refine ⟨fun j => if j = i then E else e j,fun j => if j = i + 1 then (st i).put o.dst v (restore (st i).M Kl R) else st j,_,s1,h.next _ (fun j hj => if_neg (by omega)) (fun j hj => if_neg (by omega)) ?_ ?_ ?_,if_neg (by omega),hk⟩
 ·simp only [if_true]; exact hg
 ·simp only [if_true]
  refine ⟨hKMl.symm,rfl,rfl,fun hf => (by cases hf),?_⟩
  intro b hb k hk'
  have hk':KM[b]? = some k:=hk'
  rw [KMget b,if_pos hb] at hk'
  injection hk' with hk'; exact hk'.symm
 ·have e0:(fun j => if j = i + 1 then (st i).put o.dst v (restore (st i).M Kl R) else st j) i = st i:=if_neg (by omega)
  have e1:(fun j => if j = i + 1 then (st i).put o.dst v (restore (st i).M Kl R) else st j) (i + 1) = (st i).put o.dst v (restore (st i).M Kl R):=if_pos rfl
  have eE:(fun j => if j = i then E else e j) i = E:=if_pos rfl
  have ej:∀ j,j < i → (fun j => if j = i then E else e j) j = e j:=fun j hj => if_neg (by omega)
  generalize hst':(fun j => if j = i + 1 then (st i).put o.dst v (restore (st i).M Kl R) else st j) = st' at e0 e1 ⊢
  generalize he':(fun j => if j = i then E else e j) = e' at eE ej ⊢
  refine ⟨⟨o,ho,?_,?_⟩,?_,?_,?_,?_,?_,?_,?_,?_,?_,?_,?_⟩
  ·rw [eE]; exact hop
  ·rw [e0,e1,eE,put_M]
  ·rw [e0,eE]; intro t v hv; exact seen_mask hv
  ·rw [e0,eE]; exact seen_len
  ·rw [e0,eE]; rfl
  ·rw [e0,eE]; exact hKMl
  ·rw [e1,eE,put_M]; exact newlen
  ·rw [eE]; exact hgr.le
  ·rw [eE]; exact same
  ·rw [e0,eE]
   intro b k hb
   have hb:KM[b]? = some k:=hb
   rw [KMget b] at hb
   by_cases e2:b ∈ Kl
   ·rw [if_pos e2] at hb; injection hb with hb; exact .inl hb.symm
   ·rw [if_neg e2] at hb
    refine .inr ⟨hb,fun j hj hA => ?_⟩
    rw [ej j hj]
    apply tch_false
    intro ht
    exact e2 (killed' b j hj hA ht)
  ·rw [e0,e1,put_M,eE]; exact newM
  ·intro j hj hA b hb
   rw [eE] at hb
   rw [ej j hj]
   rcases (Etch b).1 hb with ⟨_,h2⟩ | ⟨h2,_⟩
   ·obtain ⟨a,ha,h4,h5⟩:=post_iff hpost h2 (incE_mem.2 ⟨hj,hA⟩)
    rw [h.tch hj ha] at h4
    refine ⟨h4,fun k hk' => ?_⟩
    obtain ⟨a',b1,b2,_,_,b5,b6⟩:=h.ent j hj
    rw [ha] at b1; injection b1 with b1; subst b1
    rcases h5 with h5 | h5 | h5
    ·have:=(List.getElem?_eq_some_iff.1 hk').1
     omega
    ·exact b5 h5 b k hk'
    ·exact b6 b h5 k hk'
   ·refine ⟨?_,fun k hk' => ?_⟩
    ·apply tch_false
     intro ht
     have:=tchlt b j hj ht
     omega
    ·have h1:=(List.getElem?_eq_some_iff.1 hk').1
     have h3:=h.mono hj
     have h4:=(h.ok j hj).le
     omega
  ·rw [eE]; exact noro
theorem dead_get (n b:Nat) (k:Blk) (h:(List.replicate n Blk.dead)[b]? = some k):k = .dead:=by
 rw [List.getElem?_replicate] at h
 split at h
 ·injection h with h; exact h.symm
 ·cases h
theorem dOp_sound (hG:GOK G) (hX:RuleOK G X) (hT:∀ (t:TypeId) (d:Ty),T t = some d → d.ok P t) {call:Known} (hC:CallOK P G call) {i:Nat} {e:Nat → Ent} {st:Nat → St} {acc:List KEnt} {s:KSt} (h:DI P G ops ms M0 i e st acc s) {o:Oper} (ho:ops[i]? = some o)
  {k:KSt → List KEnt → Option KSt} {r:KSt} (hr:dOp X T call ops ms i o s acc k = some r):∃ e' st' acc' s1,DI P G ops ms M0 (i + 1) e' st' acc' s1 ∧ st' 0 = st 0 ∧ k s1 acc' = some r:=by
 unfold dOp at hr
 rw [kNats_eq,mWants_eq h.good.same,mGet_eq h.good.same] at hr
 have hw0:∀ KM,wants ops (seen ops ms i (st i) KM) o = wants ops ((st i).mask (badT ops ms i)) o:=fun _ => rfl
 have hg0:∀ KM,(seen ops ms i (st i) KM).get = ((st i).mask (badT ops ms i)).get:=fun _ => by funext x; cases x <;> rfl
 have hdl:(List.replicate (st i).M.length Blk.dead).length = (st i).M.length:=by simp
 split at hr
 ·cases hr
 ·rename_i b hw
  cases b with
  | false =>
   refine dOld_sound h ho (KM:=List.replicate (st i).M.length .dead) (v:=undefV) ?_ hdl (fun b k hb => .inl (dead_get _ b k hb)) (fun _ b k hb => dead_get _ b k hb) (fun b hb => by cases hb) hr
   exact AOpV.idle ho ((hw0 _).trans hw)
  | true =>
   simp only at hr
   cases hm:isMove o.op with
   | true =>
    rw [hm] at hr
    simp only at hr
    split at hr
    ·rename_i v hs
     have hany:∀ KM,astep X T (seen ops ms i (st i) KM).get KM o.op = some (.pure v):=by
      intro KM
      rw [hg0]
      cases hop:o.op <;> rw [hop] at hm hs <;> simp only [isMove] at hm <;> first | (cases hm; done) | exact hs
     refine dOld_sound h ho (KM:=List.replicate (st i).M.length .dead) (v:=v) ?_ hdl (fun b k hb => .inl (dead_get _ b k hb)) (fun _ b k hb => dead_get _ b k hb) (fun b hb => by cases hb) hr
     exact AOpV.step hG hX hT ho ((hw0 _).trans hw) (hany _) ⟨rfl,rfl⟩
    ·cases hr
   | false =>
    rw [hm] at hr
    simp only [kNats_eq] at hr
    unfold dRun at hr
    rw [kRest_eq,h.good.same.M] at hr
    generalize hKl:((incE ms i).flatMap fun j => ((nth acc j).getD default).names) = Kl at hr
    have hKMl:(restore [] Kl (st i).M).length = (st i).M.length:=restore_len _ _ _
    have kget:∀ b,b ∈ Kl → ∀ k,(restore [] Kl (st i).M)[b]? = some k → k = .dead:=by
     intro b hb k hk
     rw [restore_get] at hk
     split at hk
     ·simp only [List.getElem?_nil,Option.getD_none] at hk
      injection hk with hk; exact hk.symm
     ·rename_i hn
      have:=(List.getElem?_eq_some_iff.1 hk).1
      exact absurd ⟨hb,this⟩ hn
    have kkm:∀ (b:Nat) (k:Blk),(restore [] Kl (st i).M)[b]? = some k → k = .dead ∨ ((st i).M[b]? = some k ∧ ∀ j,j < i → bf ms j i = false → (e j).tch b = false):=by
     intro b k hk
     by_cases hb:b ∈ Kl
     ·exact .inl (kget b hb k hk)
     ·rw [restore_get,if_neg (fun h => hb h.1)] at hk
      refine .inr ⟨hk,fun j hj hA => ?_⟩
      apply tch_false
      intro ht
      apply hb
      obtain ⟨a,ha,_⟩:=h.ent j hj
      rw [← hKl,List.mem_flatMap]
      exact ⟨j,incE_mem.2 ⟨hj,hA⟩,by rw [nth_eq,ha,Option.getD_some,names_iff,h.tch hj ha]; exact ht⟩
    rw [← hg0 (restore [] Kl (st i).M)] at hr
    have hw1:=(hw0 (restore [] Kl (st i).M)).trans hw
    split at hr
    ·rename_i r' hs
     have hgr:=astep_grow hs
     split at hr
     ·rename_i v
      refine dOld_sound h ho (KM:=restore [] Kl (st i).M) (v:=v) ?_ hKMl kkm (fun hf => by cases hf) kget hr
      exact AOpV.step hG hX hT ho hw1 hs ⟨rfl,rfl⟩
     ·rename_i v R
      exact dNew_sound h ho hKl.symm (AOpV.step hG hX hT ho hw1 hs ⟨rfl,rfl⟩) (Grow.toL hgr) hr
     ·rename_i R
      exact dNew_sound h ho hKl.symm (AOpV.step hG hX hT ho hw1 hs ⟨rfl,rfl⟩) (Grow.toL hgr) hr
     ·rename_i f args
      rw [kVs_eq] at hr
      split at hr
      ·rename_i p hp
       obtain ⟨v,R,ch⟩:=p
       obtain ⟨hc1,hc2⟩:=hC _ _ _ _ _ _ hp
       exact dNew_sound h ho hKl.symm (AOpV.step hG hX hT ho hw1 hs hc1) hc2 hr
      ·cases hr
    ·cases hr
theorem evD_sound (hG:GOK G) (hX:RuleOK G X) (hT:∀ (t:TypeId) (d:Ty),T t = some d → d.ok P t) {call:Known} (hC:CallOK P G call) :
  ∀ (l:List Oper) (i:Nat) (e:Nat → Ent) (st:Nat → St) (acc:List KEnt) (s r:KSt),ops.toList.drop i = l → i + l.length = ops.size → DI P G ops ms M0 i e st acc s → evD X T call ops ms l i s acc = some r →
   ∃ e' st' acc',DI P G ops ms M0 ops.size e' st' acc' r ∧ st' 0 = st 0
 | [],i,e,st,acc,s,r,_,hi,h,hr => by
  simp only [evD] at hr
  injection hr with hr; subst hr
  simp only [List.length_nil,Nat.add_zero] at hi
  subst hi
  exact ⟨e,st,acc,h,rfl⟩
 | o :: l,i,e,st,acc,s,r,hl,hi,h,hr => by
  have ho:ops[i]? = some o:=by
   have:=congrArg (fun l => l[0]?) hl
   simpa [List.getElem?_drop] using this
  have hl':ops.toList.drop (i + 1) = l:=by
   have:=congrArg (fun l => l.drop 1) hl
   simpa [List.drop_drop] using this
  have hr:dOp X T call ops ms i o s acc (fun s acc => kNat (i + 1) fun i => evD X T call ops ms l i s acc) = some r:=hr
  obtain ⟨e1,st1,acc1,s1,h1,h2,h3⟩:=dOp_sound hG hX hT hC h ho hr
  rw [kNat_eq] at h3
  obtain ⟨e2,st2,acc2,h4,h5⟩:=evD_sound hG hX hT hC l (i + 1) e1 st1 acc1 s1 r hl' (by simp only [List.length_cons] at hi; omega) h1 h3
  exact ⟨e2,st2,acc2,h4,h5.trans h2⟩
theorem dGood_fwd (h:dGood ops = true):Fwd ops ∧ ∀ i j oi oj t,i < ops.size → j < ops.size → ops[i]? = some oi → ops[j]? = some oj → oi.dst = some t → oj.dst = some t → i = j:=by
 simp only [dGood,Bool.and_eq_true,List.all_eq_true,List.mem_range,Bool.or_eq_true] at h
 refine ⟨fun i hi p hp => blt_iff.1 (h.1 i hi p hp),?_⟩
 intro i j oi oj t hi hj h1 h2 h3 h4
 rcases h.2 i hi j hj with h5 | h5
 ·exact Nat.eq_of_beq_eq_true h5
 ·rw [h1,h2] at h5
  simp only [Option.bind_some,h3,h4] at h5
  simp at h5
theorem dr_ok (hG:GOK G) (hX:RuleOK G X) (hT:∀ (t:TypeId) (d:Ty),T t = some d → d.ok P t) (hm:P.follows .mixedOrders = true) {call:Known} (hC:CallOK P G call):DrOK P G X T call:=by
 intro M0 id ops s s' r h hr
 unfold evDr at hr
 cases hd:dGood ops with
 | false => rw [hd] at hr; cases hr
 | true =>
  rw [hd] at hr
  simp only [kNats_eq] at hr
  obtain ⟨hF,hdst⟩:=dGood_fwd hd
  have h0:DI P G ops (masks ops ops.size) M0 0 (fun _ => default) (fun _ => s') [] s:=⟨h,rfl,fun j hj => by omega,fun j hj => by omega⟩
  obtain ⟨e,st,acc,h1,h2⟩:=evD_sound hG hX hT hC ops.toList 0 _ _ _ _ r rfl (by simp) h0 hr
  refine ⟨st ops.size,h1.good,AW.drawn hm hF ?_⟩
  have:=par_of_steps (A:=bf (masks ops ops.size)) (fun i j _ hA => masks_sound ops ops.size i j hA) h1.ok hdst
  rw [h2] at this
  exact this
theorem sound (hG:GOK G) (hX:RuleOK G X) (hT:∀ (t:TypeId) (d:Ty),T t = some d → d.ok P t) (hm:P.follows .mixedOrders = true) {F:Nat → Option FnV} (hF:FOK P F) {S:Known} (hS:CallOK P G S) (m:Nat):CallOK P G (FN X T F S m) :=
 FN_sound hG hX hT hF hS (fun _ hC => dr_ok hG hX hT hm hC) m
end
end
section
open Go.Proofs
def FIs (f : Nat) (v : FnV) : Prop := ∃ g : Func, Tryz.prog.funcs[f]? = some g ∧ g.name ≠ "runtime.NumGoroutine" ∧ g.body = some v.body ∧ g.ntmps = v.ntmps ∧ g.results.toList = v.results
theorem fis {f : Nat} {g : Func} (h1 : Tryz.prog.funcs[f]? = some g) (h2 : decide (g.name = "runtime.NumGoroutine") = false) (h3 : g.body.isSome = true) : FIs f (fnOf g) := by
 refine ⟨g,h1,of_decide_eq_false h2,?_,rfl,rfl⟩
 show g.body = some (g.body.getD .skip)
 cases hb:g.body with
 | none => rw [hb] at h3; cases h3
 | some c => rfl
theorem fis_3:FIs 3 (fnOf Tryz.f3):=fis (by kernel_rfl) (by kernel_rfl) (by kernel_rfl)
theorem fis_4:FIs 4 (fnOf Tryz.f4):=fis (by kernel_rfl) (by kernel_rfl) (by kernel_rfl)
theorem fis_5:FIs 5 (fnOf Tryz.f5):=fis (by kernel_rfl) (by kernel_rfl) (by kernel_rfl)
theorem fis_6:FIs 6 (fnOf Tryz.f6):=fis (by kernel_rfl) (by kernel_rfl) (by kernel_rfl)
theorem fis_7:FIs 7 (fnOf Tryz.f7):=fis (by kernel_rfl) (by kernel_rfl) (by kernel_rfl)
theorem fis_8:FIs 8 (fnOf Tryz.f8):=fis (by kernel_rfl) (by kernel_rfl) (by kernel_rfl)
theorem fis_9:FIs 9 (fnOf Tryz.f9):=fis (by kernel_rfl) (by kernel_rfl) (by kernel_rfl)
theorem fis_10:FIs 10 (fnOf Tryz.f10):=fis (by kernel_rfl) (by kernel_rfl) (by kernel_rfl)
theorem fis_11:FIs 11 (fnOf Tryz.f11):=fis (by kernel_rfl) (by kernel_rfl) (by kernel_rfl)
theorem fis_12:FIs 12 (fnOf Tryz.f12):=fis (by kernel_rfl) (by kernel_rfl) (by kernel_rfl)
theorem fis_13:FIs 13 (fnOf Tryz.f13):=fis (by kernel_rfl) (by kernel_rfl) (by kernel_rfl)
theorem fis_14:FIs 14 (fnOf Tryz.f14):=fis (by kernel_rfl) (by kernel_rfl) (by kernel_rfl)
theorem fis_15:FIs 15 (fnOf Tryz.f15):=fis (by kernel_rfl) (by kernel_rfl) (by kernel_rfl)
theorem fis_16:FIs 16 (fnOf Tryz.f16):=fis (by kernel_rfl) (by kernel_rfl) (by kernel_rfl)
theorem fis_17:FIs 17 (fnOf Tryz.f17):=fis (by kernel_rfl) (by kernel_rfl) (by kernel_rfl)
theorem fis_18:FIs 18 (fnOf Tryz.f18):=fis (by kernel_rfl) (by kernel_rfl) (by kernel_rfl)
theorem fis_19:FIs 19 (fnOf Tryz.f19):=fis (by kernel_rfl) (by kernel_rfl) (by kernel_rfl)
theorem fis_20:FIs 20 (fnOf Tryz.f20):=fis (by kernel_rfl) (by kernel_rfl) (by kernel_rfl)
theorem fis_21:FIs 21 (fnOf Tryz.f21):=fis (by kernel_rfl) (by kernel_rfl) (by kernel_rfl)
theorem fis_22:FIs 22 (fnOf Tryz.f22):=fis (by kernel_rfl) (by kernel_rfl) (by kernel_rfl)
theorem fis_23:FIs 23 (fnOf Tryz.f23):=fis (by kernel_rfl) (by kernel_rfl) (by kernel_rfl)
theorem fis_24:FIs 24 (fnOf Tryz.f24):=fis (by kernel_rfl) (by kernel_rfl) (by kernel_rfl)
theorem fis_25:FIs 25 (fnOf Tryz.f25):=fis (by kernel_rfl) (by kernel_rfl) (by kernel_rfl)
theorem fis_26:FIs 26 (fnOf Tryz.f26):=fis (by kernel_rfl) (by kernel_rfl) (by kernel_rfl)
theorem fis_27:FIs 27 (fnOf Tryz.f27):=fis (by kernel_rfl) (by kernel_rfl) (by kernel_rfl)
theorem fis_28:FIs 28 (fnOf Tryz.f28):=fis (by kernel_rfl) (by kernel_rfl) (by kernel_rfl)
theorem fis_29:FIs 29 (fnOf Tryz.f29):=fis (by kernel_rfl) (by kernel_rfl) (by kernel_rfl)
theorem fis_30:FIs 30 (fnOf Tryz.f30):=fis (by kernel_rfl) (by kernel_rfl) (by kernel_rfl)
theorem fis_31:FIs 31 (fnOf Tryz.f31):=fis (by kernel_rfl) (by kernel_rfl) (by kernel_rfl)
theorem fis_32:FIs 32 (fnOf Tryz.f32):=fis (by kernel_rfl) (by kernel_rfl) (by kernel_rfl)
theorem fis_33:FIs 33 (fnOf Tryz.f33):=fis (by kernel_rfl) (by kernel_rfl) (by kernel_rfl)
theorem fis_34:FIs 34 (fnOf Tryz.f34):=fis (by kernel_rfl) (by kernel_rfl) (by kernel_rfl)
theorem fis_35:FIs 35 (fnOf Tryz.f35):=fis (by kernel_rfl) (by kernel_rfl) (by kernel_rfl)
theorem fis_36:FIs 36 (fnOf Tryz.f36):=fis (by kernel_rfl) (by kernel_rfl) (by kernel_rfl)
theorem fis_37:FIs 37 (fnOf Tryz.f37):=fis (by kernel_rfl) (by kernel_rfl) (by kernel_rfl)
theorem fis_38:FIs 38 (fnOf Tryz.f38):=fis (by kernel_rfl) (by kernel_rfl) (by kernel_rfl)
theorem fis_39:FIs 39 (fnOf Tryz.f39):=fis (by kernel_rfl) (by kernel_rfl) (by kernel_rfl)
theorem fis_40:FIs 40 (fnOf Tryz.f40):=fis (by kernel_rfl) (by kernel_rfl) (by kernel_rfl)
theorem fis_41:FIs 41 (fnOf Tryz.f41):=fis (by kernel_rfl) (by kernel_rfl) (by kernel_rfl)
theorem fis_42:FIs 42 (fnOf Tryz.f42):=fis (by kernel_rfl) (by kernel_rfl) (by kernel_rfl)
theorem fis_43:FIs 43 (fnOf Tryz.f43):=fis (by kernel_rfl) (by kernel_rfl) (by kernel_rfl)
theorem fis_44:FIs 44 (fnOf Tryz.f44):=fis (by kernel_rfl) (by kernel_rfl) (by kernel_rfl)
theorem fis_45:FIs 45 (fnOf Tryz.f45):=fis (by kernel_rfl) (by kernel_rfl) (by kernel_rfl)
theorem fis_46:FIs 46 (fnOf Tryz.f46):=fis (by kernel_rfl) (by kernel_rfl) (by kernel_rfl)
theorem fis_47:FIs 47 (fnOf Tryz.f47):=fis (by kernel_rfl) (by kernel_rfl) (by kernel_rfl)
theorem fis_48:FIs 48 (fnOf Tryz.f48):=fis (by kernel_rfl) (by kernel_rfl) (by kernel_rfl)
theorem fis_49:FIs 49 (fnOf Tryz.f49):=fis (by kernel_rfl) (by kernel_rfl) (by kernel_rfl)
theorem fis_50:FIs 50 (fnOf Tryz.f50):=fis (by kernel_rfl) (by kernel_rfl) (by kernel_rfl)
theorem fis_51:FIs 51 (fnOf Tryz.f51):=fis (by kernel_rfl) (by kernel_rfl) (by kernel_rfl)
theorem fis_52:FIs 52 (fnOf Tryz.f52):=fis (by kernel_rfl) (by kernel_rfl) (by kernel_rfl)
theorem fis_53:FIs 53 (fnOf Tryz.f53):=fis (by kernel_rfl) (by kernel_rfl) (by kernel_rfl)
theorem fis_54:FIs 54 (fnOf Tryz.f54):=fis (by kernel_rfl) (by kernel_rfl) (by kernel_rfl)
theorem fis_55:FIs 55 (fnOf Tryz.f55):=fis (by kernel_rfl) (by kernel_rfl) (by kernel_rfl)
theorem fis_56:FIs 56 (fnOf Tryz.f56):=fis (by kernel_rfl) (by kernel_rfl) (by kernel_rfl)
theorem fis_57:FIs 57 (fnOf Tryz.f57):=fis (by kernel_rfl) (by kernel_rfl) (by kernel_rfl)
theorem fis_58:FIs 58 (fnOf Tryz.f58):=fis (by kernel_rfl) (by kernel_rfl) (by kernel_rfl)
theorem fis_59:FIs 59 (fnOf Tryz.f59):=fis (by kernel_rfl) (by kernel_rfl) (by kernel_rfl)
theorem fis_60:FIs 60 (fnOf Tryz.f60):=fis (by kernel_rfl) (by kernel_rfl) (by kernel_rfl)
theorem fis_61:FIs 61 (fnOf Tryz.f61):=fis (by kernel_rfl) (by kernel_rfl) (by kernel_rfl)
theorem fis_62:FIs 62 (fnOf Tryz.f62):=fis (by kernel_rfl) (by kernel_rfl) (by kernel_rfl)
theorem fis_63:FIs 63 (fnOf Tryz.f63):=fis (by kernel_rfl) (by kernel_rfl) (by kernel_rfl)
theorem fis_64:FIs 64 (fnOf Tryz.f64):=fis (by kernel_rfl) (by kernel_rfl) (by kernel_rfl)
theorem fis_65:FIs 65 (fnOf Tryz.f65):=fis (by kernel_rfl) (by kernel_rfl) (by kernel_rfl)
theorem fis_66:FIs 66 (fnOf Tryz.f66):=fis (by kernel_rfl) (by kernel_rfl) (by kernel_rfl)
theorem fis_67:FIs 67 (fnOf Tryz.f67):=fis (by kernel_rfl) (by kernel_rfl) (by kernel_rfl)
theorem fis_68:FIs 68 (fnOf Tryz.f68):=fis (by kernel_rfl) (by kernel_rfl) (by kernel_rfl)
theorem fis_69:FIs 69 (fnOf Tryz.f69):=fis (by kernel_rfl) (by kernel_rfl) (by kernel_rfl)
theorem fis_70:FIs 70 (fnOf Tryz.f70):=fis (by kernel_rfl) (by kernel_rfl) (by kernel_rfl)
theorem fis_71:FIs 71 (fnOf Tryz.f71):=fis (by kernel_rfl) (by kernel_rfl) (by kernel_rfl)
theorem fis_72:FIs 72 (fnOf Tryz.f72):=fis (by kernel_rfl) (by kernel_rfl) (by kernel_rfl)
theorem fis_73:FIs 73 (fnOf Tryz.f73):=fis (by kernel_rfl) (by kernel_rfl) (by kernel_rfl)
theorem fis_74:FIs 74 (fnOf Tryz.f74):=fis (by kernel_rfl) (by kernel_rfl) (by kernel_rfl)
theorem fis_75:FIs 75 (fnOf Tryz.f75):=fis (by kernel_rfl) (by kernel_rfl) (by kernel_rfl)
theorem fis_76:FIs 76 (fnOf Tryz.f76):=fis (by kernel_rfl) (by kernel_rfl) (by kernel_rfl)
theorem fis_77:FIs 77 (fnOf Tryz.f77):=fis (by kernel_rfl) (by kernel_rfl) (by kernel_rfl)
theorem fis_78:FIs 78 (fnOf Tryz.f78):=fis (by kernel_rfl) (by kernel_rfl) (by kernel_rfl)
theorem fis_79:FIs 79 (fnOf Tryz.f79):=fis (by kernel_rfl) (by kernel_rfl) (by kernel_rfl)
theorem fis_80:FIs 80 (fnOf Tryz.f80):=fis (by kernel_rfl) (by kernel_rfl) (by kernel_rfl)
theorem fis_81:FIs 81 (fnOf Tryz.f81):=fis (by kernel_rfl) (by kernel_rfl) (by kernel_rfl)
theorem fis_82:FIs 82 (fnOf Tryz.f82):=fis (by kernel_rfl) (by kernel_rfl) (by kernel_rfl)
theorem fis_83:FIs 83 (fnOf Tryz.f83):=fis (by kernel_rfl) (by kernel_rfl) (by kernel_rfl)
theorem fis_84:FIs 84 (fnOf Tryz.f84):=fis (by kernel_rfl) (by kernel_rfl) (by kernel_rfl)
theorem fis_85:FIs 85 (fnOf Tryz.f85):=fis (by kernel_rfl) (by kernel_rfl) (by kernel_rfl)
theorem fis_86:FIs 86 (fnOf Tryz.f86):=fis (by kernel_rfl) (by kernel_rfl) (by kernel_rfl)
theorem fis_87:FIs 87 (fnOf Tryz.f87):=fis (by kernel_rfl) (by kernel_rfl) (by kernel_rfl)
theorem fis_88:FIs 88 (fnOf Tryz.f88):=fis (by kernel_rfl) (by kernel_rfl) (by kernel_rfl)
theorem fis_89:FIs 89 (fnOf Tryz.f89):=fis (by kernel_rfl) (by kernel_rfl) (by kernel_rfl)
theorem fis_90:FIs 90 (fnOf Tryz.f90):=fis (by kernel_rfl) (by kernel_rfl) (by kernel_rfl)
theorem fis_91:FIs 91 (fnOf Tryz.f91):=fis (by kernel_rfl) (by kernel_rfl) (by kernel_rfl)
theorem fis_92:FIs 92 (fnOf Tryz.f92):=fis (by kernel_rfl) (by kernel_rfl) (by kernel_rfl)
theorem fis_93:FIs 93 (fnOf Tryz.f93):=fis (by kernel_rfl) (by kernel_rfl) (by kernel_rfl)
theorem fis_94:FIs 94 (fnOf Tryz.f94):=fis (by kernel_rfl) (by kernel_rfl) (by kernel_rfl)
theorem fis_95:FIs 95 (fnOf Tryz.f95):=fis (by kernel_rfl) (by kernel_rfl) (by kernel_rfl)
theorem fis_96:FIs 96 (fnOf Tryz.f96):=fis (by kernel_rfl) (by kernel_rfl) (by kernel_rfl)
theorem fis_97:FIs 97 (fnOf Tryz.f97):=fis (by kernel_rfl) (by kernel_rfl) (by kernel_rfl)
theorem fis_98:FIs 98 (fnOf Tryz.f98):=fis (by kernel_rfl) (by kernel_rfl) (by kernel_rfl)
theorem fis_99:FIs 99 (fnOf Tryz.f99):=fis (by kernel_rfl) (by kernel_rfl) (by kernel_rfl)
theorem fis_100:FIs 100 (fnOf Tryz.f100):=fis (by kernel_rfl) (by kernel_rfl) (by kernel_rfl)
theorem fis_101:FIs 101 (fnOf Tryz.f101):=fis (by kernel_rfl) (by kernel_rfl) (by kernel_rfl)
theorem fis_102:FIs 102 (fnOf Tryz.f102):=fis (by kernel_rfl) (by kernel_rfl) (by kernel_rfl)
theorem fis_103:FIs 103 (fnOf Tryz.f103):=fis (by kernel_rfl) (by kernel_rfl) (by kernel_rfl)
theorem fis_104:FIs 104 (fnOf Tryz.f104):=fis (by kernel_rfl) (by kernel_rfl) (by kernel_rfl)
theorem fis_105:FIs 105 (fnOf Tryz.f105):=fis (by kernel_rfl) (by kernel_rfl) (by kernel_rfl)
theorem fis_106:FIs 106 (fnOf Tryz.f106):=fis (by kernel_rfl) (by kernel_rfl) (by kernel_rfl)
theorem fis_107:FIs 107 (fnOf Tryz.f107):=fis (by kernel_rfl) (by kernel_rfl) (by kernel_rfl)
theorem fis_108:FIs 108 (fnOf Tryz.f108):=fis (by kernel_rfl) (by kernel_rfl) (by kernel_rfl)
theorem fis_109:FIs 109 (fnOf Tryz.f109):=fis (by kernel_rfl) (by kernel_rfl) (by kernel_rfl)
theorem fis_110:FIs 110 (fnOf Tryz.f110):=fis (by kernel_rfl) (by kernel_rfl) (by kernel_rfl)
theorem fis_111:FIs 111 (fnOf Tryz.f111):=fis (by kernel_rfl) (by kernel_rfl) (by kernel_rfl)
theorem fis_112:FIs 112 (fnOf Tryz.f112):=fis (by kernel_rfl) (by kernel_rfl) (by kernel_rfl)
theorem fis_113:FIs 113 (fnOf Tryz.f113):=fis (by kernel_rfl) (by kernel_rfl) (by kernel_rfl)
theorem fis_114:FIs 114 (fnOf Tryz.f114):=fis (by kernel_rfl) (by kernel_rfl) (by kernel_rfl)
theorem fis_115:FIs 115 (fnOf Tryz.f115):=fis (by kernel_rfl) (by kernel_rfl) (by kernel_rfl)
theorem fis_116:FIs 116 (fnOf Tryz.f116):=fis (by kernel_rfl) (by kernel_rfl) (by kernel_rfl)
theorem fis_117:FIs 117 (fnOf Tryz.f117):=fis (by kernel_rfl) (by kernel_rfl) (by kernel_rfl)
theorem fis_118:FIs 118 (fnOf Tryz.f118):=fis (by kernel_rfl) (by kernel_rfl) (by kernel_rfl)
theorem fis_119:FIs 119 (fnOf Tryz.f119):=fis (by kernel_rfl) (by kernel_rfl) (by kernel_rfl)
theorem fis_120:FIs 120 (fnOf Tryz.f120):=fis (by kernel_rfl) (by kernel_rfl) (by kernel_rfl)
theorem fis_121:FIs 121 (fnOf Tryz.f121):=fis (by kernel_rfl) (by kernel_rfl) (by kernel_rfl)
theorem fis_122:FIs 122 (fnOf Tryz.f122):=fis (by kernel_rfl) (by kernel_rfl) (by kernel_rfl)
theorem fis_123:FIs 123 (fnOf Tryz.f123):=fis (by kernel_rfl) (by kernel_rfl) (by kernel_rfl)
theorem fis_124:FIs 124 (fnOf Tryz.f124):=fis (by kernel_rfl) (by kernel_rfl) (by kernel_rfl)
theorem fis_125:FIs 125 (fnOf Tryz.f125):=fis (by kernel_rfl) (by kernel_rfl) (by kernel_rfl)
theorem fis_126:FIs 126 (fnOf Tryz.f126):=fis (by kernel_rfl) (by kernel_rfl) (by kernel_rfl)
theorem fis_127:FIs 127 (fnOf Tryz.f127):=fis (by kernel_rfl) (by kernel_rfl) (by kernel_rfl)
theorem fis_128:FIs 128 (fnOf Tryz.f128):=fis (by kernel_rfl) (by kernel_rfl) (by kernel_rfl)
theorem fis_129:FIs 129 (fnOf Tryz.f129):=fis (by kernel_rfl) (by kernel_rfl) (by kernel_rfl)
theorem fis_130:FIs 130 (fnOf Tryz.f130):=fis (by kernel_rfl) (by kernel_rfl) (by kernel_rfl)
theorem fis_131:FIs 131 (fnOf Tryz.f131):=fis (by kernel_rfl) (by kernel_rfl) (by kernel_rfl)
theorem fis_132:FIs 132 (fnOf Tryz.f132):=fis (by kernel_rfl) (by kernel_rfl) (by kernel_rfl)
theorem fis_133:FIs 133 (fnOf Tryz.f133):=fis (by kernel_rfl) (by kernel_rfl) (by kernel_rfl)
theorem fis_134:FIs 134 (fnOf Tryz.f134):=fis (by kernel_rfl) (by kernel_rfl) (by kernel_rfl)
theorem fis_135:FIs 135 (fnOf Tryz.f135):=fis (by kernel_rfl) (by kernel_rfl) (by kernel_rfl)
theorem fis_136:FIs 136 (fnOf Tryz.f136):=fis (by kernel_rfl) (by kernel_rfl) (by kernel_rfl)
theorem fis_137:FIs 137 (fnOf Tryz.f137):=fis (by kernel_rfl) (by kernel_rfl) (by kernel_rfl)
theorem fis_138:FIs 138 (fnOf Tryz.f138):=fis (by kernel_rfl) (by kernel_rfl) (by kernel_rfl)
theorem fis_139:FIs 139 (fnOf Tryz.f139):=fis (by kernel_rfl) (by kernel_rfl) (by kernel_rfl)
theorem fis_140:FIs 140 (fnOf Tryz.f140):=fis (by kernel_rfl) (by kernel_rfl) (by kernel_rfl)
theorem fis_141:FIs 141 (fnOf Tryz.f141):=fis (by kernel_rfl) (by kernel_rfl) (by kernel_rfl)
theorem fis_142:FIs 142 (fnOf Tryz.f142):=fis (by kernel_rfl) (by kernel_rfl) (by kernel_rfl)
theorem fis_143:FIs 143 (fnOf Tryz.f143):=fis (by kernel_rfl) (by kernel_rfl) (by kernel_rfl)
theorem fis_144:FIs 144 (fnOf Tryz.f144):=fis (by kernel_rfl) (by kernel_rfl) (by kernel_rfl)
theorem fis_145:FIs 145 (fnOf Tryz.f145):=fis (by kernel_rfl) (by kernel_rfl) (by kernel_rfl)
theorem fis_146:FIs 146 (fnOf Tryz.f146):=fis (by kernel_rfl) (by kernel_rfl) (by kernel_rfl)
theorem fis_147:FIs 147 (fnOf Tryz.f147):=fis (by kernel_rfl) (by kernel_rfl) (by kernel_rfl)
theorem fis_148:FIs 148 (fnOf Tryz.f148):=fis (by kernel_rfl) (by kernel_rfl) (by kernel_rfl)
theorem fis_149:FIs 149 (fnOf Tryz.f149):=fis (by kernel_rfl) (by kernel_rfl) (by kernel_rfl)
theorem fis_150:FIs 150 (fnOf Tryz.f150):=fis (by kernel_rfl) (by kernel_rfl) (by kernel_rfl)
theorem fis_151:FIs 151 (fnOf Tryz.f151):=fis (by kernel_rfl) (by kernel_rfl) (by kernel_rfl)
theorem fn_rows {f:Nat} {v:FnV} (h:fn f = some v):∃ r,fnRows[f / 16]? = some r ∧ r[f % 16]? = some (some v):=by
 unfold fn at h
 rw [nth_eq] at h
 split at h
 ·rename_i r hr
  rw [nth_eq] at h
  split at h
  ·rename_i d hd
   subst h
   exact ⟨r,hr,hd⟩
  ·cases h
 ·cases h
theorem fok_row0 {j:Nat} {v:FnV} (h:(fnRows.getD 0 [])[j]? = some (some v)):FIs (16 * 0 + j) v:=by
 match j,h with
 | 0,h => exact absurd (show (some none:Option (Option FnV)) = some (some v) from h) (by simp)
 | 1,h => exact absurd (show (some none:Option (Option FnV)) = some (some v) from h) (by simp)
 | 2,h => exact absurd (show (some none:Option (Option FnV)) = some (some v) from h) (by simp)
 | 3,h => exact (Option.some.inj (Option.some.inj h)) ▸ fis_3
 | 4,h => exact (Option.some.inj (Option.some.inj h)) ▸ fis_4
 | 5,h => exact (Option.some.inj (Option.some.inj h)) ▸ fis_5
 | 6,h => exact (Option.some.inj (Option.some.inj h)) ▸ fis_6
 | 7,h => exact (Option.some.inj (Option.some.inj h)) ▸ fis_7
 | 8,h => exact (Option.some.inj (Option.some.inj h)) ▸ fis_8
 | 9,h => exact (Option.some.inj (Option.some.inj h)) ▸ fis_9
 | 10,h => exact (Option.some.inj (Option.some.inj h)) ▸ fis_10
 | 11,h => exact (Option.some.inj (Option.some.inj h)) ▸ fis_11
 | 12,h => exact (Option.some.inj (Option.some.inj h)) ▸ fis_12
 | 13,h => exact (Option.some.inj (Option.some.inj h)) ▸ fis_13
 | 14,h => exact (Option.some.inj (Option.some.inj h)) ▸ fis_14
 | 15,h => exact (Option.some.inj (Option.some.inj h)) ▸ fis_15
 | j + 16,h => exact absurd (show (none:Option (Option FnV)) = some (some v) from h) (by simp)
theorem fok_row1 {j:Nat} {v:FnV} (h:(fnRows.getD 1 [])[j]? = some (some v)):FIs (16 * 1 + j) v:=by
 match j,h with
 | 0,h => exact (Option.some.inj (Option.some.inj h)) ▸ fis_16
 | 1,h => exact (Option.some.inj (Option.some.inj h)) ▸ fis_17
 | 2,h => exact (Option.some.inj (Option.some.inj h)) ▸ fis_18
 | 3,h => exact (Option.some.inj (Option.some.inj h)) ▸ fis_19
 | 4,h => exact (Option.some.inj (Option.some.inj h)) ▸ fis_20
 | 5,h => exact (Option.some.inj (Option.some.inj h)) ▸ fis_21
 | 6,h => exact (Option.some.inj (Option.some.inj h)) ▸ fis_22
 | 7,h => exact (Option.some.inj (Option.some.inj h)) ▸ fis_23
 | 8,h => exact (Option.some.inj (Option.some.inj h)) ▸ fis_24
 | 9,h => exact (Option.some.inj (Option.some.inj h)) ▸ fis_25
 | 10,h => exact (Option.some.inj (Option.some.inj h)) ▸ fis_26
 | 11,h => exact (Option.some.inj (Option.some.inj h)) ▸ fis_27
 | 12,h => exact (Option.some.inj (Option.some.inj h)) ▸ fis_28
 | 13,h => exact (Option.some.inj (Option.some.inj h)) ▸ fis_29
 | 14,h => exact (Option.some.inj (Option.some.inj h)) ▸ fis_30
 | 15,h => exact (Option.some.inj (Option.some.inj h)) ▸ fis_31
 | j + 16,h => exact absurd (show (none:Option (Option FnV)) = some (some v) from h) (by simp)
theorem fok_row2 {j:Nat} {v:FnV} (h:(fnRows.getD 2 [])[j]? = some (some v)):FIs (16 * 2 + j) v:=by
 match j,h with
 | 0,h => exact (Option.some.inj (Option.some.inj h)) ▸ fis_32
 | 1,h => exact (Option.some.inj (Option.some.inj h)) ▸ fis_33
 | 2,h => exact (Option.some.inj (Option.some.inj h)) ▸ fis_34
 | 3,h => exact (Option.some.inj (Option.some.inj h)) ▸ fis_35
 | 4,h => exact (Option.some.inj (Option.some.inj h)) ▸ fis_36
 | 5,h => exact (Option.some.inj (Option.some.inj h)) ▸ fis_37
 | 6,h => exact (Option.some.inj (Option.some.inj h)) ▸ fis_38
 | 7,h => exact (Option.some.inj (Option.some.inj h)) ▸ fis_39
 | 8,h => exact (Option.some.inj (Option.some.inj h)) ▸ fis_40
 | 9,h => exact (Option.some.inj (Option.some.inj h)) ▸ fis_41
 | 10,h => exact (Option.some.inj (Option.some.inj h)) ▸ fis_42
 | 11,h => exact (Option.some.inj (Option.some.inj h)) ▸ fis_43
 | 12,h => exact (Option.some.inj (Option.some.inj h)) ▸ fis_44
 | 13,h => exact (Option.some.inj (Option.some.inj h)) ▸ fis_45
 | 14,h => exact (Option.some.inj (Option.some.inj h)) ▸ fis_46
 | 15,h => exact (Option.some.inj (Option.some.inj h)) ▸ fis_47
 | j + 16,h => exact absurd (show (none:Option (Option FnV)) = some (some v) from h) (by simp)
theorem fok_row3 {j:Nat} {v:FnV} (h:(fnRows.getD 3 [])[j]? = some (some v)):FIs (16 * 3 + j) v:=by
 match j,h with
 | 0,h => exact (Option.some.inj (Option.some.inj h)) ▸ fis_48
 | 1,h => exact (Option.some.inj (Option.some.inj h)) ▸ fis_49
 | 2,h => exact (Option.some.inj (Option.some.inj h)) ▸ fis_50
 | 3,h => exact (Option.some.inj (Option.some.inj h)) ▸ fis_51
 | 4,h => exact (Option.some.inj (Option.some.inj h)) ▸ fis_52
 | 5,h => exact (Option.some.inj (Option.some.inj h)) ▸ fis_53
 | 6,h => exact (Option.some.inj (Option.some.inj h)) ▸ fis_54
 | 7,h => exact (Option.some.inj (Option.some.inj h)) ▸ fis_55
 | 8,h => exact (Option.some.inj (Option.some.inj h)) ▸ fis_56
 | 9,h => exact (Option.some.inj (Option.some.inj h)) ▸ fis_57
 | 10,h => exact (Option.some.inj (Option.some.inj h)) ▸ fis_58
 | 11,h => exact (Option.some.inj (Option.some.inj h)) ▸ fis_59
 | 12,h => exact (Option.some.inj (Option.some.inj h)) ▸ fis_60
 | 13,h => exact (Option.some.inj (Option.some.inj h)) ▸ fis_61
 | 14,h => exact (Option.some.inj (Option.some.inj h)) ▸ fis_62
 | 15,h => exact (Option.some.inj (Option.some.inj h)) ▸ fis_63
 | j + 16,h => exact absurd (show (none:Option (Option FnV)) = some (some v) from h) (by simp)
theorem fok_row4 {j:Nat} {v:FnV} (h:(fnRows.getD 4 [])[j]? = some (some v)):FIs (16 * 4 + j) v:=by
 match j,h with
 | 0,h => exact (Option.some.inj (Option.some.inj h)) ▸ fis_64
 | 1,h => exact (Option.some.inj (Option.some.inj h)) ▸ fis_65
 | 2,h => exact (Option.some.inj (Option.some.inj h)) ▸ fis_66
 | 3,h => exact (Option.some.inj (Option.some.inj h)) ▸ fis_67
 | 4,h => exact (Option.some.inj (Option.some.inj h)) ▸ fis_68
 | 5,h => exact (Option.some.inj (Option.some.inj h)) ▸ fis_69
 | 6,h => exact (Option.some.inj (Option.some.inj h)) ▸ fis_70
 | 7,h => exact (Option.some.inj (Option.some.inj h)) ▸ fis_71
 | 8,h => exact (Option.some.inj (Option.some.inj h)) ▸ fis_72
 | 9,h => exact (Option.some.inj (Option.some.inj h)) ▸ fis_73
 | 10,h => exact (Option.some.inj (Option.some.inj h)) ▸ fis_74
 | 11,h => exact (Option.some.inj (Option.some.inj h)) ▸ fis_75
 | 12,h => exact (Option.some.inj (Option.some.inj h)) ▸ fis_76
 | 13,h => exact (Option.some.inj (Option.some.inj h)) ▸ fis_77
 | 14,h => exact (Option.some.inj (Option.some.inj h)) ▸ fis_78
 | 15,h => exact (Option.some.inj (Option.some.inj h)) ▸ fis_79
 | j + 16,h => exact absurd (show (none:Option (Option FnV)) = some (some v) from h) (by simp)
theorem fok_row5 {j:Nat} {v:FnV} (h:(fnRows.getD 5 [])[j]? = some (some v)):FIs (16 * 5 + j) v:=by
 match j,h with
 | 0,h => exact (Option.some.inj (Option.some.inj h)) ▸ fis_80
 | 1,h => exact (Option.some.inj (Option.some.inj h)) ▸ fis_81
 | 2,h => exact (Option.some.inj (Option.some.inj h)) ▸ fis_82
 | 3,h => exact (Option.some.inj (Option.some.inj h)) ▸ fis_83
 | 4,h => exact (Option.some.inj (Option.some.inj h)) ▸ fis_84
 | 5,h => exact (Option.some.inj (Option.some.inj h)) ▸ fis_85
 | 6,h => exact (Option.some.inj (Option.some.inj h)) ▸ fis_86
 | 7,h => exact (Option.some.inj (Option.some.inj h)) ▸ fis_87
 | 8,h => exact (Option.some.inj (Option.some.inj h)) ▸ fis_88
 | 9,h => exact (Option.some.inj (Option.some.inj h)) ▸ fis_89
 | 10,h => exact (Option.some.inj (Option.some.inj h)) ▸ fis_90
 | 11,h => exact (Option.some.inj (Option.some.inj h)) ▸ fis_91
 | 12,h => exact (Option.some.inj (Option.some.inj h)) ▸ fis_92
 | 13,h => exact (Option.some.inj (Option.some.inj h)) ▸ fis_93
 | 14,h => exact (Option.some.inj (Option.some.inj h)) ▸ fis_94
 | 15,h => exact (Option.some.inj (Option.some.inj h)) ▸ fis_95
 | j + 16,h => exact absurd (show (none:Option (Option FnV)) = some (some v) from h) (by simp)
theorem fok_row6 {j:Nat} {v:FnV} (h:(fnRows.getD 6 [])[j]? = some (some v)):FIs (16 * 6 + j) v:=by
 match j,h with
 | 0,h => exact (Option.some.inj (Option.some.inj h)) ▸ fis_96
 | 1,h => exact (Option.some.inj (Option.some.inj h)) ▸ fis_97
 | 2,h => exact (Option.some.inj (Option.some.inj h)) ▸ fis_98
 | 3,h => exact (Option.some.inj (Option.some.inj h)) ▸ fis_99
 | 4,h => exact (Option.some.inj (Option.some.inj h)) ▸ fis_100
 | 5,h => exact (Option.some.inj (Option.some.inj h)) ▸ fis_101
 | 6,h => exact (Option.some.inj (Option.some.inj h)) ▸ fis_102
 | 7,h => exact (Option.some.inj (Option.some.inj h)) ▸ fis_103
 | 8,h => exact (Option.some.inj (Option.some.inj h)) ▸ fis_104
 | 9,h => exact (Option.some.inj (Option.some.inj h)) ▸ fis_105
 | 10,h => exact (Option.some.inj (Option.some.inj h)) ▸ fis_106
 | 11,h => exact (Option.some.inj (Option.some.inj h)) ▸ fis_107
 | 12,h => exact (Option.some.inj (Option.some.inj h)) ▸ fis_108
 | 13,h => exact (Option.some.inj (Option.some.inj h)) ▸ fis_109
 | 14,h => exact (Option.some.inj (Option.some.inj h)) ▸ fis_110
 | 15,h => exact (Option.some.inj (Option.some.inj h)) ▸ fis_111
 | j + 16,h => exact absurd (show (none:Option (Option FnV)) = some (some v) from h) (by simp)
theorem fok_row7 {j:Nat} {v:FnV} (h:(fnRows.getD 7 [])[j]? = some (some v)):FIs (16 * 7 + j) v:=by
 match j,h with
 | 0,h => exact (Option.some.inj (Option.some.inj h)) ▸ fis_112
 | 1,h => exact (Option.some.inj (Option.some.inj h)) ▸ fis_113
 | 2,h => exact (Option.some.inj (Option.some.inj h)) ▸ fis_114
 | 3,h => exact (Option.some.inj (Option.some.inj h)) ▸ fis_115
 | 4,h => exact (Option.some.inj (Option.some.inj h)) ▸ fis_116
 | 5,h => exact (Option.some.inj (Option.some.inj h)) ▸ fis_117
 | 6,h => exact (Option.some.inj (Option.some.inj h)) ▸ fis_118
 | 7,h => exact (Option.some.inj (Option.some.inj h)) ▸ fis_119
 | 8,h => exact (Option.some.inj (Option.some.inj h)) ▸ fis_120
 | 9,h => exact (Option.some.inj (Option.some.inj h)) ▸ fis_121
 | 10,h => exact (Option.some.inj (Option.some.inj h)) ▸ fis_122
 | 11,h => exact (Option.some.inj (Option.some.inj h)) ▸ fis_123
 | 12,h => exact (Option.some.inj (Option.some.inj h)) ▸ fis_124
 | 13,h => exact (Option.some.inj (Option.some.inj h)) ▸ fis_125
 | 14,h => exact (Option.some.inj (Option.some.inj h)) ▸ fis_126
 | 15,h => exact (Option.some.inj (Option.some.inj h)) ▸ fis_127
 | j + 16,h => exact absurd (show (none:Option (Option FnV)) = some (some v) from h) (by simp)
theorem fok_row8 {j:Nat} {v:FnV} (h:(fnRows.getD 8 [])[j]? = some (some v)):FIs (16 * 8 + j) v:=by
 match j,h with
 | 0,h => exact (Option.some.inj (Option.some.inj h)) ▸ fis_128
 | 1,h => exact (Option.some.inj (Option.some.inj h)) ▸ fis_129
 | 2,h => exact (Option.some.inj (Option.some.inj h)) ▸ fis_130
 | 3,h => exact (Option.some.inj (Option.some.inj h)) ▸ fis_131
 | 4,h => exact (Option.some.inj (Option.some.inj h)) ▸ fis_132
 | 5,h => exact (Option.some.inj (Option.some.inj h)) ▸ fis_133
 | 6,h => exact (Option.some.inj (Option.some.inj h)) ▸ fis_134
 | 7,h => exact (Option.some.inj (Option.some.inj h)) ▸ fis_135
 | 8,h => exact (Option.some.inj (Option.some.inj h)) ▸ fis_136
 | 9,h => exact (Option.some.inj (Option.some.inj h)) ▸ fis_137
 | 10,h => exact (Option.some.inj (Option.some.inj h)) ▸ fis_138
 | 11,h => exact (Option.some.inj (Option.some.inj h)) ▸ fis_139
 | 12,h => exact (Option.some.inj (Option.some.inj h)) ▸ fis_140
 | 13,h => exact (Option.some.inj (Option.some.inj h)) ▸ fis_141
 | 14,h => exact (Option.some.inj (Option.some.inj h)) ▸ fis_142
 | 15,h => exact (Option.some.inj (Option.some.inj h)) ▸ fis_143
 | j + 16,h => exact absurd (show (none:Option (Option FnV)) = some (some v) from h) (by simp)
theorem fok_row9 {j:Nat} {v:FnV} (h:(fnRows.getD 9 [])[j]? = some (some v)):FIs (16 * 9 + j) v:=by
 match j,h with
 | 0,h => exact (Option.some.inj (Option.some.inj h)) ▸ fis_144
 | 1,h => exact (Option.some.inj (Option.some.inj h)) ▸ fis_145
 | 2,h => exact (Option.some.inj (Option.some.inj h)) ▸ fis_146
 | 3,h => exact (Option.some.inj (Option.some.inj h)) ▸ fis_147
 | 4,h => exact (Option.some.inj (Option.some.inj h)) ▸ fis_148
 | 5,h => exact (Option.some.inj (Option.some.inj h)) ▸ fis_149
 | 6,h => exact (Option.some.inj (Option.some.inj h)) ▸ fis_150
 | 7,h => exact (Option.some.inj (Option.some.inj h)) ▸ fis_151
 | 8,h => exact absurd (show (some none:Option (Option FnV)) = some (some v) from h) (by simp)
 | 9,h => exact absurd (show (some none:Option (Option FnV)) = some (some v) from h) (by simp)
 | 10,h => exact absurd (show (some none:Option (Option FnV)) = some (some v) from h) (by simp)
 | 11,h => exact absurd (show (some none:Option (Option FnV)) = some (some v) from h) (by simp)
 | 12,h => exact absurd (show (some none:Option (Option FnV)) = some (some v) from h) (by simp)
 | 13,h => exact absurd (show (some none:Option (Option FnV)) = some (some v) from h) (by simp)
 | 14,h => exact absurd (show (some none:Option (Option FnV)) = some (some v) from h) (by simp)
 | 15,h => exact absurd (show (some none:Option (Option FnV)) = some (some v) from h) (by simp)
 | j + 16,h => exact absurd (show (none:Option (Option FnV)) = some (some v) from h) (by simp)
theorem fok:FOK Tryz.prog fn:=by
 intro f v h
 obtain ⟨r,h1,h2⟩:=fn_rows h
 have hlt:f / 16 < 10:=(List.getElem?_eq_some_iff.1 h1).1
 have hf:f = 16 * (f / 16) + f % 16:=by omega
 have hg:fnRows.getD (f / 16) [] = r:=by rw [List.getD_eq_getElem?_getD,h1]; rfl
 rw [← hg] at h2
 rw [hf]
 generalize f / 16 = q at hlt h2
 generalize f % 16 = j at h2
 match q,hlt with
 | 0,_ => exact fok_row0 h2
 | 1,_ => exact fok_row1 h2
 | 2,_ => exact fok_row2 h2
 | 3,_ => exact fok_row3 h2
 | 4,_ => exact fok_row4 h2
 | 5,_ => exact fok_row5 h2
 | 6,_ => exact fok_row6 h2
 | 7,_ => exact fok_row7 h2
 | 8,_ => exact fok_row8 h2
 | 9,_ => exact fok_row9 h2
theorem mixed:Tryz.prog.follows .mixedOrders = true:=by kernel_rfl
theorem run {G:GF} {X:Rule} (hG:GOK G) (hX:RuleOK G X) {S:Known} (hS:CallOK Tryz.prog G S) (m:Nat):CallOK Tryz.prog G (FN X tyF fn S m):=sound hG hX tyF_ok mixed fok hS m
end
section
structure Bd where
 ins:List V
 nm:List (Nat × Nat × Option Nat)
mutual
def Bd.sub (B:Bd):V → Option V
 | .int k n => some (.int k n)
 | .bool b => some (.bool b)
 | .str s => some (.str s)
 | .nilptr => some .nilptr
 | .nilsl => some .nilsl
 | .nilfn => some .nilfn
 | .nilif => some .nilif
 | .gptr g o => some (.gptr g o)
 | .sym k j lo hi => match B.ins[j]? with
  | some v => if v.kindIs k = true ∧ lo ≤ v.lo ∧ v.hi ≤ hi then some v else none
  | none => none
 | .ptr b o => if b < B.ins.length then none else (B.nm[b - B.ins.length]?).map fun p => .ptr p.1 (p.2.1 + o)
 | .sl b o len lim => if b < B.ins.length then none else (B.nm[b - B.ins.length]?).map fun p => .sl p.1 (p.2.1 + o) len (match lim with | some c => some c | none => p.2.2.map fun c => c - o)
 | .fn f l => (B.subs l).map (.fn f)
 | .agg l => (B.subs l).map .agg
 | .tup l => (B.subs l).map .tup
 | _ => none
def Bd.subs (B:Bd):List V → Option (List V)
 | [] => some []
 | v :: vs => match B.sub v with
  | some x => (B.subs vs).map (x :: ·)
  | none => none
end
def Bd.pl (B:Bd) (φ:Pl):Pl:=fun i =>
 if i < B.ins.length then (B.ins[i]?).bind fun v => (v.num φ).map fun n => (0,0,0,n)
 else (B.nm[i - B.ins.length]?).bind fun p => (φ p.1).map fun q => (q.1,q.2.1 + p.2.1,(match p.2.2 with | some c => c | none => q.2.2.1 - p.2.1),0)
section
variable {B:Bd} {φ:Pl}
theorem kind_num {v:V} {k:IntKind} {u:Value} (hk:v.kindIs k = true) (h:v.conc φ = some u):∃ n,u = .int k n ∧ v.num φ = some n:=by
 cases v <;> simp [V.kindIs] at hk
 ·subst hk; simp only [V.conc,Option.some.injEq] at h; subst h; exact ⟨_,rfl,rfl⟩
 ·subst hk; exact knd_conc rfl h
mutual
theorem Bd.sub_conc:∀ (v0:V) {v:V} {u:Value},B.sub v0 = some v → v.conc φ = some u → v0.conc (B.pl φ) = some u
 | .int k n,v,u,h,hu | .bool b,v,u,h,hu | .str s,v,u,h,hu | .nilptr,v,u,h,hu | .nilsl,v,u,h,hu | .nilfn,v,u,h,hu | .nilif,v,u,h,hu | .gptr g o,v,u,h,hu => by
  simp only [Bd.sub,Option.some.injEq] at h; subst h
  simpa [V.conc] using hu
 | .sym k j lo hi,v,u,h,hu => by
  simp only [Bd.sub] at h
  split at h
  ·rename_i x hx
   split at h
   ·rename_i hc
    injection h with h; subst h
    obtain ⟨n,rfl,hn⟩:=kind_num hc.1 hu
    have hb:=V.bnd hn
    have hlt:j < B.ins.length:=(List.getElem?_eq_some_iff.1 hx).1
    have hp:B.pl φ j = some (0,0,0,n):=by
     unfold Bd.pl
     rw [if_pos hlt,hx,Option.bind_some,hn]; rfl
    have h1:lo ≤ n:=by omega
    have h2:n ≤ hi:=by omega
    simp [V.conc,hp,h1,h2]
   ·cases h
  ·cases h
 | .ptr b o,v,u,h,hu => by
  simp only [Bd.sub] at h
  split at h
  ·cases h
  ·rename_i hb
   simp only [Option.map_eq_some_iff] at h
   obtain ⟨p,hp,rfl⟩:=h
   simp only [V.conc,Option.map_eq_some_iff] at hu ⊢
   obtain ⟨q,hq,rfl⟩:=hu
   refine ⟨_,by unfold Bd.pl; rw [if_neg hb,hp,Option.bind_some,hq]; rfl,?_⟩
   simp only [Nat.add_assoc]
 | .sl b o len lim,v,u,h,hu => by
  simp only [Bd.sub] at h
  split at h
  ·cases h
  ·rename_i hb
   simp only [Option.map_eq_some_iff] at h
   obtain ⟨p,hp,rfl⟩:=h
   simp only [V.conc,Option.map_eq_some_iff] at hu ⊢
   obtain ⟨q,hq,rfl⟩:=hu
   refine ⟨_,by unfold Bd.pl; rw [if_neg hb,hp,Option.bind_some,hq]; rfl,?_⟩
   simp only [Nat.add_assoc]
   cases lim with
   | some c => rfl
   | none =>
    cases hc:p.2.2 with
    | some c => simp
    | none => simp [Nat.sub_sub]
 | .fn f l,v,u,h,hu => by
  simp only [Bd.sub,Option.map_eq_some_iff] at h
  obtain ⟨l',hl,rfl⟩:=h
  simp only [V.conc,Option.map_eq_some_iff] at hu ⊢
  obtain ⟨us,hus,rfl⟩:=hu
  exact ⟨us,Bd.subs_conc l hl hus,rfl⟩
 | .agg l,v,u,h,hu => by
  simp only [Bd.sub,Option.map_eq_some_iff] at h
  obtain ⟨l',hl,rfl⟩:=h
  simp only [V.conc,Option.map_eq_some_iff] at hu ⊢
  obtain ⟨us,hus,rfl⟩:=hu
  exact ⟨us,Bd.subs_conc l hl hus,rfl⟩
 | .tup l,v,u,h,hu => by
  simp only [Bd.sub,Option.map_eq_some_iff] at h
  obtain ⟨l',hl,rfl⟩:=h
  simp only [V.conc,Option.map_eq_some_iff] at hu ⊢
  obtain ⟨us,hus,rfl⟩:=hu
  exact ⟨us,Bd.subs_conc l hl hus,rfl⟩
 | .symb i,_,_,h,_ => by simp [Bd.sub] at h
 | .at b o i n,_,_,h,_ => by simp [Bd.sub] at h
 | .among ss i,_,_,h,_ => by simp [Bd.sub] at h
 | .cut _ _ _,_,_,h,_ => by simp [Bd.sub] at h
theorem Bd.subs_conc:∀ (vs:List V) {ws:List V} {us:List Value},B.subs vs = some ws → concs φ ws = some us → concs (B.pl φ) vs = some us
 | [],ws,us,h,hu => by
  simp only [Bd.subs,Option.some.injEq] at h; subst h
  simpa [concs] using hu
 | v :: vs,ws,us,h,hu => by
  simp only [Bd.subs] at h
  split at h
  ·rename_i x hx
   simp only [Option.map_eq_some_iff] at h
   obtain ⟨ys,hys,rfl⟩:=h
   obtain ⟨u,us',h1,h2,rfl⟩:=concs_cons.1 hu
   exact concs_cons.2 ⟨u,us',Bd.sub_conc v hx h1,Bd.subs_conc vs hys h2,rfl⟩
  ·cases h
end
end
def small (n:Nat) (rows:List (List V)):Mem:=List.replicate n .dead ++ rows.map .ro
structure Bd.fits (B:Bd) (M:Mem) (rows:List (List V)):Prop where
 len:B.nm.length = rows.length
 row:∀ (i:Nat) (cs0:List V) (p:Nat × Nat × Option Nat),rows[i]? = some cs0 → B.nm[i]? = some p → ∃ cs,B.subs cs0 = some cs ∧ rd M p.1 p.2.1 cs0.length = some cs ∧
  (match p.2.2 with | some c => cs0.length ≤ c | none => p.2.1 + cs0.length ≤ known M p.1)
section
variable {G:GF} {prot:Pr} {W0 w:World} {φ:Pl} {M:Mem} {B:Bd}
theorem small_get {n:Nat} {rows:List (List V)} {i:Nat} {k:Blk} (h:(small n rows)[i]? = some k):(i < n ∧ k = .dead) ∨ ∃ cs,n ≤ i ∧ rows[i - n]? = some cs ∧ k = .ro cs:=by
 unfold small at h
 by_cases hi:i < n
 ·rw [List.getElem?_append_left (by simpa using hi),List.getElem?_replicate,if_pos hi] at h
  injection h with h; exact .inl ⟨hi,h.symm⟩
 ·rw [List.getElem?_append_right (by simp; omega),List.length_replicate,List.getElem?_map,Option.map_eq_some_iff] at h
  obtain ⟨cs,h1,h2⟩:=h
  exact .inr ⟨cs,by omega,h1,h2.symm⟩
theorem rd_row {M:Mem} {b o n:Nat} {vs:List V} (h:rd M b o n = some vs):∃ k,M[b]? = some k ∧ k.isRow = true:=by
 unfold rd at h
 cases hb:M[b]? with
 | none => simp [hb] at h
 | some k =>
  cases k with
  | dead => simp [hb,Blk.cells] at h
  | eqn d v => simp [hb,Blk.cells] at h
  | own cs gs => exact ⟨_,rfl,rfl⟩
  | ro cs => exact ⟨_,rfl,rfl⟩
theorem MR.little (h:MR G prot W0 φ M w) {rows:List (List V)} (hf:B.fits M rows):MR G ⟨ward prot φ M (fun _ => True),(small B.ins.length rows).length,B.pl φ⟩ w (B.pl φ) (small B.ins.length rows) w:=by
 have hlen:(small B.ins.length rows).length = B.ins.length + rows.length:=by simp [small]
 refine h.view _ ?_ ?_ ?_ ?_ ?_
 ·intro i hi
  rw [hlen] at hi
  unfold Bd.pl
  rw [if_neg (by omega),List.getElem?_eq_none_iff.2 (by rw [hf.len]; omega)]; rfl
 ·intro i cs gs hi
  rcases small_get hi with ⟨_,h2⟩ | ⟨_,_,_,h2⟩ <;> cases h2
 ·rintro i j b c k l hi _ _ _ _ _ _ _ ⟨cs,gs,rfl⟩ _
  rcases small_get hi with ⟨_,h2⟩ | ⟨_,_,_,h2⟩ <;> cases h2
 ·intro i cs hi
  rcases small_get hi with ⟨_,h2⟩ | ⟨cs0,h1,h2,h3⟩
  ·cases h2
  ·injection h3 with h3; subst h3
   have hlt:i - B.ins.length < B.nm.length:=by rw [hf.len]; exact (List.getElem?_eq_some_iff.1 h2).1
   have hp:=List.getElem?_eq_getElem hlt
   generalize B.nm[i - B.ins.length] = p at hp
   obtain ⟨vs,hs,hr,hc⟩:=hf.row _ _ p h2 hp
   obtain ⟨q,us,hq,h4,h5,h6⟩:=h.read hr
   obtain ⟨k,hk1,hk2⟩:=rd_row hr
   refine ⟨(q.1,q.2.1 + p.2.1,(match p.2.2 with | some c => c | none => q.2.2.1 - p.2.1),0),us,p.1,q,k,?_,Bd.subs_conc _ hs h4,?_,hq,rfl,hk1,hk2,?_⟩
   ·unfold Bd.pl
    rw [if_neg (by omega),hp,Option.bind_some,hq]; rfl
   ·intro j u hu
    exact h6 j u hu
   ·cases hcc:p.2.2 with
    | some c => rw [hcc] at hc; exact hc
    | none =>
     rw [hcc] at hc
     have:=h.room hq
     simp only at hc ⊢
     omega
 ·intro i d v hi
  rcases small_get hi with ⟨_,h2⟩ | ⟨_,_,_,h2⟩ <;> cases h2
end
end
section
def plOf (acc:List (Option Int)):Pl:=fun j => match acc[j]? with
 | some (some n) => some (0,0,0,n)
 | _ => none
def Agree (acc:List (Option Int)) (φ:Pl):Prop:=∀ (j:Nat) (n:Int),acc[j]? = some (some n) → ∃ p,φ j = some p ∧ p.2.2.2 = n
def okV (fl:List Bool):V → Bool
 | .int _ _ => true
 | .sym _ j _ _ => (fl[j]?).getD false
 | _ => false
def okD (fl:List Bool):Def → Bool
 | .bin _ _ a b => okV fl a && okV fl b
 | .shift _ _ a b => okV fl a && okV fl b
 | .conv _ a => okV fl a
 | .look _ _ a => okV fl a
 | .call _ _ _ l => l.all (okV fl)
def Flags (fl:List Bool) (acc:List (Option Int)):Prop:=∀ j:Nat,(fl[j]?).getD false = true → ∃ n,acc[j]? = some (some n)
section
variable {G:GF} {φ:Pl} {acc:List (Option Int)} {fl:List Bool}
theorem okV_num (hA:Agree acc φ) (hF:Flags fl acc) {v:V} {n:Int} (h:okV fl v = true) (hv:v.num φ = some n):v.num (plOf acc) = some n:=by
 rcases V.num_cases hv with ⟨k,rfl⟩ | ⟨k,i,lo,hi,p,rfl,hp,rfl,h1,h2⟩
 ·rfl
 ·obtain ⟨m,hm⟩:=hF i h
  obtain ⟨q,hq,hqm⟩:=hA i m hm
  rw [hp] at hq; injection hq with hq; subst hq
  have hpl:plOf acc i = some (0,0,0,m):=by unfold plOf; rw [hm]
  subst hqm
  simp [V.num,V.conc,hpl,h1,h2]
theorem okVs_num (hA:Agree acc φ) (hF:Flags fl acc):∀ {l:List V} {ns:List Int},l.all (okV fl) = true → nums φ l = some ns → nums (plOf acc) l = some ns
 | [],ns,_,h => by simpa [nums] using h
 | v :: l,ns,ho,h => by
  simp only [List.all_cons,Bool.and_eq_true] at ho
  simp only [nums,Option.bind_eq_some_iff,Option.map_eq_some_iff] at h ⊢
  obtain ⟨u,h1,l',h2,rfl⟩:=h
  exact ⟨u,okV_num hA hF ho.1 h1,l',okVs_num hA hF ho.2 h2,rfl⟩
theorem okD_val (hA:Agree acc φ) (hF:Flags fl acc) {d:Def} {x:V} (h:okD fl d = true) (hd:d.val G φ = some x):d.val G (plOf acc) = some x:=by
 cases d <;> simp only [okD,Bool.and_eq_true] at h <;> simp only [Def.val,Option.bind_eq_some_iff,Option.map_eq_some_iff] at hd ⊢
 ·obtain ⟨a,h1,b,h2,h3⟩:=hd; exact ⟨a,okV_num hA hF h.1 h1,b,okV_num hA hF h.2 h2,h3⟩
 ·obtain ⟨a,h1,b,h2,h3⟩:=hd; exact ⟨a,okV_num hA hF h.1 h1,b,okV_num hA hF h.2 h2,h3⟩
 ·obtain ⟨a,h1,h3⟩:=hd; exact ⟨a,okV_num hA hF h h1,h3⟩
 ·obtain ⟨a,h1,h3⟩:=hd; exact ⟨a,okV_num hA hF h h1,h3⟩
 ·obtain ⟨a,h1,h3⟩:=hd; exact ⟨a,okVs_num hA hF h h1,h3⟩
def numOf (G:GF) (acc:List (Option Int)) (d:Def):Option Int :=
 match d.val G (plOf acc) with
 | some (.int _ n) => some n
 | some (.bool b) => some (if b then 1 else 0)
 | _ => none
def sol1 (G:GF) (acc:List (Option Int)) (k:Blk):Option Int :=
 match k with
 | .eqn d (.sym _ i _ _) => if i = acc.length then numOf G acc d else none
 | _ => none
def flag1 (fl:List Bool) (k:Blk):Bool :=
 match k with
 | .eqn d (.sym _ i _ _) => decide (i = fl.length) && okD fl d
 | _ => false
def solve (G:GF):Mem → List (Option Int) → List (Option Int)
 | [],acc => acc
 | k :: M,acc => solve G M (acc ++ [sol1 G acc k])
def flags:Mem → List Bool → List Bool
 | [],fl => fl
 | k :: M,fl => flags M (fl ++ [flag1 fl k])
theorem solve_ok:∀ {M:Mem} {acc:List (Option Int)} {fl:List Bool},fl.length = acc.length → Agree acc φ → Flags fl acc →
  (∀ (i:Nat) (d:Def) (v:V),M[i]? = some (.eqn d v) → ∃ (x:V) (u:Value),d.val G φ = some x ∧ x.conc .no = some u ∧ v.conc φ = some u) → Agree (solve G M acc) φ ∧ Flags (flags M fl) (solve G M acc)
 | [],acc,fl,_,hA,hF,_ => ⟨hA,hF⟩
 | k :: M,acc,fl,hl,hA,hF,hE => by
  have hE':∀ (i:Nat) (d:Def) (v:V),M[i]? = some (.eqn d v) → ∃ (x:V) (u:Value),d.val G φ = some x ∧ x.conc .no = some u ∧ v.conc φ = some u:=fun i d v h => hE (i + 1) d v (by simpa using h)
  have hA':Agree (acc ++ [sol1 G acc k]) φ:=by
   intro j n hj
   by_cases hlt:j < acc.length
   ·rw [List.getElem?_append_left hlt] at hj; exact hA j n hj
   ·rw [List.getElem?_append_right (by omega)] at hj
    have hje:j = acc.length:=by
     have:=(List.getElem?_eq_some_iff.1 hj).1; simp at this; omega
    subst hje
    simp only [Nat.sub_self,List.getElem?_cons_zero,Option.some.injEq] at hj
    have up:∀ {d:Def} {y:V},d.val G (plOf acc) = some y → ∀ {x:V},d.val G φ = some x → x = y:=by
     intro d y hy x hx
     have nm:∀ {v:V} {n:Int},v.num (plOf acc) = some n → v.num φ = some n:=by
      intro v n hv
      rcases V.num_cases hv with ⟨k,rfl⟩ | ⟨k,i,lo,hi,p,rfl,hp,rfl,h1,h2⟩
      ·rfl
      ·unfold plOf at hp
       split at hp
       ·rename_i m hm
        injection hp with hp; subst hp
        obtain ⟨q,hq,hqm⟩:=hA i m hm
        simp only at h1 h2 ⊢
        simp [V.num,V.conc,hq,hqm,h1,h2]
       ·cases hp
     have nms:∀ {l:List V} {ns:List Int},nums (plOf acc) l = some ns → nums φ l = some ns:=by
      intro l
      induction l with
      | nil => intro ns h; simpa [nums] using h
      | cons v l ih =>
       intro ns h
       simp only [nums,Option.bind_eq_some_iff,Option.map_eq_some_iff] at h ⊢
       obtain ⟨u,h1,l',h2,rfl⟩:=h
       exact ⟨u,nm h1,l',ih h2,rfl⟩
     have:d.val G φ = some y:=by
      cases d <;> simp only [Def.val,Option.bind_eq_some_iff,Option.map_eq_some_iff] at hy ⊢
      ·obtain ⟨a,h1,b,h2,h3⟩:=hy; exact ⟨a,nm h1,b,nm h2,h3⟩
      ·obtain ⟨a,h1,b,h2,h3⟩:=hy; exact ⟨a,nm h1,b,nm h2,h3⟩
      ·obtain ⟨a,h1,h3⟩:=hy; exact ⟨a,nm h1,h3⟩
      ·obtain ⟨a,h1,h3⟩:=hy; exact ⟨a,nm h1,h3⟩
      ·obtain ⟨a,h1,h3⟩:=hy; exact ⟨a,nms h1,h3⟩
     rw [hx] at this; injection this
    unfold sol1 at hj
    split at hj
    ·rename_i d kd i lo hi
     split at hj
     ·rename_i hi'
      subst hi'
      obtain ⟨x,u,h1,h2,h3⟩:=hE 0 d _ rfl
      unfold numOf at hj
      split at hj
      ·rename_i kk m hm
       injection hj with hj; subst hj
       have:=up hm h1; subst this
       simp only [V.conc,Option.some.injEq] at h2; subst h2
       simp only [V.conc,Option.bind_eq_some_iff] at h3
       obtain ⟨p,hp,h3⟩:=h3
       split at h3
       ·injection h3 with h3; injection h3 with _ h3; exact ⟨p,hp,h3⟩
       ·cases h3
      ·rename_i b hm
       have:=up hm h1; subst this
       simp only [V.conc,Option.some.injEq] at h2; subst h2
       simp only [V.conc,Option.bind_eq_some_iff] at h3
       obtain ⟨p,hp,h3⟩:=h3
       split at h3 <;> cases h3
      ·cases hj
     ·cases hj
    ·cases hj
  have hF':Flags (fl ++ [flag1 fl k]) (acc ++ [sol1 G acc k]):=by
   intro j hj
   by_cases hlt:j < fl.length
   ·rw [List.getElem?_append_left hlt] at hj
    obtain ⟨n,hn⟩:=hF j hj
    exact ⟨n,by rw [List.getElem?_append_left (by omega)]; exact hn⟩
   ·by_cases hje:j = fl.length
    ·subst hje
     rw [List.getElem?_append_right (Nat.le_refl _)] at hj
     simp only [Nat.sub_self,List.getElem?_cons_zero,Option.getD_some] at hj
     unfold flag1 at hj
     split at hj
     ·rename_i d kd i lo hi
      simp only [Bool.and_eq_true,decide_eq_true_eq] at hj
      obtain ⟨hi',hd⟩:=hj
      obtain ⟨x,u,h1,h2,h3⟩:=hE 0 d _ rfl
      have h4:=okD_val (G:=G) hA hF hd h1
      simp only [V.conc,Option.bind_eq_some_iff] at h3
      obtain ⟨p,hp,h3⟩:=h3
      split at h3
      ·injection h3 with h3; subst h3
       have hx:=conc_no_int h2
       subst hx
       refine ⟨p.2.2.2,?_⟩
       rw [List.getElem?_append_right (by omega),hl,Nat.sub_self]
       simp [sol1,hi',hl,numOf,h4]
      ·cases h3
     ·cases hj
    ·rw [List.getElem?_eq_none_iff.2 (by simp; omega)] at hj
     simp at hj
  exact solve_ok (M:=M) (acc:=acc ++ [sol1 G acc k]) (fl:=fl ++ [flag1 fl k]) (by simp [hl]) hA' hF' hE'
end
end
section
def idxOf (b:Nat):List Nat → Nat → Option Nat
 | [],_ => none
 | a :: l,i => if a = b then some i else idxOf b l (i + 1)
theorem idxOf_get {b:Nat}:∀ {l:List Nat} {i j:Nat},idxOf b l i = some j → i ≤ j ∧ l[j - i]? = some b
 | [],_,_,h => by cases h
 | a :: l,i,j,h => by
  unfold idxOf at h
  split at h
  ·rename_i e
   injection h with h; subst h e
   exact ⟨Nat.le_refl _,by simp⟩
  ·obtain ⟨h1,h2⟩:=idxOf_get h
   refine ⟨by omega,?_⟩
   rw [show j - i = (j - (i + 1)) + 1 by omega,List.getElem?_cons_succ]; exact h2
mutual
def rep (sol:List (Option Int)) (bl:List Nat) (base:Nat):V → Option V
 | .int k n => some (.int k n)
 | .bool b => some (.bool b)
 | .str s => some (.str s)
 | .nilptr => some .nilptr
 | .nilsl => some .nilsl
 | .nilfn => some .nilfn
 | .nilif => some .nilif
 | .sym k q _ _ => match sol[q]? with
  | some (some x) => some (.int k x)
  | _ => none
 | .ptr b o => (idxOf b bl 0).map fun i => .ptr (base + i) o
 | .sl b o len lim => (idxOf b bl 0).map fun i => .sl (base + i) o len lim
 | .fn f l => (reps sol bl base l).map (.fn f)
 | .agg l => (reps sol bl base l).map .agg
 | .tup l => (reps sol bl base l).map .tup
 | _ => none
def reps (sol:List (Option Int)) (bl:List Nat) (base:Nat):List V → Option (List V)
 | [] => some []
 | v :: vs => match rep sol bl base v with
  | some x => (reps sol bl base vs).map (x :: ·)
  | none => none
end
section
variable {sol:List (Option Int)} {bl:List Nat} {base:Nat} {φ1 φ':Pl}
mutual
theorem rep_conc (hA:Agree sol φ1) (hb:∀ (i b:Nat),bl[i]? = some b → φ' (base + i) = φ1 b):∀ (x:V) {y:V} {u:Value},rep sol bl base x = some y → x.conc φ1 = some u → y.conc φ' = some u
 | .int _ _,y,u,h,hu | .bool _,y,u,h,hu | .str _,y,u,h,hu | .nilptr,y,u,h,hu | .nilsl,y,u,h,hu | .nilfn,y,u,h,hu | .nilif,y,u,h,hu => by
  simp only [rep,Option.some.injEq] at h; subst h
  simpa [V.conc] using hu
 | .sym k q lo hi,y,u,h,hu => by
  simp only [rep] at h
  split at h
  ·rename_i n hn
   injection h with h; subst h
   obtain ⟨p,hp,rfl⟩:=hA q n hn
   simp only [V.conc,hp,Option.bind_some] at hu
   split at hu
   ·exact hu
   ·cases hu
  ·cases h
 | .ptr b o,y,u,h,hu => by
  simp only [rep,Option.map_eq_some_iff] at h
  obtain ⟨i,hi,rfl⟩:=h
  have:=(idxOf_get hi).2
  rw [Nat.sub_zero] at this
  simp only [V.conc,hb i b this]; exact hu
 | .sl b o len lim,y,u,h,hu => by
  simp only [rep,Option.map_eq_some_iff] at h
  obtain ⟨i,hi,rfl⟩:=h
  have:=(idxOf_get hi).2
  rw [Nat.sub_zero] at this
  simp only [V.conc,hb i b this]; exact hu
 | .fn f l,y,u,h,hu => by
  simp only [rep,Option.map_eq_some_iff] at h
  obtain ⟨l',hl,rfl⟩:=h
  simp only [V.conc,Option.map_eq_some_iff] at hu ⊢
  obtain ⟨us,hus,rfl⟩:=hu
  exact ⟨us,reps_conc hA hb l hl hus,rfl⟩
 | .agg l,y,u,h,hu => by
  simp only [rep,Option.map_eq_some_iff] at h
  obtain ⟨l',hl,rfl⟩:=h
  simp only [V.conc,Option.map_eq_some_iff] at hu ⊢
  obtain ⟨us,hus,rfl⟩:=hu
  exact ⟨us,reps_conc hA hb l hl hus,rfl⟩
 | .tup l,y,u,h,hu => by
  simp only [rep,Option.map_eq_some_iff] at h
  obtain ⟨l',hl,rfl⟩:=h
  simp only [V.conc,Option.map_eq_some_iff] at hu ⊢
  obtain ⟨us,hus,rfl⟩:=hu
  exact ⟨us,reps_conc hA hb l hl hus,rfl⟩
 | .gptr _ _,_,_,h,_ => by simp [rep] at h
 | .symb _,_,_,h,_ => by simp [rep] at h
 | .at _ _ _ _,_,_,h,_ => by simp [rep] at h
 | .among _ _,_,_,h,_ => by simp [rep] at h
 | .cut _ _ _,_,_,h,_ => by simp [rep] at h
theorem reps_conc (hA:Agree sol φ1) (hb:∀ (i b:Nat),bl[i]? = some b → φ' (base + i) = φ1 b):∀ (xs:List V) {ys:List V} {us:List Value},reps sol bl base xs = some ys → concs φ1 xs = some us → concs φ' ys = some us
 | [],ys,us,h,hu => by
  simp only [reps,Option.some.injEq] at h; subst h
  simpa [concs] using hu
 | x :: xs,ys,us,h,hu => by
  simp only [reps] at h
  split at h
  ·rename_i y hy
   simp only [Option.map_eq_some_iff] at h
   obtain ⟨zs,hzs,rfl⟩:=h
   obtain ⟨u,us',h1,h2,rfl⟩:=concs_cons.1 hu
   exact concs_cons.2 ⟨u,us',rep_conc hA hb x hy h1,reps_conc hA hb xs hzs h2,rfl⟩
  ·cases h
end
def news (sol:List (Option Int)) (bl:List Nat) (base:Nat) (M:Mem):List Nat → Option (List Blk)
 | [] => some []
 | b :: l => match M[b]? with
  | some (.own cs gs) => match reps sol bl base cs with
   | some cs' => (news sol bl base M l).map (.own cs' gs :: ·)
   | none => none
  | _ => none
theorem news_get {M:Mem}:∀ {l:List Nat} {N:List Blk},news sol bl base M l = some N → N.length = l.length ∧ ∀ (i b:Nat),l[i]? = some b → ∃ cs gs cs',M[b]? = some (.own cs gs) ∧ reps sol bl base cs = some cs' ∧ N[i]? = some (.own cs' gs)
 | [],N,h => by
  simp only [news,Option.some.injEq] at h; subst h
  exact ⟨rfl,fun i b hb => by simp at hb⟩
 | b :: l,N,h => by
  unfold news at h
  split at h
  ·rename_i cs gs hb
   split at h
   ·rename_i cs' hcs
    simp only [Option.map_eq_some_iff] at h
    obtain ⟨N',h1,rfl⟩:=h
    obtain ⟨h2,h3⟩:=news_get h1
    refine ⟨by simp [h2],?_⟩
    intro i b' hb'
    cases i with
    | zero => simp at hb'; subst hb'; exact ⟨cs,gs,cs',hb,hcs,by simp⟩
    | succ i => simpa using h3 i b' (by simpa using hb')
   ·cases h
  ·cases h
end
theorem nums_get {φ:Pl}:∀ {vs:List V} {ns:List Int},nums φ vs = some ns → ∀ (j:Nat) (n:Int),ns[j]? = some n → ∃ v,vs[j]? = some v ∧ v.num φ = some n
 | [],ns,h,j,n,hj => by simp only [nums,Option.some.injEq] at h; subst h; simp at hj
 | v :: vs,ns,h,j,n,hj => by
  simp only [nums,Option.bind_eq_some_iff,Option.map_eq_some_iff] at h
  obtain ⟨u,h1,l,h2,rfl⟩:=h
  cases j with
  | zero => simp at hj; subst hj; exact ⟨v,by simp,h1⟩
  | succ j => simpa using nums_get h2 j n (by simpa using hj)
theorem nums_len {φ:Pl}:∀ {vs:List V} {ns:List Int},nums φ vs = some ns → ns.length = vs.length
 | [],ns,h => by simp only [nums,Option.some.injEq] at h; subst h; rfl
 | v :: vs,ns,h => by
  simp only [nums,Option.bind_eq_some_iff,Option.map_eq_some_iff] at h
  obtain ⟨u,h1,l,h2,rfl⟩:=h
  simp [nums_len h2]
section
variable {P:Program} {G:GF} {B:Bd} {M M0':Mem} {rows:List (List V)}
theorem sumcall {f:FuncId} {args0 args:List V} {v0:V} (hc:ACall P G f args0 (small B.ins.length rows) v0 M0') (ha:B.subs args0 = some args) (hf:B.fits M rows) {bl:List Nat} (hnd:∀ i j b:Nat,bl[i]? = some b → bl[j]? = some b → i = j)
  {prot:Pr} {W0 w:World} {φ:Pl} (hM:MR G prot W0 φ M w) {us:List Value} (hus:concs φ args = some us) {ns:List Int} (hns:nums φ B.ins = some ns) {v:V} {N:List Blk}
  (hv:rep (solve G (M0'.drop B.ins.length) (ns.map some)) bl M.length v0 = some v) (hN:news (solve G (M0'.drop B.ins.length) (ns.map some)) bl M.length M0' bl = some N) :
  Calls P f us.toArray w (Back G prot W0 φ v (M ++ N)):=by
 have hsm:=hM.little hf
 have hnl:=nums_len hns
 refine Calls.mono (hc.2 _ w (B.pl φ) w us hsm (Bd.subs_conc _ ha hus)) ?_
 intro e w' hb
 cases e with
 | panicked c => exact hb.elim
 | outgrown => exact hb.elim
 | returned u =>
  obtain ⟨φ1,hle,hv1,hM1⟩:=hb
  have hA0:Agree (ns.map some) φ1:=by
   intro j n hj
   rw [List.getElem?_map,Option.map_eq_some_iff] at hj
   obtain ⟨n',hj,he⟩:=hj
   injection he with he; subst he
   obtain ⟨x,hx,hxn⟩:=nums_get hns j n' hj
   refine ⟨(0,0,0,n'),hle _ _ ?_,rfl⟩
   unfold Bd.pl
   rw [if_pos (List.getElem?_eq_some_iff.1 hx).1,hx,Option.bind_some,hxn]; rfl
  have hF0:Flags (List.replicate ns.length true) (ns.map some):=by
   intro j hj
   by_cases hlt:j < ns.length
   ·exact ⟨ns[j],by simp [hlt]⟩
   ·rw [List.getElem?_eq_none_iff.2 (by simp; omega)] at hj; simp at hj
  have hE:∀ (i:Nat) (d:Def) (x:V),(M0'.drop B.ins.length)[i]? = some (.eqn d x) → ∃ (y:V) (u:Value),d.val G φ1 = some y ∧ y.conc .no = some u ∧ x.conc φ1 = some u:=by
   intro i d x hi
   rw [List.getElem?_drop] at hi
   exact hM1.eqn _ d x hi
  obtain ⟨hA,_⟩:=solve_ok (fl:=List.replicate ns.length true) (by simp) hA0 hF0 hE
  generalize solve G (M0'.drop B.ins.length) (ns.map some) = sol at hv hN hA
  obtain ⟨hNl,hNg⟩:=news_get hN
  let φ':Pl:=fun b => if M.length ≤ b ∧ b < M.length + bl.length then (bl[b - M.length]?).bind φ1 else φ b
  have hb':∀ (i b:Nat),bl[i]? = some b → φ' (M.length + i) = φ1 b:=by
   intro i b hi
   have hlt:=(List.getElem?_eq_some_iff.1 hi).1
   show (if _ then _ else _) = _
   rw [if_pos ⟨by omega,by omega⟩,Nat.add_sub_cancel_left,hi]; rfl
  have hold:∀ b,b < M.length → φ' b = φ b:=fun b hb => if_neg (by omega)
  have hle':φ.le φ':=by
   intro b p hp
   by_cases e:b < M.length
   ·rw [hold b e]; exact hp
   ·rw [hM.fresh b (by omega)] at hp; cases hp
  refine ⟨φ',hle',rep_conc hA hb' _ hv hv1,?_⟩
  have new:∀ {b:Nat} {k:Blk},(M ++ N)[b]? = some k → ¬ b < M.length → ∃ i b0 cs gs cs',b = M.length + i ∧ bl[i]? = some b0 ∧ M0'[b0]? = some (.own cs gs) ∧ reps sol bl M.length cs = some cs' ∧ k = .own cs' gs:=by
   intro b k hb hnlt
   rw [List.getElem?_append_right (by omega)] at hb
   have hlt:b - M.length < bl.length:=by rw [← hNl]; exact (List.getElem?_eq_some_iff.1 hb).1
   have hbl:=List.getElem?_eq_getElem hlt
   obtain ⟨cs,gs,cs',h1,h2,h3⟩:=hNg _ _ hbl
   rw [hb] at h3; injection h3 with h3
   exact ⟨b - M.length,_,cs,gs,cs',by omega,hbl,h1,h2,h3⟩
  have old:∀ {b:Nat} {k:Blk},(M ++ N)[b]? = some k → b < M.length → M[b]? = some k:=fun hb hlt => by rwa [List.getElem?_append_left hlt] at hb
  refine hM.graft hM1 (fun g hg => .inl hg) ?_ ?_ ?_ ?_ ?_ ?_ ?_
  ·have:=hM.nbl; simp; omega
  ·intro b hb
   rw [hold b (by have:=hM.nbl; omega)]; exact hM.base b hb
  ·intro b hb
   simp only [List.length_append,hNl] at hb
   have:φ' b = φ b:=if_neg (by omega)
   rw [this]; exact hM.fresh b (by omega)
  ·intro b cs gs hb
   by_cases hlt:b < M.length
   ·have hb:=old hb hlt
    exact .inl ⟨hb,hold b hlt,fun p hp => .inr ⟨b,_,p,hb,rfl,trivial,hp,rfl⟩,fun us hus => concs_mono hle' _ hus⟩
   ·obtain ⟨i,b0,ds,gs0,cs',rfl,h1,h2,h3,h4⟩:=new hb hlt
    injection h4 with h4 h5; subst h4 h5
    exact .inr ⟨b0,ds,h2,hb' i b0 h1,fun us hus => reps_conc hA hb' _ h3 hus⟩
  ·intro b cs hb
   by_cases hlt:b < M.length
   ·have hb:=old hb hlt
    exact ⟨hb,hold b hlt,fun p hp => .inr ⟨b,_,p,hb,rfl,trivial,hp,rfl⟩,fun us hus => concs_mono hle' _ hus⟩
   ·obtain ⟨_,_,_,_,_,_,_,_,_,h4⟩:=new hb hlt
    cases h4
  ·rintro b c x y k l hb hc hk hl hne hbx hcy ⟨ds,gs,hx⟩ ⟨ds',gs',hy⟩ rfl
   obtain ⟨p,_,_,_,hp,hnp,_⟩:=hM1.own x ds gs hx
   rw [hp] at hbx hcy
   have isnew:∀ {b:Nat} {k:Blk},(M ++ N)[b]? = some k → k.isRow = true → φ' b = some p → ∃ i b0 cs gs,b = M.length + i ∧ bl[i]? = some b0 ∧ M0'[b0]? = some (.own cs gs) ∧ φ1 b0 = some p:=by
    intro b k hb hk hbp
    by_cases hlt:b < M.length
    ·exfalso
     rw [hold b hlt] at hbp
     exact hnp (.inr ⟨b,k,p,old hb hlt,hk,trivial,hbp,rfl⟩)
    ·obtain ⟨i,b0,cs,gs,_,rfl,h1,h2,_,_⟩:=new hb hlt
     exact ⟨i,b0,cs,gs,rfl,h1,h2,by rw [← hb' i b0 h1]; exact hbp⟩
   obtain ⟨i,b0,cs,gs1,rfl,h1,h2,h3⟩:=isnew hb hk hbx
   obtain ⟨j,c0,cs2,gs2,rfl,h4,h5,h6⟩:=isnew hc hl hcy
   have hij:i ≠ j:=fun e => hne (by rw [e])
   have hbc:b0 ≠ c0:=by
    rintro rfl
    exact hij (hnd i j b0 h1 h4)
   exact hM1.sep b0 c0 cs gs1 _ p p h2 h5 rfl hbc h3 h6 rfl
  ·intro b d x hb
   by_cases hlt:b < M.length
   ·obtain ⟨y,u,h1,h2,h3⟩:=hM.eqn b d x (old hb hlt)
    exact ⟨y,u,Def.val_mono hle' h1,h2,V.conc_mono hle' _ h3⟩
   ·obtain ⟨_,_,_,_,_,_,_,_,_,h4⟩:=new hb hlt
    cases h4
end
end
section
noncomputable section
open Go.Proofs
section
variable {G:GF} {X:Rule}
def noS:Known:=fun _ _ _ => none
theorem noS_ok:CallOK Tryz.prog G noS:=fun _ _ _ _ _ _ h => by cases h
def orS (a b:Known):Known:=fun f args M => match a f args M with
 | some r => some r
 | none => b f args M
theorem orS_ok {a b:Known} (ha:CallOK Tryz.prog G a) (hb:CallOK Tryz.prog G b):CallOK Tryz.prog G (orS a b):=by
 intro f args M v M' ch h
 unfold orS at h
 split at h
 ·rename_i r hr
  injection h with h; subst h
  exact ha _ _ _ _ _ _ hr
 ·exact hb _ _ _ _ _ _ h
def noX:Rule:=fun _ _ => none
theorem noX_ok:RuleOK G noX:=fun _ _ _ _ _ _ h => by cases h
def unaS (X:Rule) (f:Nat) (k:IntKind) (tbl:List Int):Known:=fun g args M =>
 match Nat.beq g f,args with
 | true,[x] => if x.kindIs .u8 = true ∧ 0 ≤ x.lo ∧ x.hi < 256 then (mkInt X M (.look k tbl x)).map fun p => (p.1,p.2.getD M,[]) else none
 | _,_ => none
def unaL (f:Nat) (k:IntKind) (tbl:List Int):Known:=fun g args M =>
 match Nat.beq g f,args with
 | true,[.int .u8 n] => if 0 ≤ n ∧ n < 256 then (tbl[n.toNat]?).map fun y => (.int k y,M,[]) else none
 | _,_ => none
theorem una_call {f:Nat} {k:IntKind} {tbl:List Int} (h:∀ n:Nat,n < 256 → ∃ y,tbl[n]? = some y ∧ ACall Tryz.prog G f [.int .u8 n] [] (.int k y) []) {n:Int} (h0:0 ≤ n) (h1:n < 256) {prot:Pr} {W0 w:World} {φ:Pl} {M:Mem} (hM:MR G prot W0 φ M w) :
  ∃ y,tbl[n.toNat]? = some y ∧ Calls Tryz.prog f #[.int .u8 n] w (Back G prot W0 φ (.int k y) M):=by
 obtain ⟨y,hy,hc⟩:=h n.toNat (by omega)
 refine ⟨y,hy,?_⟩
 have hn:((n.toNat:Nat):Int) = n:=by omega
 rw [hn] at hc
 have:=sumcall (B:=⟨[],[]⟩) (rows:=[]) (M0':=[]) (v0:=.int k y) (args:=[.int .u8 n]) hc rfl ⟨rfl,fun i cs0 p hi => by simp at hi⟩ (bl:=[]) (fun i j b hi => by simp at hi) hM (us:=[.int .u8 n]) (by simp [concs,V.conc]) (ns:=[]) rfl (v:=.int k y) (N:=[]) rfl rfl
 simpa using this
theorem unaS_ok (hG:GOK G) (hX:RuleOK G X) {f:Nat} {k:IntKind} {tbl:List Int} (hp:Plain Tryz.prog f) (h:∀ n:Nat,n < 256 → ∃ y,tbl[n]? = some y ∧ ACall Tryz.prog G f [.int .u8 n] [] (.int k y) []):CallOK Tryz.prog G (unaS X f k tbl):=by
 intro g args M v M' ch hh
 unfold unaS at hh
 split at hh
 ·rename_i x hg
  have:=Nat.eq_of_beq_eq_true hg; subst this
  split at hh
  ·rename_i hc
   simp only [Option.map_eq_some_iff,Prod.mk.injEq] at hh
   obtain ⟨⟨v',m⟩,hm,rfl,rfl,rfl⟩:=hh
   refine ⟨⟨hp,?_⟩,Grow.toL (mkInt_grow hm)⟩
   intro prot W0 φ w us hM hus
   obtain ⟨u,us',hu,hus',rfl⟩:=concs_cons.1 hus
   simp only [concs,Option.some.injEq] at hus'; subst hus'
   obtain ⟨n,rfl,hn⟩:=kind_num hc.1 hu
   have hb:=V.bnd hn
   obtain ⟨y,hy,_⟩:=una_call h (n:=n) (by omega) (by omega) hM
   have h0:0 ≤ n:=by omega
   obtain ⟨φ1,h1,h2,h3⟩:=mkInt_sound hG hX hM hm (k:=k) (n:=y) (by simp only [Def.val,hn,Option.bind_some,h0,if_true,hy,Option.map_some])
   obtain ⟨y',hy',hcall⟩:=una_call h (n:=n) (by omega) (by omega) h3
   rw [hy] at hy'; injection hy' with hy'; subst hy'
   refine Calls.mono hcall ?_
   intro e w' he
   cases e with
   | returned u' =>
    obtain ⟨φ2,a1,a2,a3⟩:=he
    simp only [V.conc,Option.some.injEq] at a2; subst a2
    exact ⟨φ2,Pl.le_trans h1 a1,V.conc_mono a1 _ h2,a3⟩
   | panicked c => exact he.elim
   | outgrown => exact he.elim
  ·cases hh
 ·cases hh
theorem unaL_ok {f:Nat} {k:IntKind} {tbl:List Int} (hp:Plain Tryz.prog f) (h:∀ n:Nat,n < 256 → ∃ y,tbl[n]? = some y ∧ ACall Tryz.prog G f [.int .u8 n] [] (.int k y) []):CallOK Tryz.prog G (unaL f k tbl):=by
 intro g args M v M' ch hh
 unfold unaL at hh
 split at hh
 ·rename_i n hg
  have:=Nat.eq_of_beq_eq_true hg; subst this
  split at hh
  ·rename_i hc
   simp only [Option.map_eq_some_iff,Prod.mk.injEq] at hh
   obtain ⟨y,hy,rfl,rfl,rfl⟩:=hh
   refine ⟨⟨hp,?_⟩,GrowL.refl M⟩
   intro prot W0 φ w us hM hus
   obtain ⟨u,us',hu,hus',rfl⟩:=concs_cons.1 hus
   simp only [concs,Option.some.injEq] at hus'; subst hus'
   simp only [V.conc,Option.some.injEq] at hu; subst hu
   obtain ⟨y',hy',hcall⟩:=una_call h hc.1 hc.2 hM
   rw [hy] at hy'; injection hy' with hy'; subst hy'
   exact hcall
  ·cases hh
 ·cases hh
def unaChk (f:Nat) (k:IntKind):Nat → List Int → Bool
 | _,[] => true
 | n,y :: t => (match FN noX tyF fn noS 6 f [.int .u8 (Int.ofNat n)] [] with
  | some p => (match p.1 with | .int k' z => decide (k = k') && eqI y z | _ => false) && (match p.2.1 with | [] => true | _ => false)
  | none => false) && unaChk f k (n + 1) t
theorem una_of_chk (hG:GOK G) {f:Nat} {k:IntKind}:∀ {t:List Int} {n:Nat},unaChk f k n t = true → ∀ i,i < t.length → ∃ y,t[i]? = some y ∧ ACall Tryz.prog G f [.int .u8 ((n + i:Nat):Int)] [] (.int k y) []
 | [],n,_,i,hi => by simp at hi
 | y :: t,n,h,i,hi => by
  simp only [unaChk,Bool.and_eq_true] at h
  cases i with
  | zero =>
   refine ⟨y,by simp,?_⟩
   have h1:=h.1
   split at h1
   ·rename_i p hp
    obtain ⟨v,M',ch⟩:=p
    simp only [Bool.and_eq_true] at h1
    obtain ⟨h2,h3⟩:=h1
    split at h2
    ·rename_i k' z
     simp only [Bool.and_eq_true,decide_eq_true_eq,eqI_iff] at h2
     obtain ⟨rfl,rfl⟩:=h2
     split at h3
     ·exact (run hG noX_ok noS_ok 6 _ _ _ _ _ _ hp).1
     ·cases h3
    ·cases h2
   ·cases h1
  | succ i =>
   obtain ⟨y',h1,h2⟩:=una_of_chk hG h.2 i (by simpa using hi)
   refine ⟨y',by simpa using h1,?_⟩
   rw [show n + (i + 1) = n + 1 + i by omega]; exact h2
end
end
end
section
open Go.Proofs
def sgnT:List Int:=(List.range 256).map fun c => if 65 ≤ c then ((c - 55:Nat):Int) else (((c + 208) % 256:Nat):Int)
theorem plain_of {f:Nat} {v:FnV} (h:fn f = some v):Plain Tryz.prog f:=by
 obtain ⟨g,h1,h2,h3,_⟩:=fok f v h
 exact ⟨g,v.body,h1,h2,h3⟩
theorem chk132:unaChk 132 .u8 0 sgnT = true:=by kernel_rfl
theorem chk149:unaChk 149 .u8 0 sgnT = true:=by kernel_rfl
theorem chk147:unaChk 147 .u32 0 sgnT = true:=by kernel_rfl
theorem sgnT_len:sgnT.length = 256:=by simp [sgnT]
theorem una_known {G:GF} (hG:GOK G) {X:Rule} (hX:RuleOK G X) {f:Nat} {k:IntKind} {t:List Int} (hp:Plain Tryz.prog f) (hl:t.length = 256) (hc:unaChk f k 0 t = true):CallOK Tryz.prog G (orS (unaL f k t) (unaS X f k t)):=by
 have h:∀ n:Nat,n < 256 → ∃ y,t[n]? = some y ∧ ACall Tryz.prog G f [.int .u8 n] [] (.int k y) []:=by
  intro n hn
  obtain ⟨y,h1,h2⟩:=una_of_chk hG hc n (by omega)
  rw [Nat.zero_add] at h2
  exact ⟨y,h1,h2⟩
 exact orS_ok (unaL_ok hp h) (unaS_ok hG hX hp h)
theorem is132:Plain Tryz.prog 132:=plain_of (v:=fnOf Tryz.f132) rfl
theorem is149:Plain Tryz.prog 149:=plain_of (v:=fnOf Tryz.f149) rfl
theorem is147:Plain Tryz.prog 147:=plain_of (v:=fnOf Tryz.f147) rfl
noncomputable def sgnS (X:Rule):Known:=orS (orS (unaL 132 .u8 sgnT) (unaS X 132 .u8 sgnT)) (orS (orS (unaL 149 .u8 sgnT) (unaS X 149 .u8 sgnT)) (orS (unaL 147 .u32 sgnT) (unaS X 147 .u32 sgnT)))
theorem sgnS_ok {G:GF} (hG:GOK G) {X:Rule} (hX:RuleOK G X):CallOK Tryz.prog G (sgnS X) :=
 orS_ok (una_known hG hX is132 sgnT_len chk132) (orS_ok (una_known hG hX is149 sgnT_len chk149) (una_known hG hX is147 sgnT_len chk147))
end
section
open Go.Proofs
section
variable {sol:List (Option Int)} {bl:List Nat} {base:Nat}
mutual
theorem rep_any:∀ (x:V) {y:V},rep [] bl base x = some y → rep sol bl base x = some y
 | .int _ _,y,h | .bool _,y,h | .str _,y,h | .nilptr,y,h | .nilsl,y,h | .nilfn,y,h | .nilif,y,h | .ptr _ _,y,h | .sl _ _ _ _,y,h => by simpa [rep] using h
 | .sym k q lo hi,y,h => by simp [rep] at h
 | .fn f l,y,h | .agg l,y,h | .tup l,y,h => by
  simp only [rep,Option.map_eq_some_iff] at h ⊢
  obtain ⟨l',hl,rfl⟩:=h
  exact ⟨l',reps_any l hl,rfl⟩
 | .gptr _ _,_,h | .symb _,_,h | .at _ _ _ _,_,h | .among _ _,_,h | .cut _ _ _,_,h => by simp [rep] at h
theorem reps_any:∀ (xs:List V) {ys:List V},reps [] bl base xs = some ys → reps sol bl base xs = some ys
 | [],ys,h => by simpa [reps] using h
 | x :: xs,ys,h => by
  simp only [reps] at h
  split at h
  ·rename_i y hy
   simp only [Option.map_eq_some_iff] at h
   obtain ⟨zs,hzs,rfl⟩:=h
   simp only [reps,rep_any x hy,reps_any xs hzs,Option.map_some]
  ·cases h
end
theorem news_any {M:Mem}:∀ {l:List Nat} {N:List Blk},news [] bl base M l = some N → news sol bl base M l = some N
 | [],N,h => by simpa [news] using h
 | b :: l,N,h => by
  unfold news at h ⊢
  split at h
  ·split at h
   ·rename_i hcs
    simp only [Option.map_eq_some_iff] at h
    obtain ⟨N',h1,rfl⟩:=h
    simp only [reps_any _ hcs,news_any h1,Option.map_some]
   ·cases h
  ·cases h
theorem news_noro {M:Mem}:∀ {l:List Nat} {N:List Blk},news sol bl base M l = some N → ∀ cs,Blk.ro cs ∉ N
 | [],N,h => by simp only [news,Option.some.injEq] at h; subst h; simp
 | b :: l,N,h => by
  unfold news at h
  split at h
  ·split at h
   ·simp only [Option.map_eq_some_iff] at h
    obtain ⟨N',h1,rfl⟩:=h
    intro cs hm
    rcases List.mem_cons.1 hm with hm | hm
    ·cases hm
    ·exact news_noro h1 cs hm
   ·cases h
  ·cases h
end
def conS (f:Nat) (v0:V) (M0':Mem) (bl:List Nat):Known:=fun g args M =>
 match Nat.beq g f,args with
 | true,[] => match rep [] bl M.length v0,news [] bl M.length M0' bl with
  | some v,some N => some (v,M ++ N,[])
  | _,_ => none
 | _,_ => none
theorem conS_ok {G:GF} {f:Nat} {v0:V} {M0':Mem} {bl:List Nat} (hc:ACall Tryz.prog G f [] [] v0 M0') (hnd:∀ i j b:Nat,bl[i]? = some b → bl[j]? = some b → i = j):CallOK Tryz.prog G (conS f v0 M0' bl):=by
 intro g args M v M' ch h
 unfold conS at h
 split at h
 ·rename_i hg
  have:=Nat.eq_of_beq_eq_true hg; subst this
  split at h
  ·rename_i v' N hv hN
   simp only [Option.some.injEq,Prod.mk.injEq] at h
   obtain ⟨rfl,rfl,rfl⟩:=h
   refine ⟨⟨hc.1,?_⟩,Grow.toL (c:=none) (Grow.app _ _ _ (news_noro hN))⟩
   intro prot W0 φ w us hM hus
   exact sumcall (B:=⟨[],[]⟩) (rows:=[]) hc rfl ⟨rfl,fun i cs0 p hi => by simp at hi⟩ hnd hM hus (ns:=[]) rfl (rep_any _ hv) (news_any hN)
  ·cases h
 ·cases h
end
section
open Go.Proofs
noncomputable def rowChk (f:Nat) (n:Nat) (gs:Nat) (lim:Option Nat) (t:List Int):Bool :=
 match FN noX tyF fn noS 8 f [] [] with
 | some p => match p.1 with
  | .sl b o l m => (Nat.beq o 0 && Nat.beq l n) && (eqOp m lim && (match nth p.2.1 b with
   | some (.own cs g) => Nat.beq g gs && (match lits cs with
    | some q => decide (q.1 = .i64) && eqInts q.2 t
    | none => false)
   | _ => false))
  | _ => false
 | none => false
where
 eqOp:Option Nat → Option Nat → Bool
  | none,none => true
  | some a,some b => Nat.beq a b
  | _,_ => false
 eqInts:List Int → List Int → Bool
  | [],[] => true
  | a :: xs,b :: ys => eqI a b && eqInts xs ys
  | _,_ => false
theorem eqOp_iff {a b:Option Nat} (h:rowChk.eqOp a b = true):a = b:=by
 cases a <;> cases b <;> simp [rowChk.eqOp] at h
 ·rfl
 ·rw [h]
theorem eqInts_iff:∀ {a b:List Int},rowChk.eqInts a b = true → a = b
 | [],[],_ => rfl
 | [],_ :: _,h => by simp [rowChk.eqInts] at h
 | _ :: _,[],h => by simp [rowChk.eqInts] at h
 | x :: xs,y :: ys,h => by
  simp only [rowChk.eqInts,Bool.and_eq_true,eqI_iff] at h
  rw [h.1,eqInts_iff h.2]
theorem lits_eq:∀ {vs:List V} {k:IntKind} {ns:List Int},lits vs = some (k,ns) → vs = ns.map (.int k)
 | [.int k n],k',ns,h => by simp only [lits,Option.some.injEq,Prod.mk.injEq] at h; obtain ⟨rfl,rfl⟩:=h; rfl
 | .int k n :: x :: vs,k',ns,h => by
  simp only [lits,Option.bind_eq_some_iff] at h
  obtain ⟨p,h1,h2⟩:=h
  split at h2
  ·rename_i hk
   simp only [Option.some.injEq,Prod.mk.injEq] at h2
   obtain ⟨rfl,rfl⟩:=h2
   have h3:=lits_eq (vs:=x :: vs) (k:=p.1) (ns:=p.2) (by rw [← h1])
   rw [hk] at h3
   rw [h3]; rfl
  ·cases h2
theorem reps_ints {sol:List (Option Int)} {bl:List Nat} {base:Nat} {k:IntKind}:∀ (t:List Int),reps sol bl base (t.map (.int k)) = some (t.map (.int k))
 | [] => by simp [reps]
 | x :: t => by simp [reps,rep,reps_ints t]
def rowS (f n gs:Nat) (lim:Option Nat) (t:List Int):Known:=fun g args M =>
 match Nat.beq g f,args with
 | true,[] => some (.sl M.length 0 n lim,M ++ [.own (t.map (.int .i64)) gs],[])
 | _,_ => none
theorem rowS_ok {G:GF} (hG:GOK G) {f n gs:Nat} {lim:Option Nat} {t:List Int} (h:rowChk f n gs lim t = true):CallOK Tryz.prog G (rowS f n gs lim t):=by
 unfold rowChk at h
 split at h
 ·rename_i p hp
  obtain ⟨v0,M0',ch0⟩:=p
  simp only at h
  split at h
  ·rename_i b o l m
   simp only [Bool.and_eq_true] at h
   obtain ⟨⟨h1,h2⟩,h3,h4⟩:=h
   have e1:=Nat.eq_of_beq_eq_true h1
   have e2:=Nat.eq_of_beq_eq_true h2
   have e3:=eqOp_iff h3
   subst e1 e2 e3
   rw [nth_eq] at h4
   split at h4
   ·rename_i cs g hb
    simp only [Bool.and_eq_true] at h4
    obtain ⟨h5,h6⟩:=h4
    have e5:=Nat.eq_of_beq_eq_true h5
    subst e5
    split at h6
    ·rename_i q hq
     obtain ⟨k,ns⟩:=q
     simp only [Bool.and_eq_true,decide_eq_true_eq] at h6
     obtain ⟨rfl,h7⟩:=h6
     have e7:=eqInts_iff h7
     subst e7
     have hcs:=lits_eq hq
     have hc:=(run hG noX_ok noS_ok 8 _ _ _ _ _ _ hp).1
     have hk:=conS_ok hc (bl:=[b]) (fun i j b' hi hj => by
      have:=(List.getElem?_eq_some_iff.1 hi).1
      have:=(List.getElem?_eq_some_iff.1 hj).1
      simp at *; omega)
     intro g' args M v M' ch hh
     unfold rowS at hh
     split at hh
     ·rename_i hg
      have hgg:=Nat.eq_of_beq_eq_true hg; subst hgg
      simp only [Option.some.injEq,Prod.mk.injEq] at hh
      obtain ⟨rfl,rfl,rfl⟩:=hh
      refine hk _ _ _ _ _ _ ?_
      unfold conS
      have hbq:Nat.beq g' g' = true:=by simp
      have hr:rep [] [b] M.length (.sl b 0 l m) = some (.sl M.length 0 l m):=by simp [rep,idxOf]
      have hn:news [] [b] M.length M0' [b] = some [.own (ns.map (.int .i64)) g]:=by
       simp only [news,hb,hcs,reps_ints,Option.map_some]
      simp only [hbq,hr,hn]
     ·cases hh
    ·cases h6
   ·cases h4
  ·cases h
 ·cases h
def wideT:List Int:=(List.range 48).map fun k => (((4 * (k / 6) + k % 6 + 31) % 32 + 1:Nat):Int)
def mixedT:List Int:=[16,7,20,21,29,12,28,17,1,15,23,26,5,18,31,10,2,8,24,14,32,27,3,9,19,13,30,6,22,11,4,25]
def firstT:List Int:=([58,60,62,64,57,59,61,63]:List Int).flatMap fun n => (List.range 8).map fun i:Nat => n - 8 * (i:Int)
theorem chk134:rowChk 134 32 0 (some 32) mixedT = true:=by kernel_rfl
theorem chk106:rowChk 106 64 1 none firstT = true:=by kernel_rfl
theorem chk131:rowChk 131 48 1 none wideT = true:=by kernel_rfl
end
section
open Go.Proofs
noncomputable section
abbrev Tab:=List (Option (Int × Int))
def inT (tb:Tab):V → Bool
 | .int _ _ => true
 | .sym _ j lo hi => match nth tb j with
  | some (some p) => leI lo p.1 && leI p.2 hi
  | _ => false
 | _ => false
def inTs (tb:Tab):List V → Bool
 | [] => true
 | v :: vs => inT tb v && inTs tb vs
def inD (tb:Tab):Def → Bool
 | .bin _ _ a b => inT tb a && inT tb b
 | .shift _ _ a b => inT tb a && inT tb b
 | .conv _ a => inT tb a
 | .look _ _ a => inT tb a
 | .call _ _ _ l => inTs tb l
def goodD:Def → Bool
 | .bin op _ _ b => match op with
  | .add | .sub | .mul | .and | .or | .xor | .andNot => true
  | .rem => leI 1 b.lo
  | _ => false
 | .shift op _ _ b => match op with
  | .shl | .shr => leI 0 b.lo
  | _ => false
 | .conv _ _ => true
 | .look _ t a => leI 0 a.lo && Nat.ble (a.hi.toNat + 1) t.length
 | .call _ _ _ _ => true
def tabOf (tb:Tab):Blk → Option (Int × Int)
 | .eqn d (.sym kd i lo hi) => match Nat.beq i (lenK tb) && (inD tb d && (goodD d && decide (d.kind = kd))),bnd d with
  | true,some p => match leI lo p.1 && leI p.2 hi with
   | true => some (lo,hi)
   | false => none
  | _,_ => none
 | _ => none
def tabs:Mem → Tab → Tab
 | [],tb => tb
 | k :: M,tb => tabs M (tb ++ [tabOf tb k])
def cln:Mem → Tab → Mem
 | [],_ => []
 | k :: M,tb => (match tabOf tb k with | some _ => k | none => .dead) :: cln M (tb ++ [tabOf tb k])
structure Fits (tb:Tab) (acc:List (Option Int)):Prop where
 len:tb.length = acc.length
 num:∀ (j:Nat) (lo hi:Int),tb[j]? = some (some (lo,hi)) → ∃ n,acc[j]? = some (some n) ∧ lo ≤ n ∧ n ≤ hi
section
variable {G:GF} {acc:List (Option Int)} {tb:Tab}
theorem inT_num (h:Fits tb acc) {v:V} (hv:inT tb v = true):∃ n,v.num (plOf acc) = some n:=by
 cases v <;> simp only [inT,Bool.false_eq_true] at hv
 ·exact ⟨_,rfl⟩
 ·rename_i k j lo hi
  rw [nth_eq] at hv
  split at hv
  ·rename_i p hp
   obtain ⟨n,h1,h2,h3⟩:=h.num j p.1 p.2 hp
   simp only [Bool.and_eq_true,leI_iff] at hv
   have e:plOf acc j = some (0,0,0,n):=by unfold plOf; rw [h1]
   have h4:lo ≤ n:=by omega
   have h5:n ≤ hi:=by omega
   exact ⟨n,by simp [V.num,V.conc,e,h4,h5]⟩
  ·cases hv
theorem inTs_num (h:Fits tb acc):∀ {l:List V},inTs tb l = true → ∃ ns,nums (plOf acc) l = some ns
 | [],_ => ⟨[],rfl⟩
 | v :: l,hl => by
  simp only [inTs,Bool.and_eq_true] at hl
  obtain ⟨n,h1⟩:=inT_num h hl.1
  obtain ⟨ns,h2⟩:=inTs_num h hl.2
  exact ⟨n :: ns,by simp [nums,h1,h2]⟩
theorem val_ok (h:Fits tb acc) {d:Def} (hi:inD tb d = true) (hg:goodD d = true):∃ n,d.val G (plOf acc) = some (.int d.kind n):=by
 cases d <;> simp only [inD,Bool.and_eq_true] at hi
 ·rename_i op k a b
  obtain ⟨x,hx⟩:=inT_num h hi.1
  obtain ⟨y,hy⟩:=inT_num h hi.2
  simp only [Def.val,hx,hy,Option.bind_some]
  cases op <;> simp only [goodD,Bool.false_eq_true] at hg <;> first | exact ⟨_,rfl⟩ | skip
  have:=(V.bnd hy).1
  rw [leI_iff] at hg
  have h0:¬ y = 0:=by omega
  simp only [aint,h0,if_false]
  exact ⟨_,rfl⟩
 ·rename_i op k a b
  obtain ⟨x,hx⟩:=inT_num h hi.1
  obtain ⟨y,hy⟩:=inT_num h hi.2
  simp only [Def.val,hx,hy,Option.bind_some]
  cases op <;> simp only [goodD,Bool.false_eq_true,leI_iff] at hg
  all_goals
   have:=(V.bnd hy).1
   have h0:¬ y < 0:=by omega
   simp only [ashift,h0,if_false]
   exact ⟨_,rfl⟩
 ·rename_i k a
  obtain ⟨x,hx⟩:=inT_num h hi
  exact ⟨_,by simp only [Def.val,hx,Option.map_some]; rfl⟩
 ·rename_i k t a
  obtain ⟨x,hx⟩:=inT_num h hi
  simp only [goodD,Bool.and_eq_true,leI_iff,Nat.ble_eq] at hg
  have:=V.bnd hx
  have h0:0 ≤ x:=by omega
  have h1:x.toNat < t.length:=by omega
  refine ⟨t[x.toNat],?_⟩
  simp only [Def.val,hx,Option.bind_some,h0,if_true,List.getElem?_eq_getElem h1,Option.map_some,Def.kind]
 ·rename_i g j k l
  obtain ⟨ns,hx⟩:=inTs_num h hi
  exact ⟨_,by simp only [Def.val,hx,Option.map_some]; rfl⟩
theorem tabOf_eq {k:Blk} {lo hi:Int} (h:tabOf tb k = some (lo,hi)):∃ d,k = .eqn d (.sym d.kind tb.length lo hi) ∧ inD tb d = true ∧ goodD d = true ∧ ∃ p,bnd d = some p ∧ lo ≤ p.1 ∧ p.2 ≤ hi:=by
 unfold tabOf at h
 split at h
 ·rename_i d kd i lo' hi'
  split at h
  ·rename_i p hc hp
   simp only [lenK_eq,Bool.and_eq_true,decide_eq_true_eq] at hc
   obtain ⟨h1,h2,h3,h4⟩:=hc
   have:=Nat.eq_of_beq_eq_true h1
   subst this h4
   split at h
   ·rename_i hl
    simp only [Bool.and_eq_true,leI_iff] at hl
    injection h with h; injection h with e1 e2; subst e1 e2
    exact ⟨d,rfl,h2,h3,p,hp,hl⟩
   ·cases h
  ·cases h
 ·cases h
theorem sol1_ok (hG:GOK G) (h:Fits tb acc) {k:Blk} {lo hi:Int} (hk:tabOf tb k = some (lo,hi)):∃ d n,k = .eqn d (.sym d.kind tb.length lo hi) ∧ d.val G (plOf acc) = some (.int d.kind n) ∧ sol1 G acc k = some n ∧ lo ≤ n ∧ n ≤ hi:=by
 obtain ⟨d,rfl,h1,h2,p,h3,h4,h5⟩:=tabOf_eq hk
 obtain ⟨n,hn⟩:=val_ok (G:=G) h h1 h2
 have hb:=bnd_sound hG (lo:=p.1) (hi:=p.2) h3 hn
 refine ⟨d,n,rfl,hn,?_,by omega,by omega⟩
 simp [sol1,h.len,numOf,hn]
theorem Fits.snoc (hG:GOK G) (h:Fits tb acc) (k:Blk):Fits (tb ++ [tabOf tb k]) (acc ++ [sol1 G acc k]):=by
 refine ⟨by simp [h.len],fun j lo hi hj => ?_⟩
 by_cases hlt:j < tb.length
 ·rw [List.getElem?_append_left hlt] at hj
  obtain ⟨n,h1,h2⟩:=h.num j lo hi hj
  exact ⟨n,by rw [List.getElem?_append_left (by have:=h.len; omega)]; exact h1,h2⟩
 ·rw [List.getElem?_append_right (by omega)] at hj
  have hje:j = tb.length:=by
   have:=(List.getElem?_eq_some_iff.1 hj).1; simp at this; omega
  subst hje
  simp only [Nat.sub_self,List.getElem?_cons_zero,Option.some.injEq] at hj
  obtain ⟨d,n,_,_,h3,h4⟩:=sol1_ok hG h hj
  refine ⟨n,?_,h4⟩
  rw [List.getElem?_append_right (by rw [h.len]; exact Nat.le_refl _),h.len]
  simp [h3]
theorem plOf_le (acc l:List (Option Int)):(plOf acc).le (plOf (acc ++ l)):=by
 intro i p hp
 unfold plOf at hp ⊢
 split at hp
 ·rename_i n hn
  rw [List.getElem?_append_left (List.getElem?_eq_some_iff.1 hn).1,hn]
  exact hp
 ·cases hp
theorem solve_le:∀ (M:Mem) (acc:List (Option Int)),(plOf acc).le (plOf (solve G M acc))
 | [],_ => Pl.le_refl _
 | _ :: M,acc => Pl.le_trans (plOf_le acc _) (solve_le M _)
theorem tabs_ok (hG:GOK G):∀ (M:Mem) {tb:Tab} {acc:List (Option Int)},Fits tb acc → Fits (tabs M tb) (solve G M acc)
 | [],_,_,h => h
 | k :: M,_,_,h => tabs_ok hG M (h.snoc hG k)
theorem plOf_fresh {acc:List (Option Int)} {i:Nat} (h:acc.length ≤ i):plOf acc i = none:=by
 unfold plOf
 rw [List.getElem?_eq_none_iff.2 h]
end
variable {α:Type}
def kOI (t:Option (Int × Int)) (k:Option (Int × Int) → α):α:=match t with
 | some p => kInt p.1 fun x => kInt p.2 fun y => k (some (x,y))
 | none => k none
theorem kOI_eq (t:Option (Int × Int)) (k:Option (Int × Int) → α):kOI t k = k t:=by cases t <;> simp [kOI,kInt_eq]
def tabsK (M:Mem):Tab → (Tab → α) → α:=List.rec (motive:=fun _ => Tab → (Tab → α) → α) (fun tb k => k tb) (fun b _ ih tb k => kOI (tabOf tb b) fun t => kSpine (snocK tb t) fun tb => ih tb k) M
theorem tabsK_eq (M:Mem):∀ (tb:Tab) (k:Tab → α),tabsK M tb k = k (tabs M tb):=by
 induction M with
 | nil => intro tb k; rfl
 | cons b M ih =>
  intro tb k
  show kOI (tabOf tb b) (fun t => kSpine (snocK tb t) fun tb => tabsK M tb k) = _
  rw [kOI_eq,kSpine_eq,snocK_eq]; exact ih _ _
end
end
section
open Go.Proofs
noncomputable section
section
variable {G:GF} {X:Rule} {φ:Pl} {M:Mem} {m:Option Mem}
def Fresh (φ:Pl) (M:Mem):Prop:=∀ i,M.length ≤ i → φ i = none
theorem mkInt_pure (hG:GOK G) (hX:RuleOK G X) (hE:EqF G φ M) (hf:Fresh φ M) {d:Def} {v:V} (h:mkInt X M d = some (v,m)) {k:IntKind} {n:Int} (hd:d.val G φ = some (.int k n)) :
  ∃ φ',φ.le φ' ∧ v.conc φ' = some (.int k n) ∧ EqF G φ' (m.getD M) ∧ Fresh φ' (m.getD M):=by
 have hn:=norm_sound hE hd
 unfold mkInt at h
 simp only [lenK_eq,snocK_eq] at h
 split at h
 ·rename_i v' hl
  injection h with h; injection h with h1 h2; subst h1 h2
  obtain ⟨u,h3,h4⟩:=look1_sound hX hE hl hn
  simp only [V.conc,Option.some.injEq] at h3
  subst h3
  exact ⟨φ,Pl.le_refl _,h4,hE,hf⟩
 ·split at h
  ·rename_i b hb
   injection h with h; injection h with h1 h2; subst h1 h2
   have hle:=Pl.le_put (φ:=φ) (0,0,0,n) (hf M.length (Nat.le_refl _))
   have hbb:=bnd_sound hG hb hn
   have hc:(V.sym d.kind M.length b.1 b.2).conc (φ.put M.length (0,0,0,n)) = some (.int k n):=by
    simp [V.conc,Pl.put_self,hbb,kind_val hd]
   refine ⟨_,hle,hc,?_,?_⟩
   ·intro i d' v' hi
    simp only [Option.getD_some] at hi
    by_cases hlt:i < M.length
    ·rw [List.getElem?_append_left hlt] at hi
     obtain ⟨x,u,h1,h2,h3⟩:=hE i d' v' hi
     exact ⟨x,u,Def.val_mono hle h1,h2,V.conc_mono hle _ h3⟩
    ·rw [List.getElem?_append_right (by omega)] at hi
     have hie:i = M.length:=by
      have:=(List.getElem?_eq_some_iff.1 hi).1; simp at this; omega
     subst hie
     simp only [Nat.sub_self,List.getElem?_cons_zero,Option.some.injEq,Blk.eqn.injEq] at hi
     obtain ⟨e1,e2⟩:=hi; subst e1 e2
     exact ⟨_,_,Def.val_mono hle hn,rfl,hc⟩
   ·intro i hi
    simp only [Option.getD_some,List.length_append,List.length_singleton] at hi
    rw [Pl.put_ne _ _ (by omega)]
    exact hf i (by omega)
  ·cases h
end
abbrev Sub:=List (Option V)
def setK (k:IntKind):V → V
 | .int _ n => .int k n
 | .sym _ i lo hi => .sym k i lo hi
 | v => v
theorem setK_num {φ:Pl} {k:IntKind} {v:V} {n:Int} (h:v.num φ = some n):(setK k v).num φ = some n:=by
 rcases V.num_cases h with ⟨k',rfl⟩ | ⟨k',i,lo,hi,p,rfl,hp,rfl,h1,h2⟩
 ·rfl
 ·simp [setK,V.num,V.conc,hp,h1,h2]
def sb (σ:Sub):V → Option V
 | .int k n => some (.int k n)
 | .sym k j _ _ => match nth σ j with
  | some (some v) => some (setK k v)
  | _ => none
 | _ => none
def sbs (σ:Sub):List V → Option (List V)
 | [] => some []
 | v :: vs => match sb σ v with
  | some x => (sbs σ vs).map (x :: ·)
  | none => none
def sbD (σ:Sub):Def → Option Def
 | .bin op k a b => match sb σ a,sb σ b with
  | some a,some b => some (.bin op k a b)
  | _,_ => none
 | .shift op k a b => match sb σ a,sb σ b with
  | some a,some b => some (.shift op k a b)
  | _,_ => none
 | .conv k a => (sb σ a).map (.conv k)
 | .look k t a => (sb σ a).map (.look k t)
 | .call g j k l => (sbs σ l).map (.call g j k)
def rpl1 (X:Rule) (t:Option (Int × Int)) (M:Mem) (σ:Sub) (b:Blk):Option (V × Option Mem) :=
 match t,b with
 | some _,.eqn d _ => (sbD σ d).bind fun d => kDef d fun d => mkInt X M d
 | _,_ => none
def kOV (v:Option V) (k:Option V → Bool):Bool:=match v with
 | some v => kV1 v fun v => k (some v)
 | none => k none
theorem kOV_eq (v:Option V) (k:Option V → Bool):kOV v k = k v:=by cases v <;> simp [kOV,kV1_eq]
def rpl (X:Rule) (D:Mem):Tab → Mem → Sub → (Mem → Sub → Bool) → Bool :=
 List.rec (motive:=fun _ => Tab → Mem → Sub → (Mem → Sub → Bool) → Bool) (fun _ M σ k => k M σ) (fun b _ ih tb M σ k =>
  kOI (tabOf tb b) fun t => kSpine (snocK tb t) fun tb' =>
  match rpl1 X t M σ b with
  | some p => kOV (some p.1) fun v => kSpine (snocK σ v) fun σ => (match p.2 with
   | some M' => kNew M M' fun M => ih tb' M σ k
   | none => ih tb' M σ k)
  | none => kSpine (snocK σ none) fun σ => ih tb' M σ k) D
section
variable {G:GF} {X:Rule}
structure RepI (G:GF) (φ:Pl) (M:Mem) (σ:Sub) (acc:List (Option Int)):Prop where
 eqf:EqF G φ M
 fresh:Fresh φ M
 len:σ.length = acc.length
 num:∀ (j:Nat) (v:V),σ[j]? = some (some v) → ∃ n,acc[j]? = some (some n) ∧ v.num φ = some n
section
variable {φ:Pl} {M:Mem} {σ:Sub} {acc:List (Option Int)}
theorem sb_num (h:RepI G φ M σ acc) {v v':V} {n:Int} (hs:sb σ v = some v') (hv:v.num (plOf acc) = some n):v'.num φ = some n:=by
 rcases V.num_cases hv with ⟨k,rfl⟩ | ⟨k,i,lo,hi,p,rfl,hp,rfl,_,_⟩
 ·simp only [sb,Option.some.injEq] at hs; subst hs; rfl
 ·simp only [sb,nth_eq] at hs
  split at hs
  ·rename_i x hx
   injection hs with hs; subst hs
   obtain ⟨m,h1,h2⟩:=h.num i x hx
   unfold plOf at hp
   rw [h1] at hp
   injection hp with hp; subst hp
   exact setK_num h2
  ·cases hs
theorem sbs_num (h:RepI G φ M σ acc):∀ {l l':List V} {ns:List Int},sbs σ l = some l' → nums (plOf acc) l = some ns → nums φ l' = some ns
 | [],l',ns,hs,hn => by
  simp only [sbs,Option.some.injEq] at hs; subst hs
  simpa [nums] using hn
 | v :: l,l',ns,hs,hn => by
  simp only [sbs] at hs
  split at hs
  ·rename_i x hx
   simp only [Option.map_eq_some_iff] at hs
   obtain ⟨y,hy,rfl⟩:=hs
   simp only [nums,Option.bind_eq_some_iff,Option.map_eq_some_iff] at hn ⊢
   obtain ⟨u,h1,ns',h2,rfl⟩:=hn
   exact ⟨u,sb_num h hx h1,ns',sbs_num h hy h2,rfl⟩
  ·cases hs
theorem sbD_val (h:RepI G φ M σ acc) {d d':Def} {x:V} (hs:sbD σ d = some d') (hd:d.val G (plOf acc) = some x):d'.val G φ = some x:=by
 cases d <;> simp only [Def.val,Option.bind_eq_some_iff,Option.map_eq_some_iff] at hd <;> simp only [sbD,Option.map_eq_some_iff] at hs
 ·obtain ⟨a,h1,b,h2,h3⟩:=hd
  split at hs
  ·rename_i ha hb
   injection hs with hs; subst hs
   simp only [Def.val,sb_num h ha h1,sb_num h hb h2,Option.bind_some,h3]
  ·cases hs
 ·obtain ⟨a,h1,b,h2,h3⟩:=hd
  split at hs
  ·rename_i ha hb
   injection hs with hs; subst hs
   simp only [Def.val,sb_num h ha h1,sb_num h hb h2,Option.bind_some,h3]
  ·cases hs
 ·obtain ⟨a,h1,h3⟩:=hd
  obtain ⟨a',ha,rfl⟩:=hs
  simp only [Def.val,sb_num h ha h1,Option.map_some,h3]
 ·obtain ⟨a,h1,h3⟩:=hd
  obtain ⟨a',ha,rfl⟩:=hs
  simp only [Def.val,sb_num h ha h1,Option.bind_some,h3]
 ·obtain ⟨a,h1,h3⟩:=hd
  obtain ⟨a',ha,rfl⟩:=hs
  simp only [Def.val,sbs_num h ha h1,Option.map_some,h3]
theorem RepI.snoc {φ':Pl} {M':Mem} (h:RepI G φ M σ acc) (hle:φ.le φ') (hE:EqF G φ' M') (hF:Fresh φ' M') {x:Option V} {y:Option Int} (hx:∀ v,x = some v → ∃ n,y = some n ∧ v.num φ' = some n) :
  RepI G φ' M' (σ ++ [x]) (acc ++ [y]):=by
 refine ⟨hE,hF,by simp [h.len],fun j v hj => ?_⟩
 by_cases hlt:j < σ.length
 ·rw [List.getElem?_append_left hlt] at hj
  obtain ⟨n,h1,h2⟩:=h.num j v hj
  exact ⟨n,by rw [List.getElem?_append_left (by have:=h.len; omega)]; exact h1,V.num_mono hle h2⟩
 ·rw [List.getElem?_append_right (by omega)] at hj
  have hje:j = σ.length:=by
   have:=(List.getElem?_eq_some_iff.1 hj).1; simp at this; omega
  subst hje
  simp only [Nat.sub_self,List.getElem?_cons_zero,Option.some.injEq] at hj
  obtain ⟨n,h1,h2⟩:=hx v hj
  refine ⟨n,?_,h2⟩
  rw [List.getElem?_append_right (by rw [h.len]; exact Nat.le_refl _),h.len,h1]; simp
end
theorem rpl_ok (hG:GOK G) (hX:RuleOK G X):∀ (D:Mem) {tb:Tab} {acc:List (Option Int)} {φ:Pl} {M:Mem} {σ:Sub} {k:Mem → Sub → Bool},Fits tb acc → RepI G φ M σ acc → rpl X D tb M σ k = true →
  ∃ φ' M' σ',φ.le φ' ∧ RepI G φ' M' σ' (solve G D acc) ∧ k M' σ' = true
 | [],_,_,φ,M,σ,_,_,h,hk => ⟨φ,M,σ,Pl.le_refl _,h,hk⟩
 | b :: D,tb,acc,φ,M,σ,k,hf,h,hk => by
  have hk':(kOI (tabOf tb b) fun t => kSpine (snocK tb t) fun tb' =>
   match rpl1 X t M σ b with
   | some p => kOV (some p.1) fun v => kSpine (snocK σ v) fun σ => (match p.2 with
    | some M' => kNew M M' fun M => rpl X D tb' M σ k
    | none => rpl X D tb' M σ k)
   | none => kSpine (snocK σ none) fun σ => rpl X D tb' M σ k) = true:=hk
  simp only [kOI_eq,snocK_eq,kSpine_eq,kOV_eq,kNew_eq] at hk'
  have hf':=hf.snoc hG b
  split at hk'
  ·rename_i p hp
   obtain ⟨v,m⟩:=p
   unfold rpl1 at hp
   split at hp
   ·rename_i lh d v0 ht
    obtain ⟨lo,hi⟩:=lh
    simp only [Option.bind_eq_some_iff] at hp
    obtain ⟨d',hd',hm⟩:=hp
    rw [kDef_eq] at hm
    obtain ⟨d1,n,e1,h2,h3,h4⟩:=sol1_ok hG hf ht
    injection e1 with e1 e2; subst e1 e2
    obtain ⟨φ1,hle,hv,hE,hF⟩:=mkInt_pure hG hX h.eqf h.fresh hm (sbD_val h hd' h2)
    have hi':=h.snoc (x:=some v) (y:=sol1 G acc (.eqn d (.sym d.kind tb.length lo hi))) hle hE hF (by
     intro v' e; injection e with e; subst e
     exact ⟨n,h3,V.conc_num hv⟩)
    have hk2:rpl X D (tb ++ [tabOf tb (.eqn d (.sym d.kind tb.length lo hi))]) (m.getD M) (σ ++ [some v]) k = true:=by
     cases m <;> exact hk'
    obtain ⟨φ2,M2,σ2,a1,a2,a3⟩:=rpl_ok hG hX D hf' hi' hk2
    exact ⟨φ2,M2,σ2,Pl.le_trans hle a1,a2,a3⟩
   ·cases hp
  ·have hi':=h.snoc (x:=none) (y:=sol1 G acc b) (Pl.le_refl _) h.eqf h.fresh (by intro v e; cases e)
   exact rpl_ok hG hX D hf' hi' hk'
end
end
end
end Go.Proofs.YthajgdmcjfmjoaaGreatDoor.Rel
