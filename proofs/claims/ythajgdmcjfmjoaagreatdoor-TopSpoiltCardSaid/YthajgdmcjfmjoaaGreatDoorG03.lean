/- TopSpoilt, part 3 of 38 of its proof: a relative machine (values, memory, an evaluator, all sound against the model), and by it the walks. Conditions: none. -/
import Derived.Test.YthajgdmcjfmjoaaGreatDoorG02
set_option linter.all false
namespace Go.Proofs.YthajgdmcjfmjoaaGreatDoor.Rel
section
variable {P:Program} {G:GF} {X:Rule} {T:Nat → Option Ty} {prot:Pr} {W0 w:World} {φ:Pl} {M M':Mem} {m:Option Mem} {t:TypeId} {d:Ty}
theorem kind_ptr {e:Nat} (h:d.ok P t) (hk:d.kind = .ptr e):P.underlying t = some (.pointer e):=by
 obtain ⟨td,h1,h2⟩:=h.desc
 rw [hk] at h2
 cases td <;> simp only [K.fits] at h2 <;> try (exact h2.elim)
 obtain rfl:=h2
 exact h1
theorem kind_bool (h:d.ok P t) (hk:d.kind = .bool):P.underlying t = some .bool:=by
 obtain ⟨td,h1,h2⟩:=h.desc
 rw [hk] at h2
 cases td <;> simp only [K.fits] at h2 <;> try (exact h2.elim)
 exact h1
theorem aeq_sound (h:d.ok P t) {x y:V} {b:Bool} {ux uy:Value} (hx:x.conc φ = some ux) (hy:y.conc φ = some uy) (hv:aeq d.kind x y = some b) (w:World) :
  (Op.equal t ux uy).run P w = .ok b w:=by
 unfold Op.equal
 rw [show Op.maxDepth = 9999 + 1 from rfl]
 generalize 9999 = n
 unfold aeq at hv
 split at hv <;> try (cases hv; done)
 all_goals
  split at hv <;> try (cases hv; done)
  rename_i hk
  injection hv with hv
  subst hv
  simp only [V.conc,Option.some.injEq,Option.map_eq_some_iff] at hx hy
 ·obtain rfl:=hx; obtain rfl:=hy
  simp [Op.equalIn,run_underlying (kind_bool h hk)]
 ·obtain rfl:=hx; obtain rfl:=hy
  simp [Op.equalIn,run_underlying (kind_slice h hk)]
 ·obtain ⟨p,_,rfl⟩:=hx; obtain rfl:=hy
  simp [Op.equalIn,run_underlying (kind_slice h hk)]
 ·obtain rfl:=hx; obtain ⟨p,_,rfl⟩:=hy
  simp [Op.equalIn,run_underlying (kind_slice h hk)]
 ·obtain rfl:=hx; obtain rfl:=hy
  simp [Op.equalIn,run_underlying (kind_ptr h hk)]
 ·obtain ⟨p,_,rfl⟩:=hx; obtain rfl:=hy
  simp [Op.equalIn,run_underlying (kind_ptr h hk)]
 ·obtain rfl:=hx; obtain ⟨p,_,rfl⟩:=hy
  simp [Op.equalIn,run_underlying (kind_ptr h hk)]
theorem guard_plain {op:BinOp} {x y:Operand} {a b:Value} (h:(∀ cs,a ≠ .agg cs) ∧ a ≠ .nilIface) (w:World):(eqGuard op t x y a b).run P w = .ok () w:=by
 obtain ⟨h1,h2⟩:=h
 cases a <;> first
  | exact absurd rfl h2
  | exact absurd rfl (h1 _)
  | (cases op <;> rfl)
theorem cmp_sound {op:BinOp} {x y:V} {a b:Int} {r:Bool} (hx:x.num φ = some a) (hy:y.num φ = some b) (h:cmpB op x y = some r) (k:IntKind):aint op k a b = some (.bool r):=by
 have h1:=V.bnd hx
 have h2:=V.bnd hy
 cases op <;> simp only [cmpB] at h <;> try (cases h; done)
 all_goals
  repeat' split at h
  all_goals first | (cases h; done) | (injection h with h; subst h; simp [aint]; omega)
theorem cmp_bool {op:BinOp} (h:isCmp op = true) (k:IntKind) (a b:Int):∃ r,aint op k a b = some (.bool r):=by
 cases op <;> simp only [isCmp] at h <;> first | (cases h; done) | exact ⟨_,rfl⟩
theorem knd_conc {x:V} {k:IntKind} {u:Value} (h:x.knd = some k) (hu:x.conc φ = some u):∃ n,u = .int k n ∧ x.num φ = some n:=by
 cases x <;> simp only [V.knd] at h <;> try (cases h; done)
 ·injection h with h; subst h
  simp only [V.conc,Option.some.injEq] at hu; subst hu; exact ⟨_,rfl,rfl⟩
 ·injection h with h; subst h
  have hu0:=hu
  simp only [V.conc,Option.bind_eq_some_iff] at hu
  obtain ⟨p,hp,hu⟩:=hu
  split at hu
  ·injection hu with hu
   rw [← hu] at hu0
   exact ⟨_,hu.symm,V.conc_num hu0⟩
  ·cases hu
theorem int_bin {op:BinOp} {k:IntKind} {a b:Int} (h1:isCmp op = false) (h2:op ≠ .shl ∧ op ≠ .shr) (hb:(op = .quo ∨ op = .rem) → 0 < b):∃ r,aint op k a b = some (.int k r):=by
 cases op <;> simp only [isCmp] at h1 <;> simp only [aint,abits] <;> first
  | (cases h1; done)
  | exact absurd rfl h2.1
  | exact absurd rfl h2.2
  | exact ⟨_,rfl⟩
  | (have:=hb (by simp); rw [if_neg (by omega)]; exact ⟨_,rfl⟩)
theorem sym_sound (hG:GOK G) (hX:RuleOK G X) (hM:MR G prot W0 φ M w) {op:BinOp} {x y v:V} {ux uy:Value} (hx:x.conc φ = some ux) (hy:y.conc φ = some uy)
  (hv:absym X M op x y = some (v,m)):Gives G prot W0 φ ((binOp op t ux uy).run P w) v (m.getD M):=by
 unfold absym at hv
 simp only [Option.bind_eq_some_iff] at hv
 obtain ⟨k,hk,k',hk',hv⟩:=hv
 obtain ⟨a,rfl,ha⟩:=knd_conc hk hx
 obtain ⟨b,rfl,hb⟩:=knd_conc hk' hy
 have sh:∀ op,(op = .shl ∨ op = .shr) → 0 ≤ y.lo → mkInt X M (.shift op k x y) = some (v,m) → Gives G prot W0 φ ((binOp op t (.int k a) (.int k' b)).run P w) v (m.getD M):=by
  intro op hop h0 hmk
  have hb0:=V.bnd hb
  have:∃ r,ashift op k a b = some (.int k r):=by
   unfold ashift
   rw [if_neg (by omega)]
   rcases hop with rfl | rfl <;> exact ⟨_,rfl⟩
  obtain ⟨r,hr⟩:=this
  obtain ⟨u,hu,hrun⟩:=binOp_shift (P:=P) (φ:=φ) (t:=t) (k':=k') hr w
  simp only [V.conc,Option.some.injEq] at hu
  subst hu
  exact Gives.int hG hX hM hmk (k:=k) (n:=r) (by simp only [Def.val,ha,hb,Option.bind_some,hr]) hrun
 have ar:∀ op,(isCmp op = false) → (op ≠ .shl ∧ op ≠ .shr) → ((op = .quo ∨ op = .rem) → 0 < y.lo) → k = k' → mkInt X M (.bin op k x y) = some (v,m) → Gives G prot W0 φ ((binOp op t (.int k a) (.int k' b)).run P w) v (m.getD M):=by
  intro op hc hns hq hkk hmk
  subst hkk
  have hb0:=V.bnd hb
  obtain ⟨r,hr⟩:=int_bin (k:=k) (a:=a) (b:=b) hc hns (fun h => by have:=hq h; omega)
  obtain ⟨u,hu,hrun⟩:=binOp_int (P:=P) (φ:=φ) (t:=t) hr w
  simp only [V.conc,Option.some.injEq] at hu
  subst hu
  exact Gives.int hG hX hM hmk (k:=k) (n:=r) (by simp only [Def.val,ha,hb,Option.bind_some,hr]) hrun
 have cm:∀ op,isCmp op = true → k = k' → (match cmpB op x y with | some b => some (.bool b,none) | none => some (mkBool X M (.bin op k x y))) = some (v,m) → Gives G prot W0 φ ((binOp op t (.int k a) (.int k' b)).run P w) v (m.getD M):=by
  intro op hc hkk hmk
  subst hkk
  obtain ⟨r,hr⟩:=cmp_bool hc k a b
  obtain ⟨u,hu,hrun⟩:=binOp_int (P:=P) (φ:=φ) (t:=t) hr w
  simp only [V.conc,Option.some.injEq] at hu
  subst hu
  split at hmk
  ·rename_i r' hr'
   have:=cmp_sound ha hb hr' k
   rw [hr] at this
   injection this with this; injection this with this; subst this
   injection hmk with hmk; injection hmk with h1 h2; subst h1 h2
   exact Gives.same hM rfl hrun
  ·injection hmk with hmk
   obtain ⟨φ',h1,h2,h3⟩:=mkBool_sound hX hM hmk (b:=r) (by simp only [Def.val,ha,hb,Option.bind_some,hr])
   exact ⟨φ',_,w,hrun,h1,h2,h3⟩
 split at hv
 ·split at hv
  ·rename_i h; exact sh _ (.inl rfl) h hv
  ·cases hv
 ·split at hv
  ·rename_i h; exact sh _ (.inr rfl) h hv
  ·cases hv
 ·rename_i n1 n2
  split at hv
  ·rename_i hkk
   split at hv
   ·rename_i hc; exact cm _ hc hkk hv
   ·rename_i hc
    have hc':isCmp op = false:=by simpa using hc
    split at hv
    ·split at hv
     ·rename_i h; exact ar _ rfl ⟨by simp,by simp⟩ (fun _ => h) hkk hv
     ·cases hv
    ·split at hv
     ·rename_i h; exact ar _ rfl ⟨by simp,by simp⟩ (fun _ => h) hkk hv
     ·cases hv
    ·rename_i n3 n4
     exact ar _ hc' ⟨n1,n2⟩ (fun h => by rcases h with h | h; exact absurd h n3; exact absurd h n4) hkk hv
  ·cases hv
theorem bin_sound (hG:GOK G) (hX:RuleOK G X) {D:Option Ty} (hD:∀ d,D = some d → d.ok P t) (hM:MR G prot W0 φ M w) {op:BinOp} {x y v:V} {ux uy:Value} (hx:x.conc φ = some ux) (hy:y.conc φ = some uy) (ox oy:Operand)
  (hv:abin X D M op x y = some (v,m)):Gives G prot W0 φ ((do eqGuard op t ox oy ux uy; binOp op t ux uy:Sem Value).run P w) v (m.getD M):=by
 have plain:((∀ cs,ux ≠ .agg cs) ∧ ux ≠ .nilIface) → Gives G prot W0 φ ((binOp op t ux uy).run P w) v (m.getD M) → Gives G prot W0 φ ((do eqGuard op t ox oy ux uy; binOp op t ux uy:Sem Value).run P w) v (m.getD M):=by
  intro h hg
  rw [Sem.run_bind,guard_plain h w]
  exact hg
 unfold abin at hv
 split at hv
 ·rename_i k a
  unfold bInt at hv
  simp only [V.conc,Option.some.injEq] at hx
  subst hx
  refine plain ⟨by simp,by simp⟩ ?_
  split at hv
  ·rename_i k' b
   simp only [V.conc,Option.some.injEq] at hy
   subst hy
   unfold bLit at hv
   have sh:∀ op,(eshift op k a b).map (fun v => (v,(none:Option Mem))) = some (v,m) → Gives G prot W0 φ ((binOp op t (.int k a) (.int k' b)).run P w) v (m.getD M):=by
    intro op h
    simp only [Option.map_eq_some_iff,Prod.mk.injEq] at h
    obtain ⟨v',h,rfl,rfl⟩:=h
    rw [eshift_eq] at h
    obtain ⟨u,hu,hr⟩:=binOp_shift (P:=P) (φ:=φ) (t:=t) (k':=k') h w
    exact Gives.same hM hu hr
   split at hv
   ·exact sh _ hv
   ·exact sh _ hv
   ·split at hv
    ·rename_i hkk
     subst hkk
     simp only [Option.map_eq_some_iff,Prod.mk.injEq] at hv
     obtain ⟨v',h,rfl,rfl⟩:=hv
     rw [eint_eq] at h
     obtain ⟨u,hu,hr⟩:=binOp_int (P:=P) (φ:=φ) (t:=t) h w
     exact Gives.same hM hu hr
    ·cases hv
  ·exact sym_sound hG hX hM (x:=.int k a) rfl hy hv
  ·cases hv
 ·refine plain ?_ (sym_sound hG hX hM hx hy hv)
  obtain ⟨n,rfl,_⟩:=knd_conc rfl hx; exact ⟨by simp,by simp⟩
 ·unfold bStr at hv
  simp only [V.conc,Option.some.injEq] at hx
  subst hx
  refine plain ⟨by simp,by simp⟩ ?_
  split at hv
  ·simp only [V.conc,Option.some.injEq] at hy
   subst hy
   split at hv
   ·injection hv with hv; injection hv with h1 h2; subst h1 h2
    exact Gives.same hM rfl (by simp [binOp,Op.stringOp])
   ·injection hv with hv; injection hv with h1 h2; subst h1 h2
    exact Gives.same hM rfl (by simp [binOp,Op.stringOp])
   ·cases hv
  ·cases hv
 ·have shape:∀ (K:K) (b:Bool),aeq K x y = some b → ((∀ cs,ux ≠ .agg cs) ∧ ux ≠ .nilIface) ∧ ((∀ k n,ux ≠ .int k n) ∧ (∀ k n,ux ≠ .float k n) ∧ (∀ k n m,ux ≠ .complex k n m) ∧ ∀ s,ux ≠ .string s):=by
   intro K b h
   unfold aeq at h
   split at h <;> try (cases h; done)
   all_goals
    simp only [V.conc,Option.some.injEq,Option.map_eq_some_iff] at hx
    first
     | (subst hx; simp; done)
     | (obtain ⟨_,_,rfl⟩:=hx; simp; done)
  unfold bEq at hv
  split at hv
  ·rename_i d
   split at hv
   ·simp only [Option.map_eq_some_iff,Prod.mk.injEq] at hv
    obtain ⟨b,hb,rfl,rfl⟩:=hv
    obtain ⟨s1,s2,s3,s4,s5⟩:=shape _ _ hb
    refine plain s1 (Gives.same hM (u:=.bool b) rfl ?_)
    have:=aeq_sound (hD d rfl) hx hy hb w
    cases ux <;> simp_all [binOp]
   ·simp only [Option.map_eq_some_iff,Prod.mk.injEq] at hv
    obtain ⟨b,hb,rfl,rfl⟩:=hv
    obtain ⟨s1,s2,s3,s4,s5⟩:=shape _ _ hb
    refine plain s1 (Gives.same hM (u:=.bool !b) rfl ?_)
    have:=aeq_sound (hD d rfl) hx hy hb w
    cases ux <;> simp_all [binOp]
   ·cases hv
  ·cases hv
end
end Go.Proofs.YthajgdmcjfmjoaaGreatDoor.Rel
