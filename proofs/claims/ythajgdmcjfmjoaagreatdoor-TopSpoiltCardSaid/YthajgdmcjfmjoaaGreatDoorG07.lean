/- TopSpoilt, part 7 of 38 of its proof: a relative machine (values, memory, an evaluator, all sound against the model), and by it the walks. Conditions: none. -/
import Derived.Test.YthajgdmcjfmjoaaGreatDoorG06
set_option linter.all false
namespace Go.Proofs.YthajgdmcjfmjoaaGreatDoor.Rel
section
open Go.Proofs
noncomputable section
inductive Sh where
 | num (k:IntKind) (lo hi:Int)
 | row (k:IntKind) (len:Nat) (lo hi:Int)
 | rows (k:IntKind) (cnt len:Nat) (lo hi:Int)
 | lit (v:V)
def symRow (k:IntKind) (lo hi:Int):Nat → Nat → List V
 | 0,_ => []
 | n + 1,i => .sym k i lo hi :: symRow k lo hi n (i + 1)
def slRow (len:Nat):Nat → Nat → List V
 | 0,_ => []
 | n + 1,b => .sl b 0 len none :: slRow len n (b + 1)
def rowRows (k:IntKind) (lo hi:Int) (len:Nat):Nat → Nat → List (List V)
 | 0,_ => []
 | n + 1,i => symRow k lo hi len i :: rowRows k lo hi len n (i + len)
def genA (n:Nat):List Sh → Nat → Nat → List V
 | [],_,_ => []
 | .num k lo hi :: l,i,r => .sym k i lo hi :: genA n l (i + 1) r
 | .row _ len _ _ :: l,i,r => .sl (n + r) 0 len none :: genA n l (i + len) (r + 1)
 | .rows _ cnt len _ _ :: l,i,r => .sl (n + r) 0 cnt none :: genA n l (i + cnt * len) (r + (1 + cnt))
 | .lit v :: l,i,r => v :: genA n l i r
def genR (n:Nat):List Sh → Nat → Nat → List (List V)
 | [],_,_ => []
 | .num _ _ _ :: l,i,r => genR n l (i + 1) r
 | .row k len lo hi :: l,i,r => symRow k lo hi len i :: genR n l (i + len) (r + 1)
 | .rows k cnt len lo hi :: l,i,r => slRow len cnt (n + (r + 1)) :: (rowRows k lo hi len cnt i ++ genR n l (i + cnt * len) (r + (1 + cnt)))
 | .lit _ :: l,i,r => genR n l i r
def Sh.cnt:Sh → Nat
 | .num _ _ _ => 1
 | .row _ len _ _ => len
 | .rows _ cnt len _ _ => cnt * len
 | .lit _ => 0
def cnts:List Sh → Nat
 | [] => 0
 | s :: l => s.cnt + cnts l
def tbOf:List Sh → Tab
 | [] => []
 | .num _ lo hi :: l => some (lo,hi) :: tbOf l
 | .row _ len lo hi :: l => List.replicate len (some (lo,hi)) ++ tbOf l
 | .rows _ cnt len lo hi :: l => List.replicate (cnt * len) (some (lo,hi)) ++ tbOf l
 | .lit _ :: l => tbOf l
def numOk (k:IntKind) (lo hi:Int) (v:V):Bool:=v.kindIs k && (leI lo v.lo && leI v.hi hi)
def limOk (M:Mem) (b o len:Nat):Option Nat → Bool
 | some c => Nat.ble len c
 | none => Nat.ble (o + len) (known M b)
abbrev Wd:=Nat × Nat × Option Nat
def mtRow (k:IntKind) (lo hi:Int) (len:Nat) (M:Mem):V → Option (List V × Wd)
 | .sl b o l lim => match Nat.beq l len && limOk M b o len lim,rd M b o len with
  | true,some cs => match cs.all (numOk k lo hi) with
   | true => some (cs,(b,o,lim))
   | false => none
  | _,_ => none
 | _ => none
def mtRows (k:IntKind) (lo hi:Int) (len:Nat) (M:Mem):List V → Option (List V × List Wd)
 | [] => some ([],[])
 | v :: vs => match mtRow k lo hi len M v with
  | some p => (mtRows k lo hi len M vs).map fun q => (p.1 ++ q.1,p.2 :: q.2)
  | none => none
def eqLit:V → V → Bool
 | .int k n,.int k' m => decide (k = k') && eqI n m
 | .bool b,.bool c => b == c
 | .nilsl,.nilsl => true
 | _,_ => false
theorem eqLit_iff {a b:V} (h:eqLit a b = true):a = b ∧ ∀ B:Bd,B.sub a = some b:=by
 cases a <;> cases b <;> simp [eqLit,eqI_iff] at h
 ·subst h; exact ⟨rfl,fun B => rfl⟩
 ·obtain ⟨rfl,rfl⟩:=h; exact ⟨rfl,fun B => rfl⟩
 ·exact ⟨rfl,fun B => rfl⟩
def mt (M:Mem):List Sh → List V → Option (List V × List Wd)
 | [],[] => some ([],[])
 | .num k lo hi :: l,v :: vs => match numOk k lo hi v with
  | true => (mt M l vs).map fun q => (v :: q.1,q.2)
  | false => none
 | .row k len lo hi :: l,v :: vs => match mtRow k lo hi len M v with
  | some p => (mt M l vs).map fun q => (p.1 ++ q.1,p.2 :: q.2)
  | none => none
 | .rows k cnt len lo hi :: l,v :: vs => match v with
  | .sl b o n lim => match Nat.beq n cnt && limOk M b o cnt lim,rd M b o cnt with
   | true,some ss => match mtRows k lo hi len M ss with
    | some p => (mt M l vs).map fun q => (p.1 ++ q.1,(b,o,lim) :: (p.2 ++ q.2))
    | none => none
   | _,_ => none
  | _ => none
 | .lit a :: l,v :: vs => match eqLit a v with
  | true => mt M l vs
  | false => none
 | _,_ => none
def FitsRow (B:Bd) (M:Mem) (cs0:List V) (p:Wd):Prop:=∃ cs,B.subs cs0 = some cs ∧ rd M p.1 p.2.1 cs0.length = some cs ∧ (match p.2.2 with | some c => cs0.length ≤ c | none => p.2.1 + cs0.length ≤ known M p.1)
section
variable {B:Bd} {M:Mem} {k:IntKind} {lo hi:Int}
theorem symRow_len (k:IntKind) (lo hi:Int):∀ (n i:Nat),(symRow k lo hi n i).length = n
 | 0,_ => rfl
 | n + 1,i => by simp [symRow,symRow_len k lo hi n (i + 1)]
theorem slRow_len (len:Nat):∀ (n b:Nat),(slRow len n b).length = n
 | 0,_ => rfl
 | n + 1,b => by simp [slRow,slRow_len len n (b + 1)]
theorem numOk_iff {v:V} (h:numOk k lo hi v = true):v.kindIs k = true ∧ lo ≤ v.lo ∧ v.hi ≤ hi:=by
 simpa [numOk,leI_iff] using h
theorem subs_symRow:∀ {cs:List V} {i:Nat},(∀ (j:Nat) (v:V),cs[j]? = some v → B.ins[i + j]? = some v) → cs.all (numOk k lo hi) = true → B.subs (symRow k lo hi cs.length i) = some cs
 | [],i,_,_ => rfl
 | v :: cs,i,h,ha => by
  simp only [List.all_cons,Bool.and_eq_true] at ha
  have h0:=h 0 v (by simp)
  rw [Nat.add_zero] at h0
  have h1:=subs_symRow (cs:=cs) (i:=i + 1) (fun j x hx => by rw [Nat.add_assoc,Nat.add_comm 1 j]; exact h (j + 1) x (by simpa using hx)) ha.2
  simp only [List.length_cons,symRow,Bd.subs,Bd.sub,h0,numOk_iff ha.1,and_self,if_true,h1,Option.map_some]
theorem rd_len {b o n:Nat} {cs:List V} (h:rd M b o n = some cs):cs.length = n:=by
 unfold rd at h
 split at h
 ·split at h
  ·injection h with h; subst h; simp; omega
  ·cases h
 ·cases h
theorem limOk_iff {p:Wd} {len:Nat} (h:limOk M p.1 p.2.1 len p.2.2 = true):(match p.2.2 with | some c => len ≤ c | none => p.2.1 + len ≤ known M p.1):=by
 obtain ⟨b,o,lim⟩:=p
 cases lim <;> simpa [limOk] using h
theorem mtRow_ok {len:Nat} {v:V} {cs:List V} {p:Wd} (h:mtRow k lo hi len M v = some (cs,p)) :
  v = .sl p.1 p.2.1 len p.2.2 ∧ cs.length = len ∧ cs.all (numOk k lo hi) = true ∧ rd M p.1 p.2.1 len = some cs ∧ (match p.2.2 with | some c => len ≤ c | none => p.2.1 + len ≤ known M p.1):=by
 unfold mtRow at h
 split at h
 ·rename_i b o l lim
  split at h
  ·rename_i cs' hc hr
   simp only [Bool.and_eq_true] at hc
   have:=Nat.eq_of_beq_eq_true hc.1; subst this
   split at h
   ·rename_i ha
    simp only [Option.some.injEq,Prod.mk.injEq] at h
    obtain ⟨rfl,rfl⟩:=h
    exact ⟨rfl,rd_len hr,ha,hr,limOk_iff (p:=(b,o,lim)) hc.2⟩
   ·cases h
  ·cases h
 ·cases h
theorem sub_sl {b r len:Nat} {p:Wd} (hb:b = B.ins.length + r) (h:B.nm[r]? = some p):B.sub (.sl b 0 len none) = some (.sl p.1 p.2.1 len p.2.2):=by
 subst hb
 have h1:¬ B.ins.length + r < B.ins.length:=by omega
 simp only [Bd.sub,h1,if_false,Nat.add_sub_cancel_left,h,Option.map_some,Nat.add_zero]
 cases p.2.2 <;> simp
theorem mtRows_ok {len:Nat}:∀ {ss cs:List V} {ps:List Wd} {i r b:Nat},mtRows k lo hi len M ss = some (cs,ps) → b = B.ins.length + r → (∀ (j:Nat) (v:V),cs[j]? = some v → B.ins[i + j]? = some v) → (∀ (j:Nat) (p:Wd),ps[j]? = some p → B.nm[r + j]? = some p) →
  B.subs (slRow len ss.length b) = some ss ∧ ps.length = ss.length ∧ cs.length = ss.length * len ∧ cs.all (numOk k lo hi) = true ∧ (rowRows k lo hi len ss.length i).length = ss.length ∧
  ∀ (j:Nat) (cs0:List V) (p:Wd),(rowRows k lo hi len ss.length i)[j]? = some cs0 → ps[j]? = some p → FitsRow B M cs0 p
 | [],cs,ps,i,r,b,h,_,_,_ => by
  simp only [mtRows,Option.some.injEq,Prod.mk.injEq] at h
  obtain ⟨rfl,rfl⟩:=h
  exact ⟨rfl,rfl,by simp,rfl,rfl,fun j cs0 p hj => by simp [rowRows] at hj⟩
 | v :: ss,cs,ps,i,r,b,h,hb,hi',hp' => by
  simp only [mtRows] at h
  split at h
  ·rename_i q hq
   obtain ⟨c1,p1⟩:=q
   simp only [Option.map_eq_some_iff,Prod.mk.injEq] at h
   obtain ⟨⟨c2,p2⟩,h2,rfl,rfl⟩:=h
   obtain ⟨rfl,e1,e2,e3,e4⟩:=mtRow_ok hq
   have hp0:=hp' 0 p1 (by simp)
   rw [Nat.add_zero] at hp0
   have ih:=mtRows_ok (ss:=ss) (i:=i + len) (r:=r + 1) (b:=b + 1) h2 (by omega) (fun j x hx => by
    have hj:=(List.getElem?_eq_some_iff.1 hx).1
    have:=hi' (len + j) x (by rw [List.getElem?_append_right (by omega)]; rw [show len + j - c1.length = j by omega]; exact hx)
    rw [show i + len + j = i + (len + j) by omega]; exact this) (fun j p hj => by
    rw [show r + 1 + j = r + (j + 1) by omega]; exact hp' (j + 1) p (by simpa using hj))
   obtain ⟨a1,a2,a3,a4,a5,a6⟩:=ih
   refine ⟨?_,by simp [a2],by simp [e1,a3,Nat.add_mul]; omega,by simp [List.all_append,e2,a4],by simp [rowRows,a5],?_⟩
   ·simp only [List.length_cons,slRow,Bd.subs,sub_sl hb hp0,a1,Option.map_some]
   ·intro j cs0 p hj hpj
    cases j with
    | zero =>
     simp only [List.length_cons,rowRows,List.getElem?_cons_zero,Option.some.injEq] at hj hpj
     subst hj hpj
     refine ⟨c1,?_,?_,?_⟩
     ·rw [← e1]
      exact subs_symRow (fun j x hx => hi' j x (by rw [List.getElem?_append_left (List.getElem?_eq_some_iff.1 hx).1]; exact hx)) e2
     ·rw [symRow_len]; exact e3
     ·rw [symRow_len]; exact e4
    | succ j =>
     simp only [List.length_cons,rowRows,List.getElem?_cons_succ] at hj hpj
     exact a6 j cs0 p hj hpj
  ·cases h
end
theorem all_bnd {k:IntKind} {lo hi:Int} {φ:Pl}:∀ {cs:List V} {ns:List Int},cs.all (numOk k lo hi) = true → nums φ cs = some ns → ∀ n ∈ ns,lo ≤ n ∧ n ≤ hi
 | [],ns,_,h,n,hn => by simp only [nums,Option.some.injEq] at h; subst h; cases hn
 | v :: cs,ns,ha,h,n,hn => by
  simp only [List.all_cons,Bool.and_eq_true] at ha
  simp only [nums,Option.bind_eq_some_iff,Option.map_eq_some_iff] at h
  obtain ⟨u,h1,l,h2,rfl⟩:=h
  rcases List.mem_cons.1 hn with rfl | hn
  ·have:=V.bnd h1
   have:=numOk_iff ha.1
   omega
  ·exact all_bnd ha.2 h2 n hn
theorem Fits.cons {tb:Tab} {acc:List (Option Int)} (h:Fits tb acc) {lo hi n:Int} (h0:lo ≤ n) (h1:n ≤ hi):Fits (some (lo,hi) :: tb) (some n :: acc):=by
 refine ⟨by simp [h.len],fun j a b hj => ?_⟩
 cases j with
 | zero =>
  simp only [List.getElem?_cons_zero,Option.some.injEq,Prod.mk.injEq] at hj
  obtain ⟨rfl,rfl⟩:=hj
  exact ⟨n,rfl,h0,h1⟩
 | succ j => exact h.num j a b (by simpa using hj)
theorem Fits.appendRow {tb:Tab} {acc:List (Option Int)} (h:Fits tb acc) {lo hi:Int}:∀ {ns:List Int},(∀ n ∈ ns,lo ≤ n ∧ n ≤ hi) → Fits (List.replicate ns.length (some (lo,hi)) ++ tb) (ns.map some ++ acc)
 | [],_ => h
 | n :: ns,hn => by
  have h1:=hn n (by simp)
  exact (Fits.appendRow h (ns:=ns) fun m hm => hn m (by simp [hm])).cons h1.1 h1.2
theorem nums_append {φ:Pl}:∀ {a b:List V} {ns:List Int},nums φ (a ++ b) = some ns → ∃ x y,nums φ a = some x ∧ nums φ b = some y ∧ ns = x ++ y
 | [],b,ns,h => ⟨[],ns,rfl,h,rfl⟩
 | v :: a,b,ns,h => by
  simp only [List.cons_append,nums,Option.bind_eq_some_iff,Option.map_eq_some_iff] at h ⊢
  obtain ⟨u,h1,l,h2,rfl⟩:=h
  obtain ⟨x,y,h3,h4,rfl⟩:=nums_append h2
  exact ⟨u :: x,y,⟨u,h1,x,h3,rfl⟩,h4,rfl⟩
section
variable {B:Bd} {M:Mem}
theorem mt_ok:∀ {shs:List Sh} {args ins:List V} {nm:List Wd} {i r n:Nat},mt M shs args = some (ins,nm) → n = B.ins.length → (∀ (j:Nat) (v:V),ins[j]? = some v → B.ins[i + j]? = some v) → (∀ (j:Nat) (p:Wd),nm[j]? = some p → B.nm[r + j]? = some p) →
  B.subs (genA n shs i r) = some args ∧ ins.length = cnts shs ∧ (genR n shs i r).length = nm.length ∧
  (∀ (j:Nat) (cs0:List V) (p:Wd),(genR n shs i r)[j]? = some cs0 → nm[j]? = some p → FitsRow B M cs0 p) ∧
  (∀ (φ:Pl) (ns:List Int),nums φ ins = some ns → Fits (tbOf shs) (ns.map some))
 | [],[],ins,nm,i,r,n,h,_,_,_ => by
  simp only [mt,Option.some.injEq,Prod.mk.injEq] at h
  obtain ⟨rfl,rfl⟩:=h
  refine ⟨rfl,rfl,rfl,fun j cs0 p hj => by simp [genR] at hj,fun φ ns hn => ?_⟩
  simp only [nums,Option.some.injEq] at hn; subst hn
  exact ⟨rfl,fun j a b hj => by simp [tbOf] at hj⟩
 | .num k lo hi :: l,v :: vs,ins,nm,i,r,n,h,hn,hi',hp' => by
  simp only [mt] at h
  split at h
  ·rename_i hv
   simp only [Option.map_eq_some_iff,Prod.mk.injEq] at h
   obtain ⟨⟨c2,p2⟩,h2,rfl,rfl⟩:=h
   have h0:=hi' 0 v (by simp)
   rw [Nat.add_zero] at h0
   obtain ⟨a1,a2,a3,a4,a5⟩:=mt_ok (i:=i + 1) (r:=r) h2 hn (fun j x hx => by
    rw [show i + 1 + j = i + (j + 1) by omega]; exact hi' (j + 1) x (by simpa using hx)) hp'
   have hk:=numOk_iff hv
   refine ⟨?_,by simp [cnts,Sh.cnt,a2]; omega,a3,a4,?_⟩
   ·simp only [genA,Bd.subs,Bd.sub,h0,hk,and_self,if_true,a1,Option.map_some]
   ·intro φ ns hns
    simp only [nums,Option.bind_eq_some_iff,Option.map_eq_some_iff] at hns
    obtain ⟨u,e1,ns',e2,rfl⟩:=hns
    have:=V.bnd e1
    exact (a5 φ ns' e2).cons (by omega) (by omega)
  ·cases h
 | .row k len lo hi :: l,v :: vs,ins,nm,i,r,n,h,hn,hi',hp' => by
  simp only [mt] at h
  split at h
  ·rename_i q hq
   obtain ⟨c1,p1⟩:=q
   simp only [Option.map_eq_some_iff,Prod.mk.injEq] at h
   obtain ⟨⟨c2,p2⟩,h2,rfl,rfl⟩:=h
   obtain ⟨rfl,e1,e2,e3,e4⟩:=mtRow_ok hq
   have hp0:=hp' 0 p1 (by simp)
   rw [Nat.add_zero] at hp0
   obtain ⟨a1,a2,a3,a4,a5⟩:=mt_ok (i:=i + len) (r:=r + 1) h2 hn (fun j x hx => by
    have:=hi' (len + j) x (by rw [List.getElem?_append_right (by omega)]; rw [show len + j - c1.length = j by omega]; exact hx)
    rw [show i + len + j = i + (len + j) by omega]; exact this) (fun j p hj => by
    rw [show r + 1 + j = r + (j + 1) by omega]; exact hp' (j + 1) p (by simpa using hj))
   refine ⟨?_,by simp [cnts,Sh.cnt,a2,e1],by simp [genR,a3],?_,?_⟩
   ·have hs:=sub_sl (B:=B) (b:=n + r) (r:=r) (len:=len) (p:=p1) (by rw [hn]) hp0
    simp only [genA,Bd.subs,hs,a1,Option.map_some]
   ·intro j cs0 p hj hpj
    cases j with
    | zero =>
     simp only [genR,List.getElem?_cons_zero,Option.some.injEq] at hj hpj
     subst hj hpj
     refine ⟨c1,?_,?_,?_⟩
     ·rw [← e1]
      exact subs_symRow (fun j x hx => hi' j x (by rw [List.getElem?_append_left (List.getElem?_eq_some_iff.1 hx).1]; exact hx)) e2
     ·rw [symRow_len]; exact e3
     ·rw [symRow_len]; exact e4
    | succ j =>
     simp only [genR,List.getElem?_cons_succ] at hj hpj
     exact a4 j cs0 p hj hpj
   ·intro φ ns hns
    obtain ⟨x,y,hx,hy,rfl⟩:=nums_append hns
    have hb:=all_bnd e2 hx
    have:=nums_len hx
    have:=(a5 φ y hy).appendRow hb
    rw [show x.length = len by omega] at this
    simpa [tbOf] using this
  ·cases h
 | .rows k cnt len lo hi :: l,v :: vs,ins,nm,i,r,n,h,hn,hi',hp' => by
  simp only [mt] at h
  split at h
  ·rename_i b o n' lim
   split at h
   ·rename_i ss hc hr
    simp only [Bool.and_eq_true] at hc
    have:=Nat.eq_of_beq_eq_true hc.1; subst this
    split at h
    ·rename_i q hq
     obtain ⟨c1,p1⟩:=q
     simp only [Option.map_eq_some_iff,Prod.mk.injEq] at h
     obtain ⟨⟨c2,p2⟩,h2,rfl,rfl⟩:=h
     have hlen:=rd_len hr
     have hlim:=limOk_iff (p:=(b,o,lim)) hc.2
     have hp0:=hp' 0 (b,o,lim) (by simp)
     rw [Nat.add_zero] at hp0
     obtain ⟨b1,b2,b3,b4,b5,b6⟩:=mtRows_ok (B:=B) (i:=i) (r:=r + 1) (b:=n + (r + 1)) hq (by rw [hn]) (fun j x hx => hi' j x (by rw [List.getElem?_append_left (List.getElem?_eq_some_iff.1 hx).1]; exact hx)) (fun j p hj => by
      rw [show r + 1 + j = r + (j + 1) by omega]
      exact hp' (j + 1) p (by rw [List.getElem?_cons_succ,List.getElem?_append_left (List.getElem?_eq_some_iff.1 hj).1]; exact hj))
     rw [hlen] at b1 b2 b3 b5 b6
     obtain ⟨a1,a2,a3,a4,a5⟩:=mt_ok (i:=i + n' * len) (r:=r + (1 + n')) h2 hn (fun j x hx => by
      have:=hi' (n' * len + j) x (by rw [List.getElem?_append_right (by omega)]; rw [show n' * len + j - c1.length = j by omega]; exact hx)
      rw [show i + n' * len + j = i + (n' * len + j) by omega]; exact this) (fun j p hj => by
      rw [show r + (1 + n') + j = r + ((n' + j) + 1) by omega]
      refine hp' (n' + j + 1) p ?_
      rw [List.getElem?_cons_succ,List.getElem?_append_right (by omega),show n' + j - p1.length = j by omega]; exact hj)
     refine ⟨?_,by simp [cnts,Sh.cnt,a2,b3],by simp [genR,a3,b2,b5],?_,?_⟩
     ·have hs:=sub_sl (B:=B) (b:=n + r) (r:=r) (len:=n') (p:=(b,o,lim)) (by rw [hn]) hp0
      simp only [genA,Bd.subs,hs,a1,Option.map_some]
     ·intro j cs0 p hj hpj
      cases j with
      | zero =>
       simp only [genR,List.getElem?_cons_zero,Option.some.injEq] at hj hpj
       subst hj hpj
       refine ⟨ss,b1,?_,?_⟩
       ·rw [slRow_len]; exact hr
       ·rw [slRow_len]; exact hlim
      | succ j =>
       simp only [genR,List.getElem?_cons_succ] at hj hpj
       by_cases hjn:j < n'
       ·rw [List.getElem?_append_left (by omega)] at hj hpj
        exact b6 j cs0 p hj hpj
       ·rw [List.getElem?_append_right (by omega)] at hj hpj
        rw [b5] at hj; rw [b2] at hpj
        exact a4 _ cs0 p hj hpj
     ·intro φ ns hns
      obtain ⟨x,y,hx,hy,rfl⟩:=nums_append hns
      have hb:=all_bnd b4 hx
      have:=nums_len hx
      have:=(a5 φ y hy).appendRow hb
      rw [show x.length = n' * len by omega] at this
      simpa [tbOf] using this
    ·cases h
   ·cases h
  ·cases h
 | .lit a :: l,v :: vs,ins,nm,i,r,n,h,hn,hi',hp' => by
  simp only [mt] at h
  split at h
  ·rename_i hv
   obtain ⟨_,h2⟩:=eqLit_iff hv
   obtain ⟨a1,a2,a3,a4,a5⟩:=mt_ok (i:=i) (r:=r) h hn hi' hp'
   refine ⟨?_,by simp [cnts,Sh.cnt,a2],a3,a4,a5⟩
   simp only [genA,Bd.subs,h2,a1,Option.map_some]
  ·cases h
 | [],_ :: _,_,_,_,_,_,h,_,_,_ => by simp [mt] at h
 | .num _ _ _ :: _,[],_,_,_,_,_,h,_,_,_ => by simp [mt] at h
 | .row _ _ _ _ :: _,[],_,_,_,_,_,h,_,_,_ => by simp [mt] at h
 | .rows _ _ _ _ _ :: _,[],_,_,_,_,_,h,_,_,_ => by simp [mt] at h
 | .lit _ :: _,[],_,_,_,_,_,h,_,_,_ => by simp [mt] at h
theorem mt_all {shs:List Sh} {args ins:List V} {nm:List Wd} (h:mt M shs args = some (ins,nm)) :
  (Bd.mk ins nm).subs (genA (cnts shs) shs 0 0) = some args ∧ ins.length = cnts shs ∧ (Bd.mk ins nm).fits M (genR (cnts shs) shs 0 0) ∧ ∀ (φ:Pl) (ns:List Int),nums φ ins = some ns → Fits (tbOf shs) (ns.map some):=by
 have h0:=mt_ok (B:=⟨ins,nm⟩) (i:=0) (r:=0) (n:=ins.length) h rfl (fun j v hv => by rw [Nat.zero_add]; exact hv) (fun j p hp => by rw [Nat.zero_add]; exact hp)
 obtain ⟨a1,a2,a3,a4,a5⟩:=h0
 rw [a2] at a1 a3 a4
 exact ⟨a1,a2,⟨a3.symm,fun i cs0 p h1 h2 => a4 i cs0 p h1 h2⟩,a5⟩
end
end
end
section
open Go.Proofs
section
variable {G:GF} {prot:Pr} {W0 w:World} {φ:Pl} {M M':Mem}
theorem MR.recell (h:MR G prot W0 φ M w) (hl:M'.length = M.length) (hb:∀ (i:Nat) (k':Blk),M'[i]? = some k' → M[i]? = some k' ∨ ∃ cs cs' gs,M[i]? = some (.own cs gs) ∧ k' = .own cs' gs ∧ ∀ us,concs φ cs = some us → concs φ cs' = some us) :
  MR G prot W0 φ M' w:=by
 refine ⟨h.os,h.tape,h.output,h.size,h.lt,h.kept,h.laid,fun i hi => h.fresh i (by omega),by have:=h.nbl; omega,h.base,?_,?_,?_,?_⟩
 ·intro i cs gs hi
  rcases hb i _ hi with h1 | ⟨ds,ds',g,h1,h2,h3⟩
  ·exact h.own i cs gs h1
  ·injection h2 with e1 e2; subst e1 e2
   obtain ⟨p,us,cur,e,a0,a1,a2,a3⟩:=h.own i ds gs h1
   exact ⟨p,us,cur,e,a0,a1,h3 us a2,a3⟩
 ·intro i j cs gs k p q hi hj hk hne hp hq
  have hi':∃ ds,M[i]? = some (.own ds gs):=by
   rcases hb i _ hi with h1 | ⟨ds,ds',g,h1,h2,_⟩
   ·exact ⟨_,h1⟩
   ·injection h2 with e1 e2; subst e2; exact ⟨_,h1⟩
  have hj':∃ k0,M[j]? = some k0 ∧ k0.isRow = true:=by
   rcases hb j _ hj with h1 | ⟨ds,ds',g,h1,h2,_⟩
   ·exact ⟨_,h1,hk⟩
   ·exact ⟨_,h1,rfl⟩
  obtain ⟨ds,hi'⟩:=hi'
  obtain ⟨k0,hj',hk0⟩:=hj'
  exact h.sep i j ds gs k0 p q hi' hj' hk0 hne hp hq
 ·intro i cs hi
  rcases hb i _ hi with h1 | ⟨ds,ds',g,h1,h2,_⟩
  ·exact h.ro i cs h1
  ·cases h2
 ·intro i d v hi
  rcases hb i _ hi with h1 | ⟨ds,ds',g,h1,h2,_⟩
  ·exact h.eqn i d v h1
  ·cases h2
theorem known_app {M E:Mem} {b:Nat} (hb:b < M.length):known (M ++ E) b = known M b:=by
 unfold known; rw [List.getElem?_append_left hb]
theorem rd_app {M E:Mem} {b o n:Nat} {cs:List V} (h:rd M b o n = some cs):rd (M ++ E) b o n = some cs:=by
 obtain ⟨k,hk,_⟩:=rd_row h
 have hlt:=(List.getElem?_eq_some_iff.1 hk).1
 unfold rd at h ⊢
 rw [List.getElem?_append_left hlt]; exact h
theorem Bd.fits.app {B:Bd} {M:Mem} {rows:List (List V)} (h:B.fits M rows) (E:Mem):B.fits (M ++ E) rows:=by
 refine ⟨h.len,fun i cs0 p h1 h2 => ?_⟩
 obtain ⟨cs,a1,a2,a3⟩:=h.row i cs0 p h1 h2
 obtain ⟨k,hk,_⟩:=rd_row a2
 refine ⟨cs,a1,rd_app a2,?_⟩
 cases hc:p.2.2 with
 | some c => rw [hc] at a3; exact a3
 | none => rw [hc] at a3; simp only at a3 ⊢; rw [known_app (List.getElem?_eq_some_iff.1 hk).1]; exact a3
end
noncomputable section
def idx2 (k:IntKind) (q:Nat):List (IntKind × Nat) → Nat → Option Nat
 | [],_ => none
 | a :: l,i => match decide (a.1 = k) && Nat.beq a.2 q with
  | true => some i
  | false => idx2 k q l (i + 1)
theorem idx2_get {k:IntKind} {q:Nat}:∀ {l:List (IntKind × Nat)} {i j:Nat},idx2 k q l i = some j → i ≤ j ∧ l[j - i]? = some (k,q)
 | [],_,_,h => by cases h
 | a :: l,i,j,h => by
  unfold idx2 at h
  split at h
  ·rename_i e
   simp only [Bool.and_eq_true,decide_eq_true_eq] at e
   have e2:=Nat.eq_of_beq_eq_true e.2
   injection h with h; subst h
   obtain ⟨a1,a2⟩:=a
   obtain ⟨e1,_⟩:=e
   simp only at e1 e2
   subst e1 e2
   exact ⟨Nat.le_refl _,by simp⟩
  ·obtain ⟨h1,h2⟩:=idx2_get h
   refine ⟨by omega,?_⟩
   rw [show j - i = (j - (i + 1)) + 1 by omega,List.getElem?_cons_succ]; exact h2
mutual
def renT (outs:List (IntKind × Nat)) (bl:List Nat):V → Option V
 | .int k n => some (.int k n)
 | .bool b => some (.bool b)
 | .str s => some (.str s)
 | .nilptr => some .nilptr
 | .nilsl => some .nilsl
 | .nilfn => some .nilfn
 | .nilif => some .nilif
 | .sym k q _ _ => (idx2 k q outs 0).map fun j => .sym k j 0 0
 | .ptr b o => (idxOf b bl 0).map fun i => .ptr i o
 | .sl b o len lim => (idxOf b bl 0).map fun i => .sl i o len lim
 | .fn f l => (renTs outs bl l).map (.fn f)
 | .agg l => (renTs outs bl l).map .agg
 | .tup l => (renTs outs bl l).map .tup
 | _ => none
def renTs (outs:List (IntKind × Nat)) (bl:List Nat):List V → Option (List V)
 | [] => some []
 | v :: vs => match renT outs bl v with
  | some x => (renTs outs bl vs).map (x :: ·)
  | none => none
end
mutual
def insT (ys:List V) (base:Nat):V → Option V
 | .int k n => some (.int k n)
 | .bool b => some (.bool b)
 | .str s => some (.str s)
 | .nilptr => some .nilptr
 | .nilsl => some .nilsl
 | .nilfn => some .nilfn
 | .nilif => some .nilif
 | .sym _ j _ _ => nth ys j
 | .ptr i o => some (.ptr (base + i) o)
 | .sl i o len lim => some (.sl (base + i) o len lim)
 | .fn f l => (insTs ys base l).map (.fn f)
 | .agg l => (insTs ys base l).map .agg
 | .tup l => (insTs ys base l).map .tup
 | _ => none
def insTs (ys:List V) (base:Nat):List V → Option (List V)
 | [] => some []
 | v :: vs => match insT ys base v with
  | some x => (insTs ys base vs).map (x :: ·)
  | none => none
end
def insN (ys:List V) (base:Nat):List (List V × Nat) → Option (List Blk)
 | [] => some []
 | p :: l => match insTs ys base p.1 with
  | some cs => (insN ys base l).map (.own cs p.2 :: ·)
  | none => none
def renN (outs:List (IntKind × Nat)) (bl:List Nat) (M:Mem):List Nat → Option (List (List V × Nat))
 | [] => some []
 | b :: l => match nth M b with
  | some (.own cs gs) => match renTs outs bl cs with
   | some cs' => (renN outs bl M l).map ((cs',gs) :: ·)
   | none => none
  | _ => none
section
variable {outs:List (IntKind × Nat)} {bl:List Nat} {ys:List V} {base:Nat} {sol:List (Option Int)} {φ1:Pl}
def Outs (outs:List (IntKind × Nat)) (ys:List V) (sol:List (Option Int)) (φ1:Pl):Prop :=
 ∀ (j:Nat) (k:IntKind) (q:Nat),outs[j]? = some (k,q) → ∃ y m,ys[j]? = some y ∧ sol[q]? = some (some m) ∧ y.conc φ1 = some (.int k m)
mutual
theorem tpl_ok (ho:Outs outs ys sol φ1):∀ (v0:V) {vT v:V},renT outs bl v0 = some vT → insT ys base vT = some v → ∃ v',rep sol bl base v0 = some v' ∧ ∀ (φ2:Pl) (u:Value),φ1.le φ2 → v'.conc φ2 = some u → v.conc φ2 = some u
 | .int _ _,vT,v,h,hi | .bool _,vT,v,h,hi | .str _,vT,v,h,hi | .nilptr,vT,v,h,hi | .nilsl,vT,v,h,hi | .nilfn,vT,v,h,hi | .nilif,vT,v,h,hi => by
  simp only [renT,Option.some.injEq] at h; subst h
  simp only [insT,Option.some.injEq] at hi; subst hi
  exact ⟨_,rfl,fun _ _ _ h => h⟩
 | .sym k q lo hi,vT,v,h,hins => by
  simp only [renT,Option.map_eq_some_iff] at h
  obtain ⟨j,hj,rfl⟩:=h
  simp only [insT,nth_eq] at hins
  have:=(idx2_get hj).2
  rw [Nat.sub_zero] at this
  obtain ⟨y,m,h1,h2,h3⟩:=ho j k q this
  rw [h1] at hins; injection hins with hins; subst hins
  refine ⟨.int k m,by simp only [rep,h2],fun φ2 u hle hu => ?_⟩
  simp only [V.conc,Option.some.injEq] at hu; subst hu
  exact V.conc_mono hle _ h3
 | .ptr b o,vT,v,h,hi => by
  simp only [renT,Option.map_eq_some_iff] at h
  obtain ⟨i,hb,rfl⟩:=h
  simp only [insT,Option.some.injEq] at hi; subst hi
  exact ⟨_,by simp only [rep,hb,Option.map_some],fun _ _ _ h => h⟩
 | .sl b o len lim,vT,v,h,hi => by
  simp only [renT,Option.map_eq_some_iff] at h
  obtain ⟨i,hb,rfl⟩:=h
  simp only [insT,Option.some.injEq] at hi; subst hi
  exact ⟨_,by simp only [rep,hb,Option.map_some],fun _ _ _ h => h⟩
 | .fn f l,vT,v,h,hi => by
  simp only [renT,Option.map_eq_some_iff] at h
  obtain ⟨l1,h1,rfl⟩:=h
  simp only [insT,Option.map_eq_some_iff] at hi
  obtain ⟨l2,h2,rfl⟩:=hi
  obtain ⟨l3,h3,h4⟩:=tpls_ok ho l h1 h2
  refine ⟨.fn f l3,by simp only [rep,h3,Option.map_some],fun φ2 u hle hu => ?_⟩
  simp only [V.conc,Option.map_eq_some_iff] at hu ⊢
  obtain ⟨us,hus,rfl⟩:=hu
  exact ⟨us,h4 φ2 us hle hus,rfl⟩
 | .agg l,vT,v,h,hi => by
  simp only [renT,Option.map_eq_some_iff] at h
  obtain ⟨l1,h1,rfl⟩:=h
  simp only [insT,Option.map_eq_some_iff] at hi
  obtain ⟨l2,h2,rfl⟩:=hi
  obtain ⟨l3,h3,h4⟩:=tpls_ok ho l h1 h2
  refine ⟨.agg l3,by simp only [rep,h3,Option.map_some],fun φ2 u hle hu => ?_⟩
  simp only [V.conc,Option.map_eq_some_iff] at hu ⊢
  obtain ⟨us,hus,rfl⟩:=hu
  exact ⟨us,h4 φ2 us hle hus,rfl⟩
 | .tup l,vT,v,h,hi => by
  simp only [renT,Option.map_eq_some_iff] at h
  obtain ⟨l1,h1,rfl⟩:=h
  simp only [insT,Option.map_eq_some_iff] at hi
  obtain ⟨l2,h2,rfl⟩:=hi
  obtain ⟨l3,h3,h4⟩:=tpls_ok ho l h1 h2
  refine ⟨.tup l3,by simp only [rep,h3,Option.map_some],fun φ2 u hle hu => ?_⟩
  simp only [V.conc,Option.map_eq_some_iff] at hu ⊢
  obtain ⟨us,hus,rfl⟩:=hu
  exact ⟨us,h4 φ2 us hle hus,rfl⟩
 | .gptr _ _,_,_,h,_ => by simp [renT] at h
 | .symb _,_,_,h,_ => by simp [renT] at h
 | .at _ _ _ _,_,_,h,_ => by simp [renT] at h
 | .among _ _,_,_,h,_ => by simp [renT] at h
 | .cut _ _ _,_,_,h,_ => by simp [renT] at h
theorem tpls_ok (ho:Outs outs ys sol φ1):∀ (l:List V) {lT l':List V},renTs outs bl l = some lT → insTs ys base lT = some l' → ∃ l3,reps sol bl base l = some l3 ∧ ∀ (φ2:Pl) (us:List Value),φ1.le φ2 → concs φ2 l3 = some us → concs φ2 l' = some us
 | [],lT,l',h,hi => by
  simp only [renTs,Option.some.injEq] at h; subst h
  simp only [insTs,Option.some.injEq] at hi; subst hi
  exact ⟨[],rfl,fun _ _ _ h => h⟩
 | v :: vs,lT,l',h,hi => by
  simp only [renTs] at h
  split at h
  ·rename_i x hx
   simp only [Option.map_eq_some_iff] at h
   obtain ⟨l1,h1,rfl⟩:=h
   simp only [insTs] at hi
   split at hi
   ·rename_i y hy
    simp only [Option.map_eq_some_iff] at hi
    obtain ⟨l2,h2,rfl⟩:=hi
    obtain ⟨v3,a1,a2⟩:=tpl_ok ho v hx hy
    obtain ⟨l3,a3,a4⟩:=tpls_ok ho vs h1 h2
    refine ⟨v3 :: l3,by simp only [reps,a1,a3,Option.map_some],fun φ2 us hle hu => ?_⟩
    obtain ⟨u,us',b1,b2,rfl⟩:=concs_cons.1 hu
    exact concs_cons.2 ⟨u,us',a2 φ2 u hle b1,a4 φ2 us' hle b2,rfl⟩
   ·cases hi
  ·cases h
end
theorem tplN_ok (ho:Outs outs ys sol φ1) {M0:Mem}:∀ {l:List Nat} {NT:List (List V × Nat)} {N:List Blk},renN outs bl M0 l = some NT → insN ys base NT = some N →
  ∃ N3,news sol bl base M0 l = some N3 ∧ N.length = N3.length ∧ ∀ (i:Nat) (k:Blk),N[i]? = some k → ∃ cs cs' gs,N3[i]? = some (.own cs gs) ∧ k = .own cs' gs ∧ ∀ (φ2:Pl) (us:List Value),φ1.le φ2 → concs φ2 cs = some us → concs φ2 cs' = some us
 | [],NT,N,h,hi => by
  simp only [renN,Option.some.injEq] at h; subst h
  simp only [insN,Option.some.injEq] at hi; subst hi
  exact ⟨[],rfl,rfl,fun i k hk => by simp at hk⟩
 | b :: l,NT,N,h,hi => by
  simp only [renN,nth_eq] at h
  split at h
  ·rename_i cs gs hb
   split at h
   ·rename_i cT hcT
    simp only [Option.map_eq_some_iff] at h
    obtain ⟨NT1,h1,rfl⟩:=h
    simp only [insN] at hi
    split at hi
    ·rename_i c2 hc2
     simp only [Option.map_eq_some_iff] at hi
     obtain ⟨N2,h2,rfl⟩:=hi
     obtain ⟨c3,a1,a2⟩:=tpls_ok ho cs hcT hc2
     obtain ⟨N3,a3,a4,a5⟩:=tplN_ok ho h1 h2
     refine ⟨.own c3 gs :: N3,by simp only [news,hb,a1,a3,Option.map_some],by simp [a4],?_⟩
     intro i k hk
     cases i with
     | zero =>
      simp only [List.getElem?_cons_zero,Option.some.injEq] at hk
      subst hk
      exact ⟨c3,c2,gs,by simp,rfl,a2⟩
     | succ i => simpa using a5 i k (by simpa using hk)
    ·cases hi
   ·cases h
  ·cases h
end
def mksK (X:Rule) (gid:Nat) (ins:List V):List IntKind → Nat → Mem → (List V → Mem → Option (V × Mem × List Nat)) → Option (V × Mem × List Nat)
 | [],_,M,k => k [] M
 | kd :: ks,j,M,k => match mkInt X M (.call gid j kd ins) with
  | some p => kV1 p.1 fun v => match p.2 with
   | some M' => kNew M M' fun M' => mksK X gid ins ks (j + 1) M' fun vs => k (v :: vs)
   | none => mksK X gid ins ks (j + 1) M fun vs => k (v :: vs)
  | none => none
theorem mkInt_ext {X:Rule} {M:Mem} {d:Def} {v:V} {m:Option Mem} (h:mkInt X M d = some (v,m)):∃ E,m.getD M = M ++ E:=by
 unfold mkInt at h
 simp only [lenK_eq,snocK_eq] at h
 split at h
 ·injection h with h; injection h with h1 h2; subst h1 h2; exact ⟨[],by simp⟩
 ·split at h
  ·injection h with h; injection h with h1 h2; subst h1 h2; exact ⟨_,rfl⟩
  ·cases h
theorem mksK_ok {G:GF} {X:Rule} (hG:GOK G) (hX:RuleOK G X) {gid:Nat} {ins:List V}:∀ {ks:List IntKind} {j0:Nat} {M:Mem} {k:List V → Mem → Option (V × Mem × List Nat)} {r:V × Mem × List Nat},mksK X gid ins ks j0 M k = some r →
  ∃ ys E,k ys (M ++ E) = some r ∧ Grow M (M ++ E) none ∧ ∀ (prot:Pr) (W0 w:World) (φ:Pl) (ns:List Int),MR G prot W0 φ M w → nums φ ins = some ns →
   ∃ φ1,φ.le φ1 ∧ MR G prot W0 φ1 (M ++ E) w ∧ ∀ (j:Nat) (kd:IntKind),ks[j]? = some kd → ∃ y,ys[j]? = some y ∧ y.conc φ1 = some (.int kd (G gid ns (j0 + j)))
 | [],j0,M,k,r,h => ⟨[],[],by rw [List.append_nil]; exact h,by simpa using Grow.refl M none,fun prot W0 w φ ns hM _ => ⟨φ,Pl.le_refl _,by simpa using hM,fun j kd hj => by simp at hj⟩⟩
 | kd :: ks,j0,M,k,r,h => by
  simp only [mksK] at h
  split at h
  ·rename_i p hp
   obtain ⟨v,m⟩:=p
   rw [kV1_eq] at h
   have h':mksK X gid ins ks (j0 + 1) (m.getD M) (fun vs => k (v :: vs)) = some r:=by
    cases m with
    | some M' => simpa [kNew_eq] using h
    | none => exact h
   obtain ⟨E1,hE1⟩:=mkInt_ext hp
   have hgr:=mkInt_grow hp
   rw [hE1] at h' hgr
   obtain ⟨ys,E,a1,a2,a3⟩:=mksK_ok hG hX h'
   refine ⟨v :: ys,E1 ++ E,by rw [← List.append_assoc]; exact a1,by rw [← List.append_assoc]; exact hgr.trans a2,?_⟩
   intro prot W0 w φ ns hM hn
   obtain ⟨φ1,b1,b2,b3⟩:=mkInt_sound hG hX hM hp (k:=kd) (n:=G gid ns j0) (by simp only [Def.val,hn,Option.map_some])
   rw [hE1] at b3
   obtain ⟨φ2,c1,c2,c3⟩:=a3 prot W0 w φ1 ns b3 (nums_mono b1 hn)
   refine ⟨φ2,Pl.le_trans b1 c1,by rw [← List.append_assoc]; exact c2,?_⟩
   intro j kd' hj
   cases j with
   | zero =>
    simp only [List.getElem?_cons_zero,Option.some.injEq] at hj; subst hj
    exact ⟨v,by simp,V.conc_mono c1 _ b2⟩
   | succ j =>
    obtain ⟨y,d1,d2⟩:=c3 j kd' (by simpa using hj)
    exact ⟨y,by simpa using d1,by rw [show j0 + (j + 1) = j0 + 1 + j by omega]; exact d2⟩
  ·cases h
structure Rn where
 gid:Nat
 f:FuncId
 shs:List Sh
 oks:List IntKind
 vT:V
 NT:List (List V × Nat)
def runS (X:Rule) (r:Rn):Known:=fun g args M =>
 match Nat.beq g r.f with
 | true => match mt M r.shs args with
  | some q => kVs q.1 fun ins => mksK X r.gid ins r.oks 0 M fun ys M1 => match insT ys M1.length r.vT,insN ys M1.length r.NT with
   | some v,some N => some (v,M1 ++ N,[])
   | _,_ => none
  | none => none
 | false => none
structure RnOK (G:GF) (r:Rn) (v0:V) (M0':Mem) (bl:List Nat) (outs:List (IntKind × Nat)):Prop where
 call:ACall Tryz.prog G r.f (genA (cnts r.shs) r.shs 0 0) (small (cnts r.shs) (genR (cnts r.shs) r.shs 0 0)) v0 M0'
 nd:∀ i j b:Nat,bl[i]? = some b → bl[j]? = some b → i = j
 ren:renT outs bl v0 = some r.vT
 renN:renN outs bl M0' bl = some r.NT
 kinds:∀ (j:Nat) (k:IntKind) (q:Nat),outs[j]? = some (k,q) → r.oks[j]? = some k
 sol:∀ (ns:List Int),Fits (tbOf r.shs) (ns.map some) → ∀ (j:Nat) (k:IntKind) (q:Nat),outs[j]? = some (k,q) → (solve G (M0'.drop (cnts r.shs)) (ns.map some))[q]? = some (some (G r.gid ns j))
theorem nums_join {φ:Pl}:∀ {a b:List V} {x y:List Int},nums φ a = some x → nums φ b = some y → nums φ (a ++ b) = some (x ++ y)
 | [],b,x,y,h,h' => by simp only [nums,Option.some.injEq] at h; subst h; simpa using h'
 | v :: a,b,x,y,h,h' => by
  simp only [nums,Option.bind_eq_some_iff,Option.map_eq_some_iff] at h
  obtain ⟨u,h1,l,h2,rfl⟩:=h
  simp only [List.cons_append,nums,h1,nums_join h2 h',Option.bind_some,Option.map_some]
theorem numOk_num {φ:Pl} {k:IntKind} {lo hi:Int} {v:V} {u:Value} (h:numOk k lo hi v = true) (hu:v.conc φ = some u):∃ n,v.num φ = some n:=by
 obtain ⟨n,_,hn⟩:=kind_num (numOk_iff h).1 hu
 exact ⟨n,hn⟩
theorem all_nums {φ:Pl} {k:IntKind} {lo hi:Int}:∀ {cs:List V} {us:List Value},cs.all (numOk k lo hi) = true → concs φ cs = some us → ∃ ns,nums φ cs = some ns
 | [],_,_,_ => ⟨[],rfl⟩
 | v :: cs,us,ha,h => by
  simp only [List.all_cons,Bool.and_eq_true] at ha
  obtain ⟨u,us',h1,h2,rfl⟩:=concs_cons.1 h
  obtain ⟨n,hn⟩:=numOk_num ha.1 h1
  obtain ⟨ns,hns⟩:=all_nums ha.2 h2
  exact ⟨n :: ns,by simp [nums,hn,hns]⟩
section
variable {G:GF} {prot:Pr} {W0 w:World} {φ:Pl} {M:Mem}
theorem mtRow_nums (hM:MR G prot W0 φ M w) {k:IntKind} {lo hi:Int} {len:Nat} {v:V} {cs:List V} {p:Wd} (h:mtRow k lo hi len M v = some (cs,p)):∃ ns,nums φ cs = some ns:=by
 obtain ⟨_,_,e2,e3,_⟩:=mtRow_ok h
 obtain ⟨q,us,_,h4,_⟩:=hM.read e3
 exact all_nums e2 h4
theorem mtRows_nums (hM:MR G prot W0 φ M w) {k:IntKind} {lo hi:Int} {len:Nat}:∀ {ss cs:List V} {ps:List Wd},mtRows k lo hi len M ss = some (cs,ps) → ∃ ns,nums φ cs = some ns
 | [],cs,ps,h => by
  simp only [mtRows,Option.some.injEq,Prod.mk.injEq] at h
  obtain ⟨rfl,rfl⟩:=h
  exact ⟨[],rfl⟩
 | v :: ss,cs,ps,h => by
  simp only [mtRows] at h
  split at h
  ·rename_i q hq
   obtain ⟨c1,p1⟩:=q
   simp only [Option.map_eq_some_iff,Prod.mk.injEq] at h
   obtain ⟨⟨c2,p2⟩,h2,rfl,rfl⟩:=h
   obtain ⟨x,hx⟩:=mtRow_nums hM hq
   obtain ⟨y,hy⟩:=mtRows_nums hM h2
   exact ⟨_,nums_join hx hy⟩
  ·cases h
theorem ins_nums (hM:MR G prot W0 φ M w):∀ {shs:List Sh} {args ins:List V} {nm:List Wd} {us:List Value},mt M shs args = some (ins,nm) → concs φ args = some us → ∃ ns,nums φ ins = some ns
 | [],[],ins,nm,us,h,_ => by
  simp only [mt,Option.some.injEq,Prod.mk.injEq] at h
  obtain ⟨rfl,rfl⟩:=h
  exact ⟨[],rfl⟩
 | .num k lo hi :: l,v :: vs,ins,nm,us,h,hu => by
  obtain ⟨u,us',h1,h2,rfl⟩:=concs_cons.1 hu
  simp only [mt] at h
  split at h
  ·rename_i hv
   simp only [Option.map_eq_some_iff,Prod.mk.injEq] at h
   obtain ⟨⟨c2,p2⟩,h3,rfl,rfl⟩:=h
   obtain ⟨n,hn⟩:=numOk_num hv h1
   obtain ⟨ns,hns⟩:=ins_nums hM h3 h2
   exact ⟨n :: ns,by simp [nums,hn,hns]⟩
  ·cases h
 | .row k len lo hi :: l,v :: vs,ins,nm,us,h,hu => by
  obtain ⟨u,us',h1,h2,rfl⟩:=concs_cons.1 hu
  simp only [mt] at h
  split at h
  ·rename_i q hq
   obtain ⟨c1,p1⟩:=q
   simp only [Option.map_eq_some_iff,Prod.mk.injEq] at h
   obtain ⟨⟨c2,p2⟩,h3,rfl,rfl⟩:=h
   obtain ⟨x,hx⟩:=mtRow_nums hM hq
   obtain ⟨y,hy⟩:=ins_nums hM h3 h2
   exact ⟨_,nums_join hx hy⟩
  ·cases h
 | .rows k cnt len lo hi :: l,v :: vs,ins,nm,us,h,hu => by
  obtain ⟨u,us',h1,h2,rfl⟩:=concs_cons.1 hu
  simp only [mt] at h
  split at h
  ·split at h
   ·split at h
    ·rename_i q hq
     obtain ⟨c1,p1⟩:=q
     simp only [Option.map_eq_some_iff,Prod.mk.injEq] at h
     obtain ⟨⟨c2,p2⟩,h3,rfl,rfl⟩:=h
     obtain ⟨x,hx⟩:=mtRows_nums hM hq
     obtain ⟨y,hy⟩:=ins_nums hM h3 h2
     exact ⟨_,nums_join hx hy⟩
    ·cases h
   ·cases h
  ·cases h
 | .lit a :: l,v :: vs,ins,nm,us,h,hu => by
  obtain ⟨u,us',h1,h2,rfl⟩:=concs_cons.1 hu
  simp only [mt] at h
  split at h
  ·exact ins_nums hM h h2
  ·cases h
 | [],_ :: _,_,_,_,h,_ => by simp [mt] at h
 | .num _ _ _ :: _,[],_,_,_,h,_ => by simp [mt] at h
 | .row _ _ _ _ :: _,[],_,_,_,h,_ => by simp [mt] at h
 | .rows _ _ _ _ _ :: _,[],_,_,_,h,_ => by simp [mt] at h
 | .lit _ :: _,[],_,_,_,h,_ => by simp [mt] at h
end
theorem insN_noro {ys:List V} {base:Nat}:∀ {NT:List (List V × Nat)} {N:List Blk},insN ys base NT = some N → ∀ cs,Blk.ro cs ∉ N
 | [],N,h => by simp only [insN,Option.some.injEq] at h; subst h; simp
 | p :: l,N,h => by
  simp only [insN] at h
  split at h
  ·simp only [Option.map_eq_some_iff] at h
   obtain ⟨N',h1,rfl⟩:=h
   intro cs hm
   rcases List.mem_cons.1 hm with hm | hm
   ·cases hm
   ·exact insN_noro h1 cs hm
  ·cases h
theorem runS_ok {G:GF} {X:Rule} (hG:GOK G) (hX:RuleOK G X) {r:Rn} {v0:V} {M0':Mem} {bl:List Nat} {outs:List (IntKind × Nat)} (h:RnOK G r v0 M0' bl outs):CallOK Tryz.prog G (runS X r):=by
 intro g args M v M' ch hh
 unfold runS at hh
 split at hh
 ·rename_i hg
  have:=Nat.eq_of_beq_eq_true hg; subst this
  split at hh
  ·rename_i q hq
   obtain ⟨ins,nm⟩:=q
   rw [kVs_eq] at hh
   obtain ⟨ys,E,h1,h2,h3⟩:=mksK_ok hG hX hh
   split at h1
   ·rename_i v' N hv hN
    simp only [Option.some.injEq,Prod.mk.injEq] at h1
    obtain ⟨rfl,rfl,rfl⟩:=h1
    refine ⟨⟨h.call.1,?_⟩,Grow.toL (c:=none) (h2.trans (Grow.app _ _ _ (insN_noro hN)))⟩
    intro prot W0 φ w us hM hus
    obtain ⟨a1,a2,a3,a4⟩:=mt_all hq
    obtain ⟨ns,hns⟩:∃ ns,nums φ ins = some ns:=by
     exact ins_nums hM hq hus
    obtain ⟨φ1,b1,b2,b3⟩:=h3 prot W0 w φ ns hM hns
    have hsol:=h.sol ns (a4 φ ns hns)
    have ho:Outs outs ys (solve G (M0'.drop (Bd.mk ins nm).ins.length) (ns.map some)) φ1:=by
     intro j k q hj
     obtain ⟨y,c1,c2⟩:=b3 j k (h.kinds j k q hj)
     rw [Nat.zero_add] at c2
     refine ⟨y,_,c1,?_,c2⟩
     rw [show (Bd.mk ins nm).ins.length = cnts r.shs from a2]
     exact hsol j k q hj
    obtain ⟨v',d1,d2⟩:=tpl_ok ho v0 h.ren hv
    obtain ⟨N3,d3,d4,d5⟩:=tplN_ok ho h.renN hN
    have hc:=h.call
    rw [← a2] at hc
    have a1':=a1
    have a3':=a3
    rw [← a2] at a1' a3'
    refine Calls.mono (sumcall (B:=⟨ins,nm⟩) hc a1' (a3'.app E) h.nd b2 (concs_mono b1 _ hus) (nums_mono b1 hns) d1 d3) ?_
    intro e w' he
    cases e with
    | returned u =>
     obtain ⟨φ2,e1,e2,e3⟩:=he
     refine ⟨φ2,Pl.le_trans b1 e1,d2 φ2 u e1 e2,e3.recell (by simp [d4]) ?_⟩
     intro i k hi
     by_cases hlt:i < (M ++ E).length
     ·rw [List.getElem?_append_left hlt] at hi ⊢
      exact .inl hi
     ·rw [List.getElem?_append_right (by omega)] at hi ⊢
      obtain ⟨cs,cs',gs,f1,f2,f3⟩:=d5 _ k hi
      exact .inr ⟨cs,cs',gs,f1,f2,fun us hus => f3 φ2 us e1 hus⟩
    | panicked c => exact he.elim
    | outgrown => exact he.elim
   ·cases h1
  ·cases hh
 ·cases hh
end
end
section
open Go.Proofs
noncomputable section
def avoid (bad:List Nat):Mem → Bool
 | [] => true
 | b :: M => (match b with
  | .eqn d _ => match d with
   | .call g _ _ _ => !memN bad g
   | _ => true
  | _ => true) && avoid bad M
theorem numOf_congr {G G':GF} {acc:List (Option Int)} {d:Def} (h:d.val G (plOf acc) = d.val G' (plOf acc)):numOf G acc d = numOf G' acc d:=by
 unfold numOf; rw [h]
theorem solve_congr {G G':GF} {bad:List Nat} (h:∀ g,g ∉ bad → G g = G' g):∀ (D:Mem) (acc:List (Option Int)),avoid bad D = true → solve G D acc = solve G' D acc
 | [],_,_ => rfl
 | b :: D,acc,ha => by
  simp only [avoid,Bool.and_eq_true] at ha
  have:sol1 G acc b = sol1 G' acc b:=by
   unfold sol1
   split
   ·rename_i d k i lo hi
    split
    ·refine numOf_congr ?_
     have h1:=ha.1
     cases d <;> first | rfl | skip
     rename_i g j k' l
     simp only [Bool.not_eq_true',← Bool.not_eq_true,memN_iff] at h1
     simp only [Def.val,h g h1]
    ·rfl
   ·rfl
  rw [solve,solve,this]
  exact solve_congr h D _ ha.2
def numAt (sol:List (Option Int)) (qs:List Nat) (j:Nat):Int:=match qs[j]? with
 | some q => match sol[q]? with
  | some (some n) => n
  | _ => 0
 | none => 0
def clampG (g:Nat) (n:Int):Int:=if (gb g).1 ≤ n ∧ n ≤ (gb g).2 then n else (gb g).1
theorem gb_le (g:Nat):(gb g).1 ≤ (gb g).2:=by
 unfold gb
 split
 ·decide
 ·split
  ·decide
  ·split <;> decide
theorem clampG_in (g:Nat) (n:Int):(gb g).1 ≤ clampG g n ∧ clampG g n ≤ (gb g).2:=by
 unfold clampG
 have:=gb_le g
 split
 ·assumption
 ·exact ⟨Int.le_refl _,this⟩
abbrev Lvl:=Nat × Mem × List Nat
def lev (G:GF) (e:Lvl):GF:=fun g ns j => if g = e.1 then clampG e.1 (numAt (solve G e.2.1 (ns.map some)) e.2.2 j) else G g ns j
def levs (G:GF):List Lvl → GF
 | [] => G
 | e :: l => lev (levs G l) e
theorem lev_ok {G:GF} (h:GOK G) (e:Lvl):GOK (lev G e):=by
 intro g l j
 unfold lev
 split
 ·rename_i hg; subst hg; exact clampG_in _ _
 ·exact h g l j
theorem levs_ok {G:GF} (h:GOK G):∀ l,GOK (levs G l)
 | [] => h
 | e :: l => lev_ok (levs_ok h l) e
theorem lev_other {G:GF} {e:Lvl} {g:Nat} (h:g ≠ e.1):lev G e g = G g:=by
 funext ns j; unfold lev; rw [if_neg h]
theorem levs_tail {G:GF} {g:Nat}:∀ {l1 l:List Lvl},g ∉ l1.map (·.1) → levs G (l1 ++ l) g = levs G l g
 | [],_,_ => rfl
 | e :: l1,l,h => by
  simp only [List.map_cons,List.mem_cons,not_or] at h
  show lev (levs G (l1 ++ l)) e g = _
  rw [lev_other h.1,levs_tail h.2]
theorem levs_base {G:GF} {g:Nat} {l:List Lvl} (h:g ∉ l.map (·.1)):levs G l g = G g:=by
 have:=levs_tail (G:=G) (g:=g) (l1:=l) (l:=[]) h
 rwa [List.append_nil] at this
theorem levs_at {G:GF} {l1 l:List Lvl} {e:Lvl} (h1:e.1 ∉ l1.map (·.1)) (ha:avoid (e.1 :: l1.map (·.1)) e.2.1 = true) (ns:List Int) (j:Nat) :
  levs G (l1 ++ e :: l) e.1 ns j = clampG e.1 (numAt (solve (levs G (l1 ++ e :: l)) e.2.1 (ns.map some)) e.2.2 j):=by
 rw [levs_tail h1]
 show lev (levs G l) e e.1 ns j = _
 unfold lev
 rw [if_pos rfl]
 congr 2
 refine solve_congr (bad:=e.1 :: l1.map (·.1)) ?_ _ _ ha
 intro g hg
 simp only [List.mem_cons,not_or] at hg
 rw [levs_tail hg.2]
 show _ = lev (levs G l) e g
 rw [lev_other hg.1]
def addN (b:Nat) (acc:List Nat):List Nat:=match memN acc b with
 | true => acc
 | false => acc ++ [b]
mutual
def refs:V → List Nat → List Nat
 | .ptr b _,acc => addN b acc
 | .sl b _ _ _,acc => addN b acc
 | .fn _ l,acc => refss l acc
 | .agg l,acc => refss l acc
 | .tup l,acc => refss l acc
 | _,acc => acc
def refss:List V → List Nat → List Nat
 | [],acc => acc
 | v :: vs,acc => refss vs (refs v acc)
end
def more (M:Mem):List Nat → List Nat → List Nat
 | [],acc => acc
 | b :: l,acc => more M l (match nth M b with
  | some (.own cs _) => refss cs acc
  | _ => acc)
variable {α:Type}
def kBlks (v0:V) (M:Mem) (k:List Nat → α):α:=kNats (refs v0 []) fun b1 => kNats (more M b1 b1) fun b2 => kNats (more M b2 b2) fun b3 => kNats (more M b3 b3) fun b4 => kNats (more M b4 b4) k
def addO (k:IntKind) (q:Nat) (acc:List (IntKind × Nat)):List (IntKind × Nat):=match idx2 k q acc 0 with
 | some _ => acc
 | none => acc ++ [(k,q)]
mutual
def syms:V → List (IntKind × Nat) → List (IntKind × Nat)
 | .sym k q _ _,acc => addO k q acc
 | .fn _ l,acc => symss l acc
 | .agg l,acc => symss l acc
 | .tup l,acc => symss l acc
 | _,acc => acc
def symss:List V → List (IntKind × Nat) → List (IntKind × Nat)
 | [],acc => acc
 | v :: vs,acc => symss vs (syms v acc)
end
def symN (M:Mem):List Nat → List (IntKind × Nat) → List (IntKind × Nat)
 | [],acc => acc
 | b :: l,acc => symN M l (match nth M b with
  | some (.own cs _) => symss cs acc
  | _ => acc)
def kOuts (l:List (IntKind × Nat)):(List (IntKind × Nat) → α) → α:=List.rec (motive:=fun _ => (List (IntKind × Nat) → α) → α) (fun k => k []) (fun a _ ih k => kNat a.2 fun q => ih fun l => k ((a.1,q) :: l)) l
theorem kOuts_eq (l:List (IntKind × Nat)):∀ (k:List (IntKind × Nat) → α),kOuts l k = k l:=by
 induction l with
 | nil => intro k; rfl
 | cons a l ih =>
  intro k
  show kNat a.2 (fun q => kOuts l fun l => k ((a.1,q) :: l)) = _
  rw [kNat_eq]; exact ih _
def ndN:List Nat → Bool
 | [] => true
 | a :: l => !memN l a && ndN l
theorem ndN_ok:∀ {l:List Nat},ndN l = true → ∀ i j b:Nat,l[i]? = some b → l[j]? = some b → i = j
 | [],_,i,j,b,h,_ => by simp at h
 | a :: l,h,i,j,b,hi,hj => by
  simp only [ndN,Bool.and_eq_true,Bool.not_eq_true',← Bool.not_eq_true,memN_iff] at h
  cases i with
  | zero =>
   cases j with
   | zero => rfl
   | succ j =>
    simp only [List.getElem?_cons_zero,Option.some.injEq,List.getElem?_cons_succ] at hi hj
    subst hi
    exact absurd (List.mem_of_getElem? hj) h.1
  | succ i =>
   cases j with
   | zero =>
    simp only [List.getElem?_cons_zero,Option.some.injEq,List.getElem?_cons_succ] at hi hj
    subst hj
    exact absurd (List.mem_of_getElem? hi) h.1
   | succ j =>
    rw [ndN_ok h.2 i j b (by simpa using hi) (by simpa using hj)]
def eqOpt:Option Nat → Option Nat → Bool
 | none,none => true
 | some a,some b => Nat.beq a b
 | _,_ => false
theorem eqOpt_iff {a b:Option Nat} (h:eqOpt a b = true):a = b:=by
 cases a <;> cases b <;> simp [eqOpt] at h <;> simp_all
mutual
def eqV:V → V → Bool
 | .int k n,.int k' m => decide (k = k') && eqI n m
 | .bool a,.bool b => a == b
 | .nilptr,.nilptr => true
 | .nilsl,.nilsl => true
 | .nilfn,.nilfn => true
 | .nilif,.nilif => true
 | .sym k j a b,.sym k' j' a' b' => decide (k = k') && (Nat.beq j j' && (eqI a a' && eqI b b'))
 | .ptr b o,.ptr b' o' => Nat.beq b b' && Nat.beq o o'
 | .sl b o l m,.sl b' o' l' m' => Nat.beq b b' && (Nat.beq o o' && (Nat.beq l l' && eqOpt m m'))
 | .fn f l,.fn f' l' => Nat.beq f f' && eqVs l l'
 | .agg l,.agg l' => eqVs l l'
 | .tup l,.tup l' => eqVs l l'
 | _,_ => false
def eqVs:List V → List V → Bool
 | [],[] => true
 | a :: l,b :: l' => eqV a b && eqVs l l'
 | _,_ => false
end
mutual
theorem eqV_iff:∀ {a b:V},eqV a b = true → a = b
 | .int _ _,b,h => by
  cases b <;> simp [eqV,eqI_iff] at h
  obtain ⟨rfl,rfl⟩:=h; rfl
 | .bool _,b,h => by
  cases b <;> simp [eqV] at h
  subst h; rfl
 | .nilptr,b,h => by cases b <;> simp [eqV] at h; rfl
 | .nilsl,b,h => by cases b <;> simp [eqV] at h; rfl
 | .nilfn,b,h => by cases b <;> simp [eqV] at h; rfl
 | .nilif,b,h => by cases b <;> simp [eqV] at h; rfl
 | .sym _ _ _ _,b,h => by
  cases b <;> simp [eqV,eqI_iff] at h
  obtain ⟨rfl,rfl,rfl,rfl⟩:=h; rfl
 | .ptr _ _,b,h => by
  cases b <;> simp [eqV] at h
  obtain ⟨rfl,rfl⟩:=h; rfl
 | .sl _ _ _ _,b,h => by
  cases b <;> simp [eqV] at h
  obtain ⟨rfl,rfl,rfl,h⟩:=h
  rw [eqOpt_iff h]
 | .fn _ l,b,h => by
  cases b <;> simp [eqV] at h
  obtain ⟨rfl,h⟩:=h
  rw [eqVs_iff h]
 | .agg l,b,h => by
  cases b <;> simp [eqV] at h
  rw [eqVs_iff h]
 | .tup l,b,h => by
  cases b <;> simp [eqV] at h
  rw [eqVs_iff h]
 | .str _,b,h => by cases b <;> simp [eqV] at h
 | .gptr _ _,b,h => by cases b <;> simp [eqV] at h
 | .symb _,b,h => by cases b <;> simp [eqV] at h
 | .at _ _ _ _,b,h => by cases b <;> simp [eqV] at h
 | .among _ _,b,h => by cases b <;> simp [eqV] at h
 | .cut _ _ _,b,h => by cases b <;> simp [eqV] at h
theorem eqVs_iff:∀ {a b:List V},eqVs a b = true → a = b
 | [],[],_ => rfl
 | [],_ :: _,h => by simp [eqVs] at h
 | _ :: _,[],h => by simp [eqVs] at h
 | a :: l,b :: l',h => by
  simp only [eqVs,Bool.and_eq_true] at h
  rw [eqV_iff h.1,eqVs_iff h.2]
end
def eqNT:List (List V × Nat) → List (List V × Nat) → Bool
 | [],[] => true
 | a :: l,b :: l' => (eqVs a.1 b.1 && Nat.beq a.2 b.2) && eqNT l l'
 | _,_ => false
theorem eqNT_iff:∀ {a b:List (List V × Nat)},eqNT a b = true → a = b
 | [],[],_ => rfl
 | [],_ :: _,h => by simp [eqNT] at h
 | _ :: _,[],h => by simp [eqNT] at h
 | (a1,a2) :: l,(b1,b2) :: l',h => by
  simp only [eqNT,Bool.and_eq_true] at h
  have e1:=eqVs_iff h.1.1
  have e2:=Nat.eq_of_beq_eq_true h.1.2
  rw [e1,e2,eqNT_iff h.2]
def eqKs:List (IntKind × Nat) → List IntKind → Bool
 | [],[] => true
 | a :: l,b :: l' => decide (a.1 = b) && eqKs l l'
 | _,_ => false
theorem eqKs_iff:∀ {l:List (IntKind × Nat)} {ks:List IntKind},eqKs l ks = true → ∀ (j:Nat) (k:IntKind) (q:Nat),l[j]? = some (k,q) → ks[j]? = some k
 | [],_,_,j,k,q,h => by simp at h
 | a :: l,[],h,_,_,_,_ => by simp [eqKs] at h
 | a :: l,b :: ks,h,j,k,q,hj => by
  simp only [eqKs,Bool.and_eq_true,decide_eq_true_eq] at h
  cases j with
  | zero =>
   simp only [List.getElem?_cons_zero,Option.some.injEq] at hj
   subst hj
   simpa using h.1.symm
  | succ j => simpa using eqKs_iff h.2 j k q (by simpa using hj)
def kFN (X:Rule) (S:Known) (m f:Nat) (args:List V) (M:Mem):Option (V × Mem × List Nat):=kAll M fun M => kVs args fun args => FN X tyF fn S m f args M
theorem kFN_eq (X:Rule) (S:Known) (m f:Nat) (args:List V) (M:Mem):kFN X S m f args M = FN X tyF fn S m f args M:=by simp [kFN,kAll_eq,kVs_eq]
def resOf (X:Rule) (S:Known) (m:Nat) (r:Rn):Option (V × Mem × List Nat):=kFN X S m r.f (genA (cnts r.shs) r.shs 0 0) (small (cnts r.shs) (genR (cnts r.shs) r.shs 0 0))
def dropK (M:Mem):Nat → Mem:=List.rec (motive:=fun _ => Nat → Mem) (fun _ => []) (fun b l ih n => Nat.casesOn n (b :: l) (fun m => ih m)) M
theorem dropK_eq (M:Mem):∀ n,dropK M n = M.drop n:=by
 induction M with
 | nil => intro n; simp [dropK]
 | cons a M ih => intro n; cases n with
  | zero => rfl
  | succ n => exact ih n
def outsOf (p:V × Mem × List Nat):List (IntKind × Nat):=kBlks p.1 p.2.1 fun bl => symN p.2.1 bl (syms p.1 [])
def entOf (X:Rule) (S:Known) (m:Nat) (r:Rn):Lvl :=
 match resOf X S m r with
 | some p => (r.gid,dropK p.2.1 (cnts r.shs),(outsOf p).map (·.2))
 | none => (r.gid,[],[])
def outIn (gid:Nat) (tb:Tab):List (IntKind × Nat) → Bool
 | [] => true
 | a :: l => (match nth tb a.2 with
  | some (some p) => leI (gb gid).1 p.1 && leI p.2 (gb gid).2
  | _ => false) && outIn gid tb l
def kTab (l:Tab):(Tab → α) → α:=List.rec (motive:=fun _ => (Tab → α) → α) (fun k => k []) (fun a _ ih k => match a with
 | some p => kInt p.1 fun x => kInt p.2 fun y => ih fun l => k (some (x,y) :: l)
 | none => ih fun l => k (none :: l)) l
theorem kTab_eq (l:Tab):∀ (k:Tab → α),kTab l k = k l:=by
 induction l with
 | nil => intro k; rfl
 | cons a l ih =>
  intro k
  cases a with
  | none => exact ih _
  | some p =>
   show kInt p.1 (fun x => kInt p.2 fun y => kTab l fun l => k (some (x,y) :: l)) = _
   rw [kInt_eq,kInt_eq]; exact ih _
def rnChk (X:Rule) (S:Known) (m:Nat) (r:Rn) (bad:List Nat):Bool :=
 match resOf X S m r with
 | some p => kBlks p.1 p.2.1 fun bl => kOuts (symN p.2.1 bl (syms p.1 [])) fun outs =>
   ndN bl && ((match renT outs bl p.1 with | some v => eqV v r.vT | none => false) && ((match renN outs bl p.2.1 bl with | some N => eqNT N r.NT | none => false) &&
    (eqKs outs r.oks && (avoid bad (dropK p.2.1 (cnts r.shs)) && tabsK (dropK p.2.1 (cnts r.shs)) (tbOf r.shs) fun tb => outIn r.gid tb outs))))
 | none => false
theorem outIn_ok {gid:Nat} {tb:Tab}:∀ {l:List (IntKind × Nat)},outIn gid tb l = true → ∀ (j:Nat) (k:IntKind) (q:Nat),l[j]? = some (k,q) → ∃ lo hi,tb[q]? = some (some (lo,hi)) ∧ (gb gid).1 ≤ lo ∧ hi ≤ (gb gid).2
 | [],_,j,k,q,h => by simp at h
 | a :: l,h,j,k,q,hj => by
  simp only [outIn,nth_eq,Bool.and_eq_true] at h
  cases j with
  | zero =>
   simp only [List.getElem?_cons_zero,Option.some.injEq] at hj
   subst hj
   have h1:=h.1
   split at h1
   ·rename_i p hp
    simp only [Bool.and_eq_true,leI_iff] at h1
    exact ⟨p.1,p.2,hp,h1⟩
   ·cases h1
  | succ j => exact outIn_ok h.2 j k q (by simpa using hj)
theorem rn_ok {G:GF} {X:Rule} {S:Known} (hG:GOK G) (hX:RuleOK G X) (hS:CallOK Tryz.prog G S) {m:Nat} {r:Rn} {bad:List Nat} (h:rnChk X S m r bad = true)
  (hg:∀ ns j,G r.gid ns j = clampG r.gid (numAt (solve G (entOf X S m r).2.1 (ns.map some)) (entOf X S m r).2.2 j)):CallOK Tryz.prog G (runS X r):=by
 unfold rnChk at h
 split at h
 ·rename_i p hp
  obtain ⟨v0,M0',ch⟩:=p
  have hent:entOf X S m r = (r.gid,dropK M0' (cnts r.shs),(outsOf (v0,M0',ch)).map (·.2)):=by unfold entOf; rw [hp]
  rw [hent] at hg
  have hout:outsOf (v0,M0',ch) = kBlks v0 M0' fun bl => symN M0' bl (syms v0 []):=rfl
  rw [hout] at hg
  simp only [kBlks,kNats_eq,kOuts_eq,tabsK_eq,dropK_eq] at h hg
  generalize more M0' (more M0' (more M0' (more M0' (refs v0 []) (refs v0 [])) (more M0' (refs v0 []) (refs v0 []))) (more M0' (more M0' (refs v0 []) (refs v0 [])) (more M0' (refs v0 []) (refs v0 [])))) (more M0' (more M0' (more M0' (refs v0 []) (refs v0 [])) (more M0' (refs v0 []) (refs v0 []))) (more M0' (more M0' (refs v0 []) (refs v0 [])) (more M0' (refs v0 []) (refs v0 [])))) = bl at h hg
  generalize symN M0' bl (syms v0 []) = outs at h hg
  simp only [Bool.and_eq_true] at h
  obtain ⟨h1,h2,h3,h4,h5,h6⟩:=h
  split at h2
  ·rename_i v hv
   split at h3
   ·rename_i N hN
    have e2:=eqV_iff h2
    have e3:=eqNT_iff h3
    subst e2 e3
    refine runS_ok (v0:=v0) (M0':=M0') (bl:=bl) (outs:=outs) hG hX ⟨(run hG hX hS m _ _ _ _ _ _ (by rw [resOf,kFN_eq] at hp; exact hp)).1,ndN_ok h1,hv,hN,eqKs_iff h4,?_⟩
    intro ns hf j k q hj
    have hf2:=tabs_ok (G:=G) hG (M0'.drop (cnts r.shs)) hf
    obtain ⟨lo,hi,a1,a2,a3⟩:=outIn_ok h6 j k q hj
    obtain ⟨n,b1,b2,b3⟩:=hf2.num q lo hi a1
    rw [b1,hg ns j]
    have e1:numAt (solve G (M0'.drop (cnts r.shs)) (ns.map some)) (outs.map (·.2)) j = n:=by
     unfold numAt
     simp only [List.getElem?_map,hj,Option.map_some,b1]
    rw [e1]
    unfold clampG
    rw [if_pos ⟨by omega,by omega⟩]
   ·cases h3
  ·cases h2
 ·cases h
theorem rnChk_avoid {X:Rule} {S:Known} {m:Nat} {r:Rn} {bad:List Nat} (h:rnChk X S m r bad = true):avoid bad (entOf X S m r).2.1 = true:=by
 unfold rnChk at h
 unfold entOf
 split at h
 ·rename_i p hp
  simp only [kBlks,kNats_eq,kOuts_eq,Bool.and_eq_true] at h
  exact h.2.2.2.2.1
 ·cases h
structure Nf where
 gid:Nat
 f:FuncId
 shs:List (IntKind × Int × Int)
 k:IntKind
def nfOk:List (IntKind × Int × Int) → List V → Bool
 | [],[] => true
 | s :: l,v :: vs => numOk s.1 s.2.1 s.2.2 v && nfOk l vs
 | _,_ => false
def nfIn:List (IntKind × Int × Int) → List Int → Prop
 | [],[] => True
 | s :: l,n :: ns => s.2.1 ≤ n ∧ n ≤ s.2.2 ∧ nfIn l ns
 | _,_ => False
def nfInts:List (IntKind × Int × Int) → List Int → List V
 | s :: l,n :: ns => .int s.1 n :: nfInts l ns
 | _,_ => []
def litsOf:List V → Option (List Int)
 | [] => some []
 | .int _ n :: l => (litsOf l).map (n :: ·)
 | _ => none
def numS (X:Rule) (r:Nf) (F:List Int → Int):Known:=fun g args M =>
 match Nat.beq g r.f && nfOk r.shs args with
 | true => match litsOf args with
  | some ns => kInt (F ns) fun n => some (.int r.k n,M,[])
  | none => (mkInt X M (.call r.gid 0 r.k args)).map fun p => (p.1,p.2.getD M,[])
 | false => none
theorem nf_nums {φ:Pl}:∀ {shs:List (IntKind × Int × Int)} {args:List V} {us:List Value},nfOk shs args = true → concs φ args = some us → ∃ ns,nums φ args = some ns ∧ nfIn shs ns ∧ concs φ (nfInts shs ns) = some us
 | [],[],us,_,h => ⟨[],rfl,trivial,h⟩
 | [],_ :: _,_,h,_ => by simp [nfOk] at h
 | _ :: _,[],_,h,_ => by simp [nfOk] at h
 | s :: l,v :: vs,us,h,hu => by
  simp only [nfOk,Bool.and_eq_true] at h
  obtain ⟨u,us',h1,h2,rfl⟩:=concs_cons.1 hu
  obtain ⟨n,rfl,hn⟩:=kind_num (numOk_iff h.1).1 h1
  obtain ⟨ns,a1,a2,a3⟩:=nf_nums h.2 h2
  have:=V.bnd hn
  have:=numOk_iff h.1
  refine ⟨n :: ns,by simp [nums,hn,a1],⟨by omega,by omega,a2⟩,?_⟩
  simp only [nfInts]
  exact concs_cons.2 ⟨_,_,rfl,a3,rfl⟩
theorem litsOf_nums {φ:Pl}:∀ {l:List V} {ns ms:List Int},litsOf l = some ns → nums φ l = some ms → ms = ns
 | [],ns,ms,h,h' => by
  simp only [litsOf,Option.some.injEq] at h; subst h
  simp only [nums,Option.some.injEq] at h'; exact h'.symm
 | .int k n :: l,ns,ms,h,h' => by
  simp only [litsOf,Option.map_eq_some_iff] at h
  obtain ⟨l1,h1,rfl⟩:=h
  simp only [nums,Option.bind_eq_some_iff,Option.map_eq_some_iff] at h'
  obtain ⟨u,h2,l2,h3,rfl⟩:=h'
  simp only [V.num,V.conc,Option.some.injEq] at h2
  rw [h2,litsOf_nums h1 h3]
 | .bool _ :: _,_,_,h,_ | .str _ :: _,_,_,h,_ | .ptr _ _ :: _,_,_,h,_ | .gptr _ _ :: _,_,_,h,_ | .nilptr :: _,_,_,h,_ | .sl _ _ _ _ :: _,_,_,h,_ | .nilsl :: _,_,_,h,_ | .fn _ _ :: _,_,_,h,_ | .nilfn :: _,_,_,h,_ | .nilif :: _,_,_,h,_ | .agg _ :: _,_,_,h,_ | .tup _ :: _,_,_,h,_ | .sym _ _ _ _ :: _,_,_,h,_ | .symb _ :: _,_,_,h,_ | .at _ _ _ _ :: _,_,_,h,_ | .among _ _ :: _,_,_,h,_ | .cut _ _ _ :: _,_,_,h,_ => by simp [litsOf] at h
theorem numS_ok {G:GF} {X:Rule} (hG:GOK G) (hX:RuleOK G X) {r:Nf} {F:List Int → Int} (hp:Plain Tryz.prog r.f) (hg:∀ ns,nfIn r.shs ns → G r.gid ns 0 = F ns)
  (hc:∀ ns M,nfIn r.shs ns → ACall Tryz.prog G r.f (nfInts r.shs ns) M (.int r.k (F ns)) M):CallOK Tryz.prog G (numS X r F):=by
 intro g args M v M' ch hh
 unfold numS at hh
 split at hh
 ·rename_i hq
  simp only [Bool.and_eq_true] at hq
  have:=Nat.eq_of_beq_eq_true hq.1; subst this
  split at hh
  ·rename_i ns hl
   rw [kInt_eq] at hh
   simp only [Option.some.injEq,Prod.mk.injEq] at hh
   obtain ⟨rfl,rfl,rfl⟩:=hh
   refine ⟨⟨hp,?_⟩,GrowL.refl M⟩
   intro prot W0 φ w us hM hus
   obtain ⟨ms,a1,a2,a3⟩:=nf_nums hq.2 hus
   have:=litsOf_nums hl a1; subst this
   exact (hc ms M a2).2 prot W0 φ w us hM a3
  ·simp only [Option.map_eq_some_iff,Prod.mk.injEq] at hh
   obtain ⟨⟨v',m⟩,hm,rfl,rfl,rfl⟩:=hh
   refine ⟨⟨hp,?_⟩,Grow.toL (mkInt_grow hm)⟩
   intro prot W0 φ w us hM hus
   obtain ⟨ms,a1,a2,a3⟩:=nf_nums hq.2 hus
   obtain ⟨φ1,b1,b2,b3⟩:=mkInt_sound hG hX hM hm (k:=r.k) (n:=G r.gid ms 0) (by simp only [Def.val,a1,Option.map_some])
   refine Calls.mono ((hc ms (m.getD M) a2).2 prot W0 φ1 w us b3 (concs_mono b1 _ a3)) ?_
   intro e w' he
   cases e with
   | returned u =>
    obtain ⟨φ2,c1,c2,c3⟩:=he
    refine ⟨φ2,Pl.le_trans b1 c1,?_,c3⟩
    simp only [V.conc,Option.some.injEq] at c2
    rw [← c2,← hg ms a2]
    exact V.conc_mono c1 _ b2
   | panicked c => exact he.elim
   | outgrown => exact he.elim
 ·cases hh
end
end
section
open Go.Proofs
noncomputable section
abbrev Kn:=List (IntKind × Nat × Int × Int)
def idx3 (k:IntKind) (q:Nat):Kn → Nat → Option (Nat × Int × Int)
 | [],_ => none
 | a :: l,i => match decide (a.1 = k) && Nat.beq a.2.1 q with
  | true => some (i,a.2.2)
  | false => idx3 k q l (i + 1)
theorem idx3_get {k:IntKind} {q:Nat}:∀ {l:Kn} {i j:Nat} {b:Int × Int},idx3 k q l i = some (j,b) → i ≤ j ∧ l[j - i]? = some (k,q,b)
 | [],_,_,_,h => by cases h
 | a :: l,i,j,b,h => by
  unfold idx3 at h
  split at h
  ·rename_i e
   simp only [Bool.and_eq_true,decide_eq_true_eq] at e
   have e2:=Nat.eq_of_beq_eq_true e.2
   simp only [Option.some.injEq,Prod.mk.injEq] at h
   obtain ⟨a1,a2,a3⟩:=a
   obtain ⟨e1,_⟩:=e
   obtain ⟨rfl,h2⟩:=h
   simp only at e1 e2 h2
   subst e1 e2 h2
   exact ⟨Nat.le_refl _,by simp⟩
  ·obtain ⟨h1,h2⟩:=idx3_get h
   refine ⟨by omega,?_⟩
   rw [show j - i = (j - (i + 1)) + 1 by omega,List.getElem?_cons_succ]; exact h2
def ltm (gsl:List Nat) (i:Nat):Option Nat → Bool
 | some _ => true
 | none => match nth gsl i with
  | some g => Nat.beq g 1
  | none => false
mutual
def ren2 (kn:Kn) (bl gsl:List Nat) (n:Nat):V → Option V
 | .int k x => some (.int k x)
 | .bool b => some (.bool b)
 | .str s => some (.str s)
 | .nilptr => some .nilptr
 | .nilsl => some .nilsl
 | .nilfn => some .nilfn
 | .nilif => some .nilif
 | .sym k q _ _ => (idx3 k q kn 0).map fun p => .sym k p.1 p.2.1 p.2.2
 | .ptr b o => (idxOf b bl 0).map fun i => .ptr (n + i) o
 | .sl b o len lim => match idxOf b bl 0 with
  | some i => match ltm gsl i lim with
   | true => some (.sl (n + i) o len lim)
   | false => none
  | none => none
 | .fn f l => (ren2s kn bl gsl n l).map (.fn f)
 | .agg l => (ren2s kn bl gsl n l).map .agg
 | .tup l => (ren2s kn bl gsl n l).map .tup
 | _ => none
def ren2s (kn:Kn) (bl gsl:List Nat) (n:Nat):List V → Option (List V)
 | [] => some []
 | v :: vs => match ren2 kn bl gsl n v with
  | some x => (ren2s kn bl gsl n vs).map (x :: ·)
  | none => none
end
def roomOf (g len:Nat):Option Nat:=match Nat.beq g 1 with
 | true => none
 | false => some len
section
variable {kn:Kn} {bl gsl:List Nat} {n base:Nat} {sol:List (Option Int)} {B:Bd}
structure Lnk (kn:Kn) (bl gsl:List Nat) (n base:Nat) (sol:List (Option Int)) (B:Bd):Prop where
 n:B.ins.length = n
 num:∀ (i:Nat) (k:IntKind) (q:Nat) (lo hi:Int),kn[i]? = some (k,q,lo,hi) → ∃ m,sol[q]? = some (some m) ∧ B.ins[i]? = some (.int k m) ∧ lo ≤ m ∧ m ≤ hi
 row:∀ (i b:Nat),bl[i]? = some b → ∃ g len,gsl[i]? = some g ∧ B.nm[i]? = some (base + i,0,roomOf g len)
mutual
theorem ren2_ok (h:Lnk kn bl gsl n base sol B):∀ (v:V) {v2:V},ren2 kn bl gsl n v = some v2 → ∃ v',rep sol bl base v = some v' ∧ B.sub v2 = some v'
 | .int _ _,v2,hv | .bool _,v2,hv | .str _,v2,hv | .nilptr,v2,hv | .nilsl,v2,hv | .nilfn,v2,hv | .nilif,v2,hv => by
  simp only [ren2,Option.some.injEq] at hv; subst hv
  exact ⟨_,rfl,rfl⟩
 | .sym k q lo hi,v2,hv => by
  simp only [ren2,Option.map_eq_some_iff] at hv
  obtain ⟨⟨i,lo',hi'⟩,hp,rfl⟩:=hv
  have:=(idx3_get hp).2
  rw [Nat.sub_zero] at this
  obtain ⟨m,h1,h2,h3,h4⟩:=h.num i k q lo' hi' this
  refine ⟨.int k m,by simp only [rep,h1],?_⟩
  simp only [Bd.sub,h2,V.kindIs,V.lo,V.hi,decide_true,h3,h4,and_self,if_true]
 | .ptr b o,v2,hv => by
  simp only [ren2,Option.map_eq_some_iff] at hv
  obtain ⟨i,hi,rfl⟩:=hv
  have:=(idxOf_get hi).2
  rw [Nat.sub_zero] at this
  obtain ⟨g,len,_,h2⟩:=h.row i b this
  refine ⟨.ptr (base + i) o,by simp only [rep,hi,Option.map_some],?_⟩
  have h3:¬ n + i < n:=by omega
  simp only [Bd.sub,h3,if_false,h.n,Nat.add_sub_cancel_left,h2,Option.map_some,Nat.zero_add]
 | .sl b o len lim,v2,hv => by
  simp only [ren2] at hv
  split at hv
  ·rename_i i hi
   split at hv
   ·rename_i hl
    injection hv with hv; subst hv
    have:=(idxOf_get hi).2
    rw [Nat.sub_zero] at this
    obtain ⟨g,len',h1,h2⟩:=h.row i b this
    refine ⟨.sl (base + i) o len lim,by simp only [rep,hi,Option.map_some],?_⟩
    have h3:¬ n + i < n:=by omega
    simp only [Bd.sub,h3,if_false,h.n,Nat.add_sub_cancel_left,h2,Option.map_some,Nat.zero_add]
    cases lim with
    | some c => rfl
    | none =>
     simp only [ltm,nth_eq,h1] at hl
     simp only [roomOf,hl,Option.map_none]
   ·cases hv
  ·cases hv
 | .fn f l,v2,hv => by
  simp only [ren2,Option.map_eq_some_iff] at hv
  obtain ⟨l2,h1,rfl⟩:=hv
  obtain ⟨l',h2,h3⟩:=ren2s_ok h l h1
  exact ⟨.fn f l',by simp only [rep,h2,Option.map_some],by simp only [Bd.sub,h3,Option.map_some]⟩
 | .agg l,v2,hv => by
  simp only [ren2,Option.map_eq_some_iff] at hv
  obtain ⟨l2,h1,rfl⟩:=hv
  obtain ⟨l',h2,h3⟩:=ren2s_ok h l h1
  exact ⟨.agg l',by simp only [rep,h2,Option.map_some],by simp only [Bd.sub,h3,Option.map_some]⟩
 | .tup l,v2,hv => by
  simp only [ren2,Option.map_eq_some_iff] at hv
  obtain ⟨l2,h1,rfl⟩:=hv
  obtain ⟨l',h2,h3⟩:=ren2s_ok h l h1
  exact ⟨.tup l',by simp only [rep,h2,Option.map_some],by simp only [Bd.sub,h3,Option.map_some]⟩
 | .gptr _ _,_,hv => by simp [ren2] at hv
 | .symb _,_,hv => by simp [ren2] at hv
 | .at _ _ _ _,_,hv => by simp [ren2] at hv
 | .among _ _,_,hv => by simp [ren2] at hv
 | .cut _ _ _,_,hv => by simp [ren2] at hv
theorem ren2s_ok (h:Lnk kn bl gsl n base sol B):∀ (l:List V) {l2:List V},ren2s kn bl gsl n l = some l2 → ∃ l',reps sol bl base l = some l' ∧ B.subs l2 = some l'
 | [],l2,hv => by
  simp only [ren2s,Option.some.injEq] at hv; subst hv
  exact ⟨[],rfl,rfl⟩
 | v :: vs,l2,hv => by
  simp only [ren2s] at hv
  split at hv
  ·rename_i x hx
   simp only [Option.map_eq_some_iff] at hv
   obtain ⟨l1,h1,rfl⟩:=hv
   obtain ⟨v',a1,a2⟩:=ren2_ok h v hx
   obtain ⟨l',a3,a4⟩:=ren2s_ok h vs h1
   exact ⟨v' :: l',by simp only [reps,a1,a3,Option.map_some],by simp only [Bd.subs,a2,a4,Option.map_some]⟩
  ·cases hv
end
theorem reps_len:∀ {l l':List V},reps sol bl base l = some l' → l'.length = l.length
 | [],l',h => by simp only [reps,Option.some.injEq] at h; subst h; rfl
 | v :: vs,l',h => by
  simp only [reps] at h
  split at h
  ·simp only [Option.map_eq_some_iff] at h
   obtain ⟨l1,h1,rfl⟩:=h
   simp [reps_len h1]
  ·cases h
theorem ren2s_len:∀ {l l':List V},ren2s kn bl gsl n l = some l' → l'.length = l.length
 | [],l',h => by simp only [ren2s,Option.some.injEq] at h; subst h; rfl
 | v :: vs,l',h => by
  simp only [ren2s] at h
  split at h
  ·simp only [Option.map_eq_some_iff] at h
   obtain ⟨l1,h1,rfl⟩:=h
   simp [ren2s_len h1]
  ·cases h
end
def renR (kn:Kn) (bl gsl:List Nat) (n:Nat) (M:Mem):List Nat → List Nat → Option (List (List V))
 | [],[] => some []
 | b :: l,g :: gl => match nth M b with
  | some (.own cs gs) => match Nat.beq gs g,ren2s kn bl gsl n cs with
   | true,some cs' => (renR kn bl gsl n M l gl).map (cs' :: ·)
   | _,_ => none
  | _ => none
 | _,_ => none
theorem renR_ok {kn:Kn} {bl gsl:List Nat} {n base:Nat} {sol:List (Option Int)} {B:Bd} (h:Lnk kn bl gsl n base sol B) {M:Mem}:∀ {l gl:List Nat} {R:List (List V)},renR kn bl gsl n M l gl = some R →
  ∃ N,news sol bl base M l = some N ∧ N.length = l.length ∧ R.length = l.length ∧ ∀ (i:Nat) (cs0:List V),R[i]? = some cs0 → ∃ cs g,N[i]? = some (.own cs g) ∧ gl[i]? = some g ∧ B.subs cs0 = some cs ∧ cs.length = cs0.length
 | [],[],R,hr => by
  simp only [renR,Option.some.injEq] at hr; subst hr
  exact ⟨[],rfl,rfl,rfl,fun i cs0 hi => by simp at hi⟩
 | b :: l,g :: gl,R,hr => by
  simp only [renR,nth_eq] at hr
  split at hr
  ·rename_i cs gs hb
   split at hr
   ·rename_i cs' hg hcs
    have:=Nat.eq_of_beq_eq_true hg; subst this
    simp only [Option.map_eq_some_iff] at hr
    obtain ⟨R',h1,rfl⟩:=hr
    obtain ⟨c3,a1,a2⟩:=ren2s_ok h cs hcs
    obtain ⟨N,b1,b2,b3,b4⟩:=renR_ok h h1
    refine ⟨.own c3 gs :: N,by simp only [news,hb,a1,b1,Option.map_some],by simp [b2],by simp [b3],?_⟩
    intro i cs0 hi
    cases i with
    | zero =>
     simp only [List.getElem?_cons_zero,Option.some.injEq] at hi; subst hi
     exact ⟨c3,gs,by simp,by simp,a2,by rw [reps_len a1,ren2s_len hcs]⟩
    | succ i => simpa using b4 i cs0 (by simpa using hi)
   ·cases hr
  ·cases hr
 | [],_ :: _,_,hr => by simp [renR] at hr
 | _ :: _,[],_,hr => by simp [renR] at hr
end
end
section
open Go.Proofs
noncomputable section
structure NewD where
 b0:Nat
 c:Nat
 kn:Kn
 bl:List Nat
 gsl:List Nat
 rows:List (List V)
def knOf (tb:Tab):List (IntKind × Nat) → Option Kn
 | [] => some []
 | a :: l => match nth tb a.2 with
  | some (some p) => (knOf tb l).map ((a.1,a.2,p.1,p.2) :: ·)
  | _ => none
def kKn {α:Type} (l:Kn):(Kn → α) → α:=List.rec (motive:=fun _ => (Kn → α) → α) (fun k => k []) (fun a _ ih k => kNat a.2.1 fun q => kInt a.2.2.1 fun lo => kInt a.2.2.2 fun hi => ih fun l => k ((a.1,q,lo,hi) :: l)) l
theorem kKn_eq {α:Type} (l:Kn):∀ (k:Kn → α),kKn l k = k l:=by
 induction l with
 | nil => intro k; rfl
 | cons a l ih =>
  intro k
  show kNat a.2.1 (fun q => kInt a.2.2.1 fun lo => kInt a.2.2.2 fun hi => kKn l fun l => k ((a.1,q,lo,hi) :: l)) = _
  rw [kNat_eq,kInt_eq,kInt_eq]; exact ih _
def kRows {α:Type} (l:List (List V)):(List (List V) → α) → α:=List.rec (motive:=fun _ => (List (List V) → α) → α) (fun k => k []) (fun a _ ih k => kVs a fun a => ih fun l => k (a :: l)) l
theorem kRows_eq {α:Type} (l:List (List V)):∀ (k:List (List V) → α),kRows l k = k l:=by
 induction l with
 | nil => intro k; rfl
 | cons a l ih =>
  intro k
  show kVs a (fun a => kRows l fun l => k (a :: l)) = _
  rw [kVs_eq]; exact ih _
def gsOf (M:Mem):List Nat → List Nat
 | [] => []
 | b :: l => (match nth M b with
  | some (.own _ g) => g
  | _ => 0) :: gsOf M l
def isOk (ek:IntKind) (e:Int):Bool:=decide (ek = .i64) && eqI e 0
def tagB (t:Int) (M:Mem) (b:Nat):Bool:=match nth M b with
 | some (.own cs _) => match cs with
  | .int .i64 t' :: _ => eqI t' t
  | _ => false
 | _ => false
theorem tagB_ok {t:Int} {M:Mem} {b:Nat} (h:tagB t M b = true):∃ cs g,M[b]? = some (.own (.int .i64 t :: cs) g):=by
 unfold tagB at h
 rw [nth_eq] at h
 split at h
 ·rename_i cs g hb
  split at h
  ·rename_i t' cs
   rw [eqI_iff] at h; subst h
   exact ⟨cs,g,hb⟩
  ·cases h
 ·cases h
def newK (X:Rule) (S:Known) (m:Nat) (t:Int) (L s:Nat) (k:NewD → Mem → Bool):Bool :=
 match kFN X S m 32 [.int .i64 t,.sl L 0 L none] (small L [symRow .u8 0 255 L 0]) with
 | some p => match p.1 with
  | .tup [.ptr b0 o0,.int ek e] => match Nat.beq o0 0 && (isOk ek e && tagB t p.2.1 b0) with
   | true => kBlks (.ptr b0 0) p.2.1 fun bl => kOuts (symN p.2.1 bl []) fun outs => kTab (List.replicate L (some (0,255))) fun tb => tabsK (dropK p.2.1 L) tb fun tb =>
    match knOf tb outs,idxOf b0 bl 0 with
    | some kn,some c => kKn kn fun kn => kNats (gsOf p.2.1 bl) fun gsl => kNat (kn.length + s) fun n => match renR kn bl gsl n p.2.1 bl gsl with
     | some R => kRows R fun R => ndN bl && k ⟨b0,c,kn,bl,gsl,R⟩ p.2.1
     | none => false
    | _,_ => false
   | false => false
  | _ => false
 | none => false
def tb0 (kn:Kn) (s:Nat):Tab:=kn.map (fun e => some e.2.2) ++ List.replicate s (some (0,255))
def cellOk (tb:Tab):V → Bool
 | .sym k q lo hi => decide (k = .u8) && (leI 0 lo && (leI hi 255 && inT tb (.sym k q lo hi)))
 | _ => false
def allOk (tb:Tab):List V → Bool
 | [] => true
 | v :: vs => cellOk tb v && allOk tb vs
def edK (X:Rule) (S:Known) (m f s:Nat) (d:NewD) (k:List V → Nat → Option Nat → Nat → Mem → Bool):Bool :=
 kNat (d.kn.length + s) fun n => kNat d.bl.length fun nb =>
 match kFN X S m f [.ptr (n + d.c) 0,.sl (n + nb) 0 s none] (small n (d.rows ++ [symRow .u8 0 255 s d.kn.length])) with
 | some p => match p.1 with
  | .tup [.sl b o l lim,.int ek e] => match Nat.beq o 0 && (Nat.beq l s && isOk ek e),nth p.2.1 b with
   | true,some (.own cs gs) => kTab (tb0 d.kn s) fun tb => tabsK (dropK p.2.1 n) tb fun tb => (Nat.beq cs.length s && allOk tb cs) && k cs gs lim b p.2.1
   | _,_ => false
  | _ => false
 | none => false
def knV:Kn → Nat → Sub
 | [],_ => []
 | e :: l,i => some (.sym e.1 i e.2.2.1 e.2.2.2) :: knV l (i + 1)
def backOk (σ:Sub):Nat → List V → Bool
 | _,[] => true
 | i,v :: vs => (match v with
  | .sym _ q _ _ => match nth σ q with
   | some (some (.sym _ j _ _)) => Nat.beq i j
   | _ => false
  | _ => false) && backOk σ (i + 1) vs
def idxQ (q:Nat):Kn → Nat → Option (Nat × Int × Int)
 | [],_ => none
 | a :: l,i => match Nat.beq a.2.1 q with
  | true => some (i,a.2.2)
  | false => idxQ q l (i + 1)
def renV (kn:Kn):V → Option V
 | .int k n => some (.int k n)
 | .sym k q _ _ => match idxQ q kn 0 with
  | some p => some (.sym k p.1 p.2.1 p.2.2)
  | none => none
 | _ => none
def renVs (kn:Kn):List V → Option (List V)
 | [] => some []
 | v :: vs => match renV kn v with
  | some x => (renVs kn vs).map (x :: ·)
  | none => none
def renD (kn:Kn):Def → Option Def
 | .bin op k a b => match renV kn a,renV kn b with
  | some a,some b => some (.bin op k a b)
  | _,_ => none
 | .shift op k a b => match renV kn a,renV kn b with
  | some a,some b => some (.shift op k a b)
  | _,_ => none
 | .conv k a => (renV kn a).map (.conv k)
 | .look k t a => (renV kn a).map (.look k t)
 | .call g j k l => (renVs kn l).map (.call g j k)
def knB (L:Nat) (M0:Mem) (kn:Kn):Kn → Nat → Mem
 | [],_ => []
 | e :: l,i => (match Nat.ble L e.2.1,nth M0 e.2.1 with
  | true,some (.eqn d _) => match renD kn d with
   | some d' => .eqn d' (.sym d.kind i e.2.2.1 e.2.2.2)
   | none => .dead
  | _,_ => .dead) :: knB L M0 kn l (i + 1)
def backChk (Xr:Rule) (KB:Mem) (s:Nat) (d:NewD) (csE csD:List V) (DE DD:Mem):Bool :=
 kTab (tb0 d.kn s) fun tb => kAll (KB ++ List.replicate s .dead) fun M => kSpine (knV d.kn 0 ++ (symRow .u8 0 255 s d.kn.length).map some) fun σ => rpl Xr DD tb M σ fun M σ =>
  match sbs σ csD with
  | some ys => kSpine (knV d.kn 0 ++ ys.map some) fun σ => rpl Xr DE tb M σ fun _ σ => backOk σ d.kn.length csE
  | none => false
def cfgChk (X Xr:Rule) (S:Known) (m:Nat) (t:Int) (L s:Nat):Bool :=
 newK X S m t L s fun d M0 => edK X S m 65 s d fun csE _ _ _ ME => edK X S m 63 s d fun csD _ _ _ MD => kNat (d.kn.length + s) fun n => backChk Xr (knB L M0 d.kn d.kn 0) s d csE csD (dropK ME n) (dropK MD n)
def valV (sol:List (Option Int)) (v:V):Int:=(v.num (plOf sol)).getD 0
def valAt (sol:List (Option Int)) (q:Nat):Int:=match sol[q]? with
 | some (some m) => m
 | _ => 0
def knums (kn:Kn) (sol:List (Option Int)):List Int:=kn.map fun e => valAt sol e.2.1
def Bytes (l:List Int):Prop:=∀ n ∈ l,0 ≤ n ∧ n ≤ 255
def u8s' (l:List Int):List V:=l.map (.int .u8)
def LimP (M:Mem) (b o len:Nat):Option Nat → Prop
 | some c => len ≤ c
 | none => o + len ≤ known M b
structure CipherOK (G:GF) (t:Int) (L s:Nat) (c:Nat) (sol:List Int → List (Option Int)) (rows:Nat → List (Option Int) → List Blk) (E D:List (Option Int) → List Int → List Int) (gE gD:Nat) (lE lD:Option Nat):Prop where
 new:∀ (ns:List Int),ns.length = L → Bytes ns → ∀ (M:Mem) (b o:Nat) (lim:Option Nat),rd M b o L = some (u8s' ns) → LimP M b o L lim →
  ACall Tryz.prog G 32 [.int .i64 t,.sl b o L lim] M (.tup [.ptr (M.length + c) 0,.int .i64 0]) (M ++ rows M.length (sol ns))
 enc:∀ (ns:List Int),ns.length = L → Bytes ns → ∀ (base:Nat) (M:Mem),(∀ (i:Nat) (k:Blk),(rows base (sol ns))[i]? = some k → M[base + i]? = some k) → ∀ (x:List Int) (b o:Nat) (lim:Option Nat),x.length = s → Bytes x →
  rd M b o s = some (u8s' x) → LimP M b o s lim → ACall Tryz.prog G 65 [.ptr (base + c) 0,.sl b o s lim] M (.tup [.sl M.length 0 s lE,.int .i64 0]) (M ++ [.own (u8s' (E (sol ns) x)) gE])
 dec:∀ (ns:List Int),ns.length = L → Bytes ns → ∀ (base:Nat) (M:Mem),(∀ (i:Nat) (k:Blk),(rows base (sol ns))[i]? = some k → M[base + i]? = some k) → ∀ (x:List Int) (b o:Nat) (lim:Option Nat),x.length = s → Bytes x →
  rd M b o s = some (u8s' x) → LimP M b o s lim → ACall Tryz.prog G 63 [.ptr (base + c) 0,.sl b o s lim] M (.tup [.sl M.length 0 s lD,.int .i64 0]) (M ++ [.own (u8s' (D (sol ns) x)) gD])
 lenE:∀ (ns:List Int),ns.length = L → Bytes ns → ∀ x,x.length = s → Bytes x → (E (sol ns) x).length = s ∧ Bytes (E (sol ns) x)
 lenD:∀ (ns:List Int),ns.length = L → Bytes ns → ∀ x,x.length = s → Bytes x → (D (sol ns) x).length = s ∧ Bytes (D (sol ns) x)
 back:∀ (ns:List Int),ns.length = L → Bytes ns → ∀ x,x.length = s → Bytes x → E (sol ns) (D (sol ns) x) = x
 noro:∀ (ns:List Int) (base:Nat) (cs:List V),Blk.ro cs ∉ rows base (sol ns)
 tag:∀ (ns:List Int),ns.length = L → Bytes ns → ∀ base,∃ cs g,(rows base (sol ns))[c]? = some (.own (.int .i64 t :: cs) g)
section
variable {G:GF} {X Xr:Rule} {S:Known}
theorem isOk_iff {ek:IntKind} {e:Int} (h:isOk ek e = true):ek = .i64 ∧ e = 0:=by
 simpa [isOk,eqI_iff] using h
structure NewOK (G:GF) (t:Int) (L s:Nat) (d:NewD) (M0:Mem):Prop where
 call:ACall Tryz.prog G 32 [.int .i64 t,.sl L 0 L none] (small L [symRow .u8 0 255 L 0]) (.tup [.ptr d.b0 0,.int .i64 0]) M0
 nd:∀ i j b:Nat,d.bl[i]? = some b → d.bl[j]? = some b → i = j
 tag:∃ cs g,M0[d.b0]? = some (.own (.int .i64 t :: cs) g)
 idx:idxOf d.b0 d.bl 0 = some d.c
 ren:renR d.kn d.bl d.gsl (d.kn.length + s) M0 d.bl d.gsl = some d.rows
 kn:∀ (i:Nat) (k:IntKind) (q:Nat) (lo hi:Int),d.kn[i]? = some (k,q,lo,hi) → (tabs (M0.drop L) (List.replicate L (some (0,255))))[q]? = some (some (lo,hi))
theorem knOf_ok {tb:Tab}:∀ {outs:List (IntKind × Nat)} {kn:Kn},knOf tb outs = some kn → ∀ (i:Nat) (k:IntKind) (q:Nat) (lo hi:Int),kn[i]? = some (k,q,lo,hi) → tb[q]? = some (some (lo,hi))
 | [],kn,h,i,k,q,lo,hi,hi' => by simp only [knOf,Option.some.injEq] at h; subst h; simp at hi'
 | a :: l,kn,h,i,k,q,lo,hi,hi' => by
  simp only [knOf,nth_eq] at h
  split at h
  ·rename_i p hp
   simp only [Option.map_eq_some_iff] at h
   obtain ⟨l',h1,rfl⟩:=h
   cases i with
   | zero =>
    simp only [List.getElem?_cons_zero,Option.some.injEq,Prod.mk.injEq] at hi'
    obtain ⟨_,rfl,rfl,rfl⟩:=hi'
    exact hp
   | succ i => exact knOf_ok h1 i k q lo hi (by simpa using hi')
  ·cases h
theorem newK_ok (hG:GOK G) (hX:RuleOK G X) (hS:CallOK Tryz.prog G S) {m:Nat} {t:Int} {L s:Nat} {k:NewD → Mem → Bool} (h:newK X S m t L s k = true):∃ d M0,NewOK G t L s d M0 ∧ k d M0 = true:=by
 unfold newK at h
 rw [kFN_eq] at h
 split at h
 ·rename_i p hp
  obtain ⟨v0,M0,ch⟩:=p
  simp only at h
  split at h
  ·rename_i b0 o0 ek e
   split at h
   ·rename_i hc
    simp only [Bool.and_eq_true] at hc
    have e1:=Nat.eq_of_beq_eq_true hc.1
    obtain ⟨e2,e3⟩:=isOk_iff hc.2.1
    have htag:=tagB_ok hc.2.2
    subst e1 e2 e3
    simp only [kBlks,kNats_eq,kOuts_eq,kTab_eq,tabsK_eq,dropK_eq] at h
    generalize more M0 _ _ = bl at h
    split at h
    ·rename_i kn c hkn hidx
     simp only [kKn_eq,kNat_eq] at h
     split at h
     ·rename_i R hR
      simp only [kRows_eq,Bool.and_eq_true] at h
      exact ⟨_,_,⟨(run hG hX hS m _ _ _ _ _ _ hp).1,ndN_ok h.1,htag,hidx,hR,knOf_ok hkn⟩,h.2⟩
     ·cases h
    ·cases h
   ·cases h
  ·cases h
 ·cases h
structure EdOK (G:GF) (f s:Nat) (d:NewD) (cs:List V) (gs:Nat) (lim:Option Nat) (b:Nat) (M:Mem):Prop where
 call:ACall Tryz.prog G f [.ptr (d.kn.length + s + d.c) 0,.sl (d.kn.length + s + d.bl.length) 0 s none] (small (d.kn.length + s) (d.rows ++ [symRow .u8 0 255 s d.kn.length])) (.tup [.sl b 0 s lim,.int .i64 0]) M
 row:M[b]? = some (.own cs gs)
 len:cs.length = s
 cells:allOk (tabs (M.drop (d.kn.length + s)) (tb0 d.kn s)) cs = true
theorem edK_ok (hG:GOK G) (hX:RuleOK G X) (hS:CallOK Tryz.prog G S) {m f s:Nat} {d:NewD} {k:List V → Nat → Option Nat → Nat → Mem → Bool} (h:edK X S m f s d k = true):∃ cs gs lim b M,EdOK G f s d cs gs lim b M ∧ k cs gs lim b M = true:=by
 unfold edK at h
 rw [kNat_eq,kNat_eq,kFN_eq] at h
 split at h
 ·rename_i p hp
  obtain ⟨v0,M0,ch⟩:=p
  simp only [nth_eq] at h
  split at h
  ·rename_i b o l lim ek e
   split at h
   ·rename_i cs gs hc hb
    simp only [Bool.and_eq_true] at hc
    have e1:=Nat.eq_of_beq_eq_true hc.1
    have e2:=Nat.eq_of_beq_eq_true hc.2.1
    obtain ⟨e3,e4⟩:=isOk_iff hc.2.2
    subst e1 e2 e3 e4
    simp only [kTab_eq,tabsK_eq,dropK_eq,Bool.and_eq_true] at h
    exact ⟨cs,gs,lim,b,M0,⟨(run hG hX hS m _ _ _ _ _ _ hp).1,hb,Nat.eq_of_beq_eq_true h.1.1,h.1.2⟩,h.2⟩
   ·cases h
  ·cases h
 ·cases h
end
end
end
section
open Go.Proofs
noncomputable section
section
variable {G:GF}
theorem fits_nil:Fits [] []:=⟨rfl,fun j a b hj => by simp at hj⟩
theorem bytes_fits {ns:List Int} (hb:Bytes ns):Fits (List.replicate ns.length (some (0,255))) (ns.map some):=by
 have:=fits_nil.appendRow (lo:=0) (hi:=255) (ns:=ns) hb
 simpa using this
theorem Fits.append {t1 t2:Tab} {a1 a2:List (Option Int)} (h1:Fits t1 a1) (h2:Fits t2 a2):Fits (t1 ++ t2) (a1 ++ a2):=by
 refine ⟨by simp [h1.len,h2.len],fun j lo hi hj => ?_⟩
 have:=h1.len
 by_cases hlt:j < t1.length
 ·rw [List.getElem?_append_left hlt] at hj
  rw [List.getElem?_append_left (by omega)]
  exact h1.num j lo hi hj
 ·rw [List.getElem?_append_right (by omega)] at hj
  rw [List.getElem?_append_right (by omega),← h1.len]
  exact h2.num _ lo hi hj
theorem kn_at {t:Int} {L s:Nat} {d:NewD} {M0:Mem} (hG:GOK G) (h:NewOK G t L s d M0) {ns:List Int} (hl:ns.length = L) (hb:Bytes ns) {i:Nat} {k:IntKind} {q:Nat} {lo hi:Int} (hi':d.kn[i]? = some (k,q,lo,hi)) :
  (solve G (M0.drop L) (ns.map some))[q]? = some (some (valAt (solve G (M0.drop L) (ns.map some)) q)) ∧ lo ≤ valAt (solve G (M0.drop L) (ns.map some)) q ∧ valAt (solve G (M0.drop L) (ns.map some)) q ≤ hi:=by
 have hf:=tabs_ok hG (M0.drop L) (bytes_fits hb)
 rw [hl] at hf
 obtain ⟨m,h1,h2,h3⟩:=hf.num q lo hi (h.kn i k q lo hi hi')
 have:valAt (solve G (M0.drop L) (ns.map some)) q = m:=by unfold valAt; rw [h1]
 rw [this]
 exact ⟨h1,h2,h3⟩
theorem kn_fits {t:Int} {L s:Nat} {d:NewD} {M0:Mem} (hG:GOK G) (h:NewOK G t L s d M0) {ns:List Int} (hl:ns.length = L) (hb:Bytes ns) {x:List Int} (hx:x.length = s) (hbx:Bytes x) :
  Fits (tb0 d.kn s) ((knums d.kn (solve G (M0.drop L) (ns.map some)) ++ x).map some):=by
 rw [List.map_append]
 refine Fits.append ⟨by simp [knums],fun j lo hi hj => ?_⟩ (by have:=bytes_fits hbx; rwa [hx] at this)
 rw [List.getElem?_map,Option.map_eq_some_iff] at hj
 obtain ⟨e,he,h2⟩:=hj
 obtain ⟨k,q,lo',hi'⟩:=e
 simp only [Option.some.injEq,Prod.mk.injEq] at h2
 obtain ⟨rfl,rfl⟩:=h2
 have:=kn_at hG h hl hb he
 refine ⟨_,?_,this.2⟩
 simp [knums,he]
def wds (base:Nat):Nat → List Nat → List (List V) → List Wd
 | i,g :: gl,r :: R => (base + i,0,roomOf g r.length) :: wds base (i + 1) gl R
 | _,_,_ => []
theorem wds_len {base:Nat}:∀ {i:Nat} {gl:List Nat} {R:List (List V)},gl.length = R.length → (wds base i gl R).length = R.length
 | _,[],[],_ => rfl
 | _,[],_ :: _,h => by simp at h
 | _,_ :: _,[],h => by simp at h
 | i,g :: gl,r :: R,h => by simp [wds,wds_len (i:=i + 1) (gl:=gl) (R:=R) (by simpa using h)]
theorem wds_get {base:Nat}:∀ {i:Nat} {gl:List Nat} {R:List (List V)} {j g:Nat} {r:List V},gl[j]? = some g → R[j]? = some r → (wds base i gl R)[j]? = some (base + (i + j),0,roomOf g r.length)
 | _,[],_,j,g,r,h,_ => by simp at h
 | _,_ :: _,[],j,g,r,_,h => by simp at h
 | i,g' :: gl,r' :: R,j,g,r,h1,h2 => by
  cases j with
  | zero =>
   simp only [List.getElem?_cons_zero,Option.some.injEq] at h1 h2
   subst h1 h2; rfl
  | succ j =>
   simp only [List.getElem?_cons_succ] at h1 h2
   simp only [wds,List.getElem?_cons_succ]
   rw [wds_get h1 h2,show i + 1 + j = i + (j + 1) by omega]
def Bd2 (d:NewD) (sol:List (Option Int)) (base:Nat) (x:List Int) (p:Wd):Bd:=⟨(d.kn.map fun e => V.int e.1 (valAt sol e.2.1)) ++ u8s' x,wds base 0 d.gsl d.rows ++ [p]⟩
theorem renR_gl {kn:Kn} {bl gsl:List Nat} {n:Nat} {M:Mem}:∀ {l gl:List Nat} {R:List (List V)},renR kn bl gsl n M l gl = some R → gl.length = l.length ∧ R.length = l.length
 | [],[],R,hr => by simp only [renR,Option.some.injEq] at hr; subst hr; exact ⟨rfl,rfl⟩
 | b :: l,g :: gl,R,hr => by
  simp only [renR] at hr
  split at hr
  ·split at hr
   ·simp only [Option.map_eq_some_iff] at hr
    obtain ⟨R',h1,rfl⟩:=hr
    have:=renR_gl h1
    exact ⟨by simp [this.1],by simp [this.2]⟩
   ·cases hr
  ·cases hr
 | [],_ :: _,_,hr => by simp [renR] at hr
 | _ :: _,[],_,hr => by simp [renR] at hr
theorem lnk {t:Int} {L s:Nat} {d:NewD} {M0:Mem} (hG:GOK G) (h:NewOK G t L s d M0) {ns:List Int} (hl:ns.length = L) (hb:Bytes ns) {x:List Int} (hx:x.length = s) (base:Nat) (p:Wd) :
  Lnk d.kn d.bl d.gsl (d.kn.length + s) base (solve G (M0.drop L) (ns.map some)) (Bd2 d (solve G (M0.drop L) (ns.map some)) base x p):=by
 have hgl:=renR_gl h.ren
 refine ⟨by simp [Bd2,u8s',hx],?_,?_⟩
 ·intro i k q lo hi hi'
  obtain ⟨h1,h2,h3⟩:=kn_at hG h hl hb hi'
  refine ⟨_,h1,?_,h2,h3⟩
  have hlt:=(List.getElem?_eq_some_iff.1 hi').1
  show ((d.kn.map fun e => V.int e.1 (valAt _ e.2.1)) ++ u8s' x)[i]? = _
  rw [List.getElem?_append_left (by simpa using hlt),List.getElem?_map,hi',Option.map_some]
 ·intro i b hb'
  have hlt:=(List.getElem?_eq_some_iff.1 hb').1
  have h1:i < d.gsl.length:=by omega
  have h2:i < d.rows.length:=by omega
  refine ⟨d.gsl[i],(d.rows[i]).length,List.getElem?_eq_getElem h1,?_⟩
  show (wds base 0 d.gsl d.rows ++ [p])[i]? = _
  rw [List.getElem?_append_left (by rw [wds_len (by omega)]; exact h2),wds_get (List.getElem?_eq_getElem h1) (List.getElem?_eq_getElem h2),Nat.zero_add]
theorem nums_kn {φ:Pl} {sol:List (Option Int)}:∀ (kn:Kn),nums φ (kn.map fun e => V.int e.1 (valAt sol e.2.1)) = some (knums kn sol)
 | [] => rfl
 | e :: l => by
  simp only [List.map_cons,nums,nums_kn l,V.num,V.conc,Option.bind_some,Option.map_some,knums]
theorem nums_u8 {φ:Pl}:∀ (x:List Int),nums φ (u8s' x) = some x
 | [] => rfl
 | n :: l => by
  have:=nums_u8 (φ:=φ) l
  simp only [u8s',List.map_cons] at this ⊢
  simp only [nums,this,V.num,V.conc,Option.bind_some,Option.map_some]
theorem all_u8:∀ {x:List Int},Bytes x → (u8s' x).all (numOk .u8 0 255) = true
 | [],_ => rfl
 | n :: l,h => by
  have h1:=h n (by simp)
  have h2:=all_u8 (x:=l) fun m hm => h m (by simp [hm])
  simp only [u8s',List.map_cons,List.all_cons,Bool.and_eq_true] at h2 ⊢
  refine ⟨?_,h2⟩
  simp only [numOk,V.kindIs,decide_true,V.lo,V.hi,Bool.true_and,Bool.and_eq_true,leI_iff]
  exact h1
theorem u8s'_len (x:List Int):(u8s' x).length = x.length:=by simp [u8s']
theorem limP_fit {M:Mem} {b o len:Nat} {lim:Option Nat} (h:LimP M b o len lim):(match (b,o,lim).2.2 with | some c => len ≤ c | none => (b,o,lim).2.1 + len ≤ known M (b,o,lim).1):=by
 cases lim <;> exact h
theorem subs_cons {B:Bd} {v v':V} {l l':List V} (h:B.sub v = some v') (h':B.subs l = some l'):B.subs (v :: l) = some (v' :: l'):=by simp only [Bd.subs,h,h',Option.map_some]
theorem news_getD {sol:List (Option Int)} {bl l:List Nat} {base:Nat} {M:Mem} (cs:List V):Blk.ro cs ∉ (news sol bl base M l).getD []:=by
 cases h:news sol bl base M l with
 | none => simp
 | some N => exact news_noro h cs
theorem new_tag {t:Int} {L s:Nat} {d:NewD} {M0:Mem} (hG:GOK G) (h:NewOK G t L s d M0) {ns:List Int} (hl:ns.length = L) (hb:Bytes ns) (base:Nat):∃ cs g,((news (solve G (M0.drop L) (ns.map some)) d.bl base M0 d.bl).getD [])[d.c]? = some (.own (.int .i64 t :: cs) g):=by
 obtain ⟨N,hN,_⟩:=renR_ok (lnk hG h hl hb (x:=List.replicate s 0) (by simp) base (0,0,none)) h.ren
 rw [hN,Option.getD_some]
 have hi:=(idxOf_get h.idx).2
 rw [Nat.sub_zero] at hi
 obtain ⟨cs,gs,cs',h1,h2,h3⟩:=(news_get hN).2 d.c d.b0 hi
 obtain ⟨cs0,g,h4⟩:=h.tag
 rw [h1] at h4
 injection h4 with h4
 injection h4 with h4 h5
 subst h4 h5
 simp only [reps,rep,Option.map_eq_some_iff] at h2
 obtain ⟨l,_,rfl⟩:=h2
 exact ⟨l,_,h3⟩
theorem new_call {t:Int} {L s:Nat} {d:NewD} {M0:Mem} (hG:GOK G) (h:NewOK G t L s d M0) {ns:List Int} (hl:ns.length = L) (hb:Bytes ns) {M:Mem} {b o:Nat} {lim:Option Nat} (hr:rd M b o L = some (u8s' ns)) (hlim:LimP M b o L lim) :
  ACall Tryz.prog G 32 [.int .i64 t,.sl b o L lim] M (.tup [.ptr (M.length + d.c) 0,.int .i64 0]) (M ++ (news (solve G (M0.drop L) (ns.map some)) d.bl M.length M0 d.bl).getD []):=by
 refine ⟨h.call.1,?_⟩
 intro prot W0 φ w us hM hus
 have hlen:(Bd.mk (u8s' ns) [(b,o,lim)]).ins.length = L:=by show (u8s' ns).length = L; rw [u8s'_len]; exact hl
 have hc:=h.call
 rw [← hlen] at hc
 have hs:(Bd.mk (u8s' ns) [(b,o,lim)]).sub (.sl (Bd.mk (u8s' ns) [(b,o,lim)]).ins.length 0 (Bd.mk (u8s' ns) [(b,o,lim)]).ins.length none) = some (.sl b o L lim):=by
  have:=sub_sl (B:=Bd.mk (u8s' ns) [(b,o,lim)]) (b:=(Bd.mk (u8s' ns) [(b,o,lim)]).ins.length) (r:=0) (len:=(Bd.mk (u8s' ns) [(b,o,lim)]).ins.length) (p:=(b,o,lim)) rfl rfl
  rw [this,hlen]
 obtain ⟨N,hN,_⟩:=renR_ok (lnk hG h hl hb (x:=List.replicate s 0) (by simp) M.length (0,0,none)) h.ren
 rw [hN,Option.getD_some]
 refine sumcall (B:=⟨u8s' ns,[(b,o,lim)]⟩) hc (args:=[.int .i64 t,.sl b o L lim]) (subs_cons rfl (subs_cons hs rfl)) ⟨rfl,?_⟩ h.nd hM hus (nums_u8 ns) ?_ ?_
 ·intro i cs0 p h1 h2
  cases i with
  | zero =>
   simp only [List.getElem?_cons_zero,Option.some.injEq] at h1 h2
   subst h1 h2
   refine ⟨u8s' ns,?_,?_,?_⟩
   ·have:=subs_symRow (B:=Bd.mk (u8s' ns) [(b,o,lim)]) (k:=.u8) (lo:=0) (hi:=255) (cs:=u8s' ns) (i:=0) (fun j v hv => by rw [Nat.zero_add]; exact hv) (all_u8 hb)
    exact this
   ·rw [symRow_len,hlen]; exact hr
   ·rw [symRow_len,hlen]; exact limP_fit hlim
  | succ i => simp at h1
 ·rw [hlen]
  simp only [rep,reps,h.idx,Option.map_some]
 ·rw [hlen]; exact hN
theorem cell_val {tb:Tab} {sol:List (Option Int)} (hf:Fits tb sol) {bl:List Nat} {base:Nat} {v:V} (h:cellOk tb v = true):rep sol bl base v = some (.int .u8 (valV sol v)) ∧ 0 ≤ valV sol v ∧ valV sol v ≤ 255 ∧ v.num (plOf sol) = some (valV sol v):=by
 cases v <;> simp only [cellOk,Bool.false_eq_true] at h
 rename_i k q lo hi
 simp only [Bool.and_eq_true,decide_eq_true_eq,leI_iff] at h
 obtain ⟨rfl,h1,h2,h3⟩:=h
 obtain ⟨n,hn⟩:=inT_num hf h3
 have hv:valV sol (.sym .u8 q lo hi) = n:=by simp [valV,hn]
 have hb:=V.bnd hn
 simp only [V.lo,V.hi] at hb
 rw [hv]
 refine ⟨?_,by omega,by omega,hn⟩
 rcases V.num_cases hn with ⟨k,e⟩ | ⟨k,i,lo',hi',p,e,hp,h4,_⟩
 ·cases e
 ·injection e with e1 e2 e3 e4
  subst e2
  unfold plOf at hp
  split at hp
  ·rename_i m hm
   injection hp with hp; subst hp
   simp only at h4; subst h4
   simp only [rep,hm]
  ·cases hp
theorem cells_val {tb:Tab} {sol:List (Option Int)} (hf:Fits tb sol) {bl:List Nat} {base:Nat}:∀ {cs:List V},allOk tb cs = true → reps sol bl base cs = some (u8s' (cs.map (valV sol))) ∧ Bytes (cs.map (valV sol))
 | [],_ => ⟨rfl,fun n hn => by cases hn⟩
 | v :: vs,h => by
  simp only [allOk,Bool.and_eq_true] at h
  obtain ⟨a1,a2,a3,_⟩:=cell_val hf (bl:=bl) (base:=base) h.1
  obtain ⟨b1,b2⟩:=cells_val hf (bl:=bl) (base:=base) h.2 (cs:=vs)
  refine ⟨by simp only [reps,a1,b1,Option.map_some,List.map_cons,u8s'],?_⟩
  intro n hn
  rcases List.mem_cons.1 hn with rfl | hn
  ·exact ⟨a2,a3⟩
  ·exact b2 n hn
def turnOf (G:GF) (d:NewD) (s:Nat) (cs:List V) (M:Mem) (sol:List (Option Int)) (x:List Int):List Int:=cs.map (valV (solve G (M.drop (d.kn.length + s)) ((knums d.kn sol ++ x).map some)))
theorem ed_fits {t:Int} {L s f:Nat} {d:NewD} {M0:Mem} (hG:GOK G) (h:NewOK G t L s d M0) {cs:List V} {gs:Nat} {lim:Option Nat} {b:Nat} {M:Mem} (he:EdOK G f s d cs gs lim b M) {ns:List Int} (hl:ns.length = L) (hb:Bytes ns) {x:List Int} (hx:x.length = s) (hbx:Bytes x) :
  (turnOf G d s cs M (solve G (M0.drop L) (ns.map some)) x).length = s ∧ Bytes (turnOf G d s cs M (solve G (M0.drop L) (ns.map some)) x):=by
 have hf:=tabs_ok hG (M.drop (d.kn.length + s)) (kn_fits hG h hl hb hx hbx)
 exact ⟨by simp [turnOf,he.len],(cells_val hf (bl:=[]) (base:=0) he.cells).2⟩
theorem ed_call {t:Int} {L s f:Nat} {d:NewD} {M0:Mem} (hG:GOK G) (h:NewOK G t L s d M0) {cs:List V} {gs:Nat} {lim:Option Nat} {b:Nat} {ME:Mem} (he:EdOK G f s d cs gs lim b ME) {ns:List Int} (hl:ns.length = L) (hb:Bytes ns)
  {base:Nat} {M:Mem} (hrow:∀ (i:Nat) (k:Blk),((news (solve G (M0.drop L) (ns.map some)) d.bl base M0 d.bl).getD [])[i]? = some k → M[base + i]? = some k) {x:List Int} (hx:x.length = s) (hbx:Bytes x)
  {b1 o1:Nat} {lim1:Option Nat} (hr:rd M b1 o1 s = some (u8s' x)) (hlim:LimP M b1 o1 s lim1) :
  ACall Tryz.prog G f [.ptr (base + d.c) 0,.sl b1 o1 s lim1] M (.tup [.sl M.length 0 s lim,.int .i64 0]) (M ++ [.own (u8s' (turnOf G d s cs ME (solve G (M0.drop L) (ns.map some)) x)) gs]):=by
 refine ⟨he.call.1,?_⟩
 intro prot W0 φ w us hM hus
 have hL:=lnk hG h hl hb hx base (b1,o1,lim1)
 have hfit:=kn_fits hG h hl hb hx hbx
 have hgl:=renR_gl h.ren
 obtain ⟨N,hN,hNl,hRl,hrows⟩:=renR_ok hL h.ren
 rw [hN,Option.getD_some] at hrow
 generalize hsol:solve G (M0.drop L) (ns.map some) = sol at *
 have hn:=hL.n
 have hnm:(Bd2 d sol base x (b1,o1,lim1)).nm = wds base 0 d.gsl d.rows ++ [(b1,o1,lim1)]:=rfl
 have hwl:(wds base 0 d.gsl d.rows).length = d.bl.length:=by rw [wds_len (by omega)]; exact hRl
 have hlast:(Bd2 d sol base x (b1,o1,lim1)).nm[d.bl.length]? = some (b1,o1,lim1):=by
  rw [hnm,List.getElem?_append_right (by omega),hwl,Nat.sub_self]; rfl
 have hc:=he.call
 rw [← hn] at hc
 obtain ⟨i0,hi0⟩:∃ b0,d.bl[d.c]? = some b0:=by
  have:=(idxOf_get h.idx).2
  rw [Nat.sub_zero] at this
  exact ⟨_,this⟩
 obtain ⟨g,len,_,hw⟩:=hL.row d.c i0 hi0
 have ha:(Bd2 d sol base x (b1,o1,lim1)).subs [.ptr ((Bd2 d sol base x (b1,o1,lim1)).ins.length + d.c) 0,.sl ((Bd2 d sol base x (b1,o1,lim1)).ins.length + d.bl.length) 0 s none] = some [.ptr (base + d.c) 0,.sl b1 o1 s lim1]:=by
  have h1:=sub_sl (B:=Bd2 d sol base x (b1,o1,lim1)) (b:=(Bd2 d sol base x (b1,o1,lim1)).ins.length + d.bl.length) (r:=d.bl.length) (len:=s) rfl hlast
  have h2:¬ (Bd2 d sol base x (b1,o1,lim1)).ins.length + d.c < (Bd2 d sol base x (b1,o1,lim1)).ins.length:=by omega
  refine subs_cons ?_ (subs_cons h1 rfl)
  simp only [Bd.sub,h2,if_false,Nat.add_sub_cancel_left,hw,Option.map_some,Nat.zero_add]
 have hf:(Bd2 d sol base x (b1,o1,lim1)).fits M (d.rows ++ [symRow .u8 0 255 s d.kn.length]):=by
  refine ⟨by rw [hnm]; simp [hwl,hRl],?_⟩
  intro i cs0 p h1 h2
  by_cases hlt:i < d.rows.length
  ·rw [List.getElem?_append_left hlt] at h1
   obtain ⟨c1,g1,a1,a2,a3,a4⟩:=hrows i cs0 h1
   rw [hnm,List.getElem?_append_left (by omega),wds_get a2 h1,Nat.zero_add] at h2
   injection h2 with h2; subst h2
   have hm:=hrow i _ a1
   refine ⟨c1,a3,?_,?_⟩
   ·simp only [rd,hm,Option.bind_some,Blk.cells,Nat.zero_add,List.drop_zero,← a4,Nat.le_refl,if_true,List.take_length]
   ·simp only [roomOf]
    split
    ·rename_i hg
     split at hg
     ·cases hg
     ·injection hg with hg; omega
    ·rename_i hg
     split at hg
     ·rename_i hb1
      have:=Nat.eq_of_beq_eq_true hb1
      subst this
      simp only [known,hm,Nat.zero_add,a4,Nat.le_refl]
     ·cases hg
  ·rw [List.getElem?_append_right (by omega)] at h1
   have hie:i = d.rows.length:=by
    have:=(List.getElem?_eq_some_iff.1 h1).1; simp at this; omega
   subst hie
   simp only [Nat.sub_self,List.getElem?_cons_zero,Option.some.injEq] at h1
   subst h1
   rw [hRl,hlast] at h2
   injection h2 with h2; subst h2
   refine ⟨u8s' x,?_,?_,?_⟩
   ·have:=subs_symRow (B:=Bd2 d sol base x (b1,o1,lim1)) (k:=.u8) (lo:=0) (hi:=255) (cs:=u8s' x) (i:=d.kn.length) (fun j v hv => by
     show ((d.kn.map fun e => V.int e.1 (valAt sol e.2.1)) ++ u8s' x)[d.kn.length + j]? = _
     rw [List.getElem?_append_right (by simp),List.length_map,Nat.add_sub_cancel_left]; exact hv) (all_u8 hbx)
    rwa [u8s'_len,hx] at this
   ·rw [symRow_len]; exact hr
   ·rw [symRow_len]; exact limP_fit hlim
 have hns:nums φ (Bd2 d sol base x (b1,o1,lim1)).ins = some (knums d.kn sol ++ x):=nums_join (nums_kn d.kn) (nums_u8 x)
 have hfs:=tabs_ok hG (ME.drop (d.kn.length + s)) hfit
 have hcv:=cells_val hfs (bl:=[b]) (base:=M.length) he.cells
 refine sumcall (B:=Bd2 d sol base x (b1,o1,lim1)) hc ha hf (bl:=[b]) (fun i j b' hi hj => by
  have:=(List.getElem?_eq_some_iff.1 hi).1
  have:=(List.getElem?_eq_some_iff.1 hj).1
  simp at *; omega) hM hus hns ?_ ?_
 ·simp [rep,reps,idxOf]
 ·rw [hn]
  simp only [news,he.row,hcv.1,Option.map_some,turnOf]
end
end
end
section
open Go.Proofs
noncomputable section
theorem backOk_get {σ:Sub}:∀ {i:Nat} {cs:List V},backOk σ i cs = true → ∀ (j:Nat) (v:V),cs[j]? = some v → ∃ k q lo hi k' lo' hi',v = .sym k q lo hi ∧ σ[q]? = some (some (.sym k' (i + j) lo' hi'))
 | _,[],_,j,v,hj => by simp at hj
 | i,v :: vs,h,j,x,hj => by
  simp only [backOk,Bool.and_eq_true] at h
  cases j with
  | zero =>
   simp only [List.getElem?_cons_zero,Option.some.injEq] at hj
   subst hj
   have h1:=h.1
   split at h1
   ·rename_i k q lo hi
    rw [nth_eq] at h1
    split at h1
    ·rename_i k' j' lo' hi' hq
     have:=Nat.eq_of_beq_eq_true h1
     subst this
     exact ⟨k,q,lo,hi,k',lo',hi',rfl,hq⟩
    ·cases h1
   ·cases h1
  | succ j =>
   obtain ⟨k,q,lo,hi,k',lo',hi',h1,h2⟩:=backOk_get h.2 j x (by simpa using hj)
   exact ⟨k,q,lo,hi,k',lo',hi',h1,by rw [h2,show i + 1 + j = i + (j + 1) by omega]⟩
theorem knV_get:∀ {kn:Kn} {i j:Nat} {v:V},(knV kn i)[j]? = some (some v) → ∃ k q lo hi,kn[j]? = some (k,q,lo,hi) ∧ v = .sym k (i + j) lo hi
 | [],_,j,v,h => by simp [knV] at h
 | e :: l,i,j,v,h => by
  cases j with
  | zero =>
   simp only [knV,List.getElem?_cons_zero,Option.some.injEq] at h
   subst h
   exact ⟨e.1,e.2.1,e.2.2.1,e.2.2.2,rfl,rfl⟩
  | succ j =>
   simp only [knV,List.getElem?_cons_succ] at h
   obtain ⟨k,q,lo,hi,h1,h2⟩:=knV_get h
   exact ⟨k,q,lo,hi,by simpa using h1,by rw [h2,show i + 1 + j = i + (j + 1) by omega]⟩
theorem knV_len:∀ (kn:Kn) (i:Nat),(knV kn i).length = kn.length
 | [],_ => rfl
 | _ :: l,i => by simp [knV,knV_len l (i + 1)]
theorem plOf_get {acc:List (Option Int)} {i:Nat} {n:Int} (h:acc[i]? = some (some n)):plOf acc i = some (0,0,0,n):=by unfold plOf; rw [h]
section
variable {G:GF} {X Xr:Rule} {S:Known}
theorem sbs_get {σ:Sub}:∀ {l l':List V},sbs σ l = some l' → l'.length = l.length ∧ ∀ (j:Nat) (v v':V),l[j]? = some v → l'[j]? = some v' → sb σ v = some v'
 | [],l',h => by simp only [sbs,Option.some.injEq] at h; subst h; exact ⟨rfl,fun j v v' hj => by simp at hj⟩
 | v :: vs,l',h => by
  simp only [sbs] at h
  split at h
  ·rename_i x hx
   simp only [Option.map_eq_some_iff] at h
   obtain ⟨y,hy,rfl⟩:=h
   obtain ⟨h1,h2⟩:=sbs_get hy
   refine ⟨by simp [h1],fun j a a' ha ha' => ?_⟩
   cases j with
   | zero =>
    simp only [List.getElem?_cons_zero,Option.some.injEq] at ha ha'
    subst ha ha'; exact hx
   | succ j => exact h2 j a a' (by simpa using ha) (by simpa using ha')
  ·cases h
theorem symRow_get {k:IntKind} {lo hi:Int}:∀ {n i j:Nat} {v:V},(symRow k lo hi n i)[j]? = some v → v = .sym k (i + j) lo hi
 | 0,i,j,v,h => by simp [symRow] at h
 | n + 1,i,j,v,h => by
  cases j with
  | zero => simp only [symRow,List.getElem?_cons_zero,Option.some.injEq] at h; exact h.symm
  | succ j =>
   simp only [symRow,List.getElem?_cons_succ] at h
   rw [symRow_get h,show i + 1 + j = i + (j + 1) by omega]
theorem allOk_get {tb:Tab} {v:V}:∀ {cs:List V} {i:Nat},allOk tb cs = true → cs[i]? = some v → cellOk tb v = true
 | [],i,_,h => by simp at h
 | a :: cs,i,ha,hi => by
  simp only [allOk,Bool.and_eq_true] at ha
  cases i with
  | zero => simp only [List.getElem?_cons_zero,Option.some.injEq] at hi; subst hi; exact ha.1
  | succ i => exact allOk_get ha.2 (by simpa using hi)
theorem tabs_eqn {G:GF} (hG:GOK G):∀ (M:Mem) {tb:Tab} {acc:List (Option Int)},Fits tb acc → ∀ (i:Nat) (lo hi:Int),(tabs M tb)[tb.length + i]? = some (some (lo,hi)) →
  ∃ d n,M[i]? = some (.eqn d (.sym d.kind (tb.length + i) lo hi)) ∧ d.val G (plOf (solve G M acc)) = some (.int d.kind n) ∧ (solve G M acc)[tb.length + i]? = some (some n)
 | [],tb,acc,_,i,lo,hi,h => by
  rw [show tabs [] tb = tb from rfl,List.getElem?_eq_none_iff.2 (by omega)] at h; cases h
 | k :: M,tb,acc,hf,i,lo,hi,h => by
  have hkeep:∀ (M:Mem) (tb:Tab) (j:Nat),j < tb.length → (tabs M tb)[j]? = tb[j]?:=by
   intro M
   induction M with
   | nil => intro tb j hj; rfl
   | cons b M ih =>
    intro tb j hj
    show (tabs M (tb ++ [tabOf tb b]))[j]? = _
    rw [ih _ j (by simp; omega),List.getElem?_append_left hj]
  have skeep:∀ (M:Mem) (acc:List (Option Int)) (j:Nat),j < acc.length → (solve G M acc)[j]? = acc[j]?:=by
   intro M
   induction M with
   | nil => intro acc j hj; rfl
   | cons b M ih =>
    intro acc j hj
    show (solve G M (acc ++ [sol1 G acc b]))[j]? = _
    rw [ih _ j (by simp; omega),List.getElem?_append_left hj]
  have hl:=hf.len
  cases i with
  | zero =>
   rw [Nat.add_zero] at h ⊢
   have h1:(tabs M (tb ++ [tabOf tb k]))[tb.length]? = some (some (lo,hi)):=h
   rw [hkeep _ _ _ (by simp),List.getElem?_append_right (Nat.le_refl _),Nat.sub_self] at h1
   simp only [List.getElem?_cons_zero,Option.some.injEq] at h1
   obtain ⟨d,n,rfl,h3,h4,_⟩:=sol1_ok hG hf h1
   refine ⟨d,n,rfl,Def.val_mono (Pl.le_trans (plOf_le acc _) (solve_le M _)) h3,?_⟩
   show (solve G M (acc ++ [sol1 G acc _]))[tb.length]? = _
   rw [skeep _ _ _ (by simp; omega),List.getElem?_append_right (by omega),h4,hl,Nat.sub_self]; rfl
  | succ i =>
   have h1:(tabs M (tb ++ [tabOf tb k]))[(tb ++ [tabOf tb k]).length + i]? = some (some (lo,hi)):=by
    rw [show (tb ++ [tabOf tb k]).length + i = tb.length + (i + 1) by simp; omega]; exact h
   obtain ⟨d,n,a1,a2,a3⟩:=tabs_eqn hG M (hf.snoc hG k) i lo hi h1
   rw [show (tb ++ [tabOf tb k]).length + i = tb.length + (i + 1) by simp; omega] at a1 a3
   exact ⟨d,n,by simpa using a1,a2,a3⟩
theorem idxQ_get {q:Nat}:∀ {l:Kn} {i j:Nat} {b:Int × Int},idxQ q l i = some (j,b) → i ≤ j ∧ ∃ k,l[j - i]? = some (k,q,b)
 | [],_,_,_,h => by cases h
 | a :: l,i,j,b,h => by
  unfold idxQ at h
  split at h
  ·rename_i e
   have e2:=Nat.eq_of_beq_eq_true e
   simp only [Option.some.injEq,Prod.mk.injEq] at h
   obtain ⟨a1,a2,a3⟩:=a
   obtain ⟨rfl,h2⟩:=h
   simp only at e2 h2
   subst e2 h2
   exact ⟨Nat.le_refl _,a1,by simp⟩
  ·obtain ⟨h1,k,h2⟩:=idxQ_get h
   refine ⟨by omega,k,?_⟩
   rw [show j - i = (j - (i + 1)) + 1 by omega,List.getElem?_cons_succ]; exact h2
section
variable {kn:Kn} {φ φ0:Pl} (hφ:∀ (i:Nat) (k:IntKind) (q:Nat) (lo hi:Int),kn[i]? = some (k,q,lo,hi) → ∃ m,φ q = some (0,0,0,m) ∧ φ0 i = some (0,0,0,m) ∧ lo ≤ m ∧ m ≤ hi)
include hφ
theorem renV_num {v v':V} {n:Int} (h:renV kn v = some v') (hv:v.num φ = some n):v'.num φ0 = some n:=by
 rcases V.num_cases hv with ⟨k',rfl⟩ | ⟨k',q,lo,hi,p,rfl,hp,rfl,h1,h2⟩
 ·simp only [renV,Option.some.injEq] at h; subst h; rfl
 ·simp only [renV] at h
  split at h
  ·rename_i r hr
   injection h with h; subst h
   obtain ⟨j,b⟩:=r
   obtain ⟨_,k,hk⟩:=idxQ_get hr
   rw [Nat.sub_zero] at hk
   obtain ⟨m,a1,a2,a3,a4⟩:=hφ j k q b.1 b.2 hk
   rw [a1] at hp; injection hp with hp; subst hp
   simp only [V.num,V.conc,a2,Option.bind_some,a3,a4,and_self,if_true]
  ·cases h
theorem renVs_num:∀ {l l':List V} {ns:List Int},renVs kn l = some l' → nums φ l = some ns → nums φ0 l' = some ns
 | [],l',ns,hs,hn => by
  simp only [renVs,Option.some.injEq] at hs; subst hs
  simpa [nums] using hn
 | v :: l,l',ns,hs,hn => by
  simp only [renVs] at hs
  split at hs
  ·rename_i x hx
   simp only [Option.map_eq_some_iff] at hs
   obtain ⟨y,hy,rfl⟩:=hs
   simp only [nums,Option.bind_eq_some_iff,Option.map_eq_some_iff] at hn ⊢
   obtain ⟨u,h1,ns',h2,rfl⟩:=hn
   exact ⟨u,renV_num hφ hx h1,ns',renVs_num hy h2,rfl⟩
  ·cases hs
theorem renD_val {G:GF} {d d':Def} {x:V} (hs:renD kn d = some d') (hd:d.val G φ = some x):d'.val G φ0 = some x:=by
 cases d <;> simp only [Def.val,Option.bind_eq_some_iff,Option.map_eq_some_iff] at hd <;> simp only [renD,Option.map_eq_some_iff] at hs
 ·obtain ⟨a,h1,b,h2,h3⟩:=hd
  split at hs
  ·rename_i ha hb
   injection hs with hs; subst hs
   simp only [Def.val,renV_num hφ ha h1,renV_num hφ hb h2,Option.bind_some,h3]
  ·cases hs
 ·obtain ⟨a,h1,b,h2,h3⟩:=hd
  split at hs
  ·rename_i ha hb
   injection hs with hs; subst hs
   simp only [Def.val,renV_num hφ ha h1,renV_num hφ hb h2,Option.bind_some,h3]
  ·cases hs
 ·obtain ⟨a,h1,h3⟩:=hd
  obtain ⟨a',ha,rfl⟩:=hs
  simp only [Def.val,renV_num hφ ha h1,Option.map_some,h3]
 ·obtain ⟨a,h1,h3⟩:=hd
  obtain ⟨a',ha,rfl⟩:=hs
  simp only [Def.val,renV_num hφ ha h1,Option.bind_some,h3]
 ·obtain ⟨a,h1,h3⟩:=hd
  obtain ⟨a',ha,rfl⟩:=hs
  simp only [Def.val,renVs_num hφ ha h1,Option.map_some,h3]
end
theorem knB_len (L:Nat) (M0:Mem) (kn:Kn):∀ (l:Kn) (i:Nat),(knB L M0 kn l i).length = l.length
 | [],_ => rfl
 | _ :: l,i => by simp [knB,knB_len L M0 kn l (i + 1)]
theorem knB_get {L:Nat} {M0:Mem} {kn:Kn}:∀ {l:Kn} {i j:Nat} {d':Def} {v:V},(knB L M0 kn l i)[j]? = some (.eqn d' v) → ∃ k q lo hi d w,l[j]? = some (k,q,lo,hi) ∧ L ≤ q ∧ M0[q]? = some (.eqn d w) ∧ renD kn d = some d' ∧ v = .sym d.kind (i + j) lo hi
 | [],_,j,d',v,h => by simp [knB] at h
 | e :: l,i,j,d',v,h => by
  cases j with
  | zero =>
   simp only [knB,nth_eq,List.getElem?_cons_zero,Option.some.injEq] at h
   split at h
   ·rename_i d w hL hd
    split at h
    ·rename_i d1 hd1
     injection h with e1 e2; subst e1 e2
     exact ⟨e.1,e.2.1,e.2.2.1,e.2.2.2,d,w,rfl,by simpa using hL,hd,hd1,rfl⟩
    ·cases h
   ·cases h
  | succ j =>
   simp only [knB,List.getElem?_cons_succ] at h
   obtain ⟨k,q,lo,hi,d,w,h1,hL,h2,h3,h4⟩:=knB_get h
   exact ⟨k,q,lo,hi,d,w,by simpa using h1,hL,h2,h3,by rw [h4,show i + 1 + j = i + (j + 1) by omega]⟩
theorem back_ok (hG:GOK G) (hX:RuleOK G Xr) {t:Int} {L s:Nat} {d:NewD} {M0:Mem} (h:NewOK G t L s d M0) {csE csD:List V} {gE gD:Nat} {lE lD:Option Nat} {bE bD:Nat} {ME MD:Mem} (hE:EdOK G 65 s d csE gE lE bE ME) (hD:EdOK G 63 s d csD gD lD bD MD)
  {KB:Mem} (hKl:KB.length = d.kn.length) (hKs:∀ (i:Nat) (d':Def) (v:V),KB[i]? = some (.eqn d' v) → (knB L M0 d.kn d.kn 0)[i]? = some (.eqn d' v))
  {DE DD:Mem} (hDE:∀ (tb:Tab) (M:Mem) (σ:Sub) (k:Mem → Sub → Bool),rpl Xr DE tb M σ k = rpl Xr (ME.drop (d.kn.length + s)) tb M σ k) (hDD:∀ (tb:Tab) (M:Mem) (σ:Sub) (k:Mem → Sub → Bool),rpl Xr DD tb M σ k = rpl Xr (MD.drop (d.kn.length + s)) tb M σ k)
  (hr:backChk Xr KB s d csE csD DE DD = true)
  {ns:List Int} (hl:ns.length = L) (hb:Bytes ns) {x:List Int} (hx:x.length = s) (hbx:Bytes x) :
  turnOf G d s csE ME (solve G (M0.drop L) (ns.map some)) (turnOf G d s csD MD (solve G (M0.drop L) (ns.map some)) x) = x:=by
 unfold backChk at hr
 simp only [kTab_eq,kSpine_eq,kAll_eq,hDE,hDD] at hr
 obtain ⟨hy,hby⟩:=ed_fits hG h hD hl hb hx hbx
 have hfx:=kn_fits hG h hl hb hx hbx
 have hfy:=kn_fits hG h hl hb hy hby
 have hknat:=fun {i k q lo hi} => kn_at (i:=i) (k:=k) (q:=q) (lo:=lo) (hi:=hi) hG h hl hb
 have hf0:=bytes_fits hb
 have hdef:∀ (i:Nat) (k:IntKind) (q:Nat) (lo hi:Int) (d1:Def) (w:V),d.kn[i]? = some (k,q,lo,hi) → M0[q]? = some (.eqn d1 w) → L ≤ q → d1.val G (plOf (solve G (M0.drop L) (ns.map some))) = some (.int d1.kind (valAt (solve G (M0.drop L) (ns.map some)) q)):=by
  intro i k q lo hi d1 w hi' hq hLq
  have h1:=h.kn i k q lo hi hi'
  subst hl
  obtain ⟨d2,n,a1,a2,a3⟩:=tabs_eqn hG (M0.drop ns.length) hf0 (q - ns.length) lo hi (by rw [List.length_replicate,show ns.length + (q - ns.length) = q by omega]; exact h1)
  rw [List.length_replicate,show ns.length + (q - ns.length) = q by omega] at a1 a3
  rw [List.getElem?_drop,show ns.length + (q - ns.length) = q by omega,hq] at a1
  injection a1 with a1; injection a1 with e1 _; subst e1
  have:valAt (solve G (M0.drop ns.length) (ns.map some)) q = n:=by unfold valAt; rw [a3]
  rw [this]; exact a2
 generalize hsol:solve G (M0.drop L) (ns.map some) = sol at *
 generalize hyd:turnOf G d s csD MD sol x = y at *
 have hfd:=tabs_ok hG (MD.drop (d.kn.length + s)) hfx
 have hfe:=tabs_ok hG (ME.drop (d.kn.length + s)) hfy
 have hkl:(knums d.kn sol).length = d.kn.length:=by simp [knums]
 have name0:∀ (i:Nat) (n:Int),(knums d.kn sol ++ x)[i]? = some n → plOf ((knums d.kn sol ++ x).map some) i = some (0,0,0,n):=by
  intro i n hi
  exact plOf_get (by rw [List.getElem?_map,hi]; rfl)
 have knum:∀ (φ:Pl),(plOf ((knums d.kn sol ++ x).map some)).le φ → ∀ (j:Nat) (v:V),(knV d.kn 0)[j]? = some (some v) → ∃ n,(knums d.kn sol)[j]? = some n ∧ v.num φ = some n:=by
  intro φ hle j v hj
  obtain ⟨k,q,lo,hi,h1,rfl⟩:=knV_get hj
  obtain ⟨h2,h3,h4⟩:=hknat h1
  have hkn:(knums d.kn sol)[j]? = some (valAt sol q):=by simp [knums,h1]
  have hlt:=(List.getElem?_eq_some_iff.1 h1).1
  refine ⟨valAt sol q,hkn,?_⟩
  have:=hle _ _ (name0 j (valAt sol q) (by rw [List.getElem?_append_left (by omega),hkn]))
  simp only [V.num,V.conc,Nat.zero_add,this,Option.bind_some,h3,h4,and_self,if_true]
 have hI0:RepI G (plOf ((knums d.kn sol ++ x).map some)) (KB ++ List.replicate s .dead) (knV d.kn 0 ++ (symRow .u8 0 255 s d.kn.length).map some) ((knums d.kn sol ++ x).map some):=by
  refine ⟨?_,?_,?_,?_⟩
  ·intro i d' v hi
   by_cases hlt:i < d.kn.length
   ·rw [List.getElem?_append_left (by rw [hKl]; exact hlt)] at hi
    obtain ⟨k,q,lo,hi',d1,w,h1,hLq,h2,h3,rfl⟩:=knB_get (hKs i d' v hi)
    have h4:=hdef i k q lo hi' d1 w h1 h2 hLq
    obtain ⟨h5,h6,h7⟩:=hknat h1
    have hv:=renD_val (φ0:=plOf ((knums d.kn sol ++ x).map some)) (φ:=plOf sol) (kn:=d.kn) (fun i k q lo hi he => by
     obtain ⟨b1,b2,b3⟩:=hknat he
     have hlt:=(List.getElem?_eq_some_iff.1 he).1
     exact ⟨_,plOf_get b1,name0 i _ (by rw [List.getElem?_append_left (by omega)]; simp [knums,he]),b2,b3⟩) h3 h4
    refine ⟨_,_,hv,rfl,?_⟩
    have hkn:(knums d.kn sol)[i]? = some (valAt sol q):=by simp [knums,h1]
    simp only [V.conc,Nat.zero_add,name0 i _ (by rw [List.getElem?_append_left (by omega),hkn]),Option.bind_some,h6,h7,and_self,if_true]
   ·rw [List.getElem?_append_right (by rw [hKl]; omega),List.getElem?_replicate] at hi
    split at hi <;> cases hi
  ·intro i hi
   apply plOf_fresh
   simp only [List.length_append,List.length_replicate,hKl] at hi
   simp [hkl,hx]; exact hi
  ·simp [knV_len,hkl,symRow_len,hx]
  ·intro j v hj
   by_cases hlt:j < d.kn.length
   ·rw [List.getElem?_append_left (by rw [knV_len]; exact hlt)] at hj
    obtain ⟨n,h1,h2⟩:=knum _ (Pl.le_refl _) j v hj
    exact ⟨n,by rw [List.getElem?_map,List.getElem?_append_left (by omega),h1]; rfl,h2⟩
   ·rw [List.getElem?_append_right (by rw [knV_len]; omega),knV_len,List.getElem?_map,Option.map_eq_some_iff] at hj
    obtain ⟨v',hv,hv2⟩:=hj
    injection hv2 with hv2; subst hv2
    have hlt2:=(List.getElem?_eq_some_iff.1 hv).1
    rw [symRow_len] at hlt2
    have hxj:x[j - d.kn.length]? = some x[j - d.kn.length]:=List.getElem?_eq_getElem (by omega)
    have hbj:=hbx _ (List.getElem_mem (l:=x) (n:=j - d.kn.length) (by omega))
    rw [symRow_get hv,show d.kn.length + (j - d.kn.length) = j by omega]
    have hacc:(knums d.kn sol ++ x)[j]? = some x[j - d.kn.length]:=by rw [List.getElem?_append_right (by omega),hkl]; exact hxj
    refine ⟨x[j - d.kn.length],by rw [List.getElem?_map,hacc]; rfl,?_⟩
    simp only [V.num,V.conc,name0 j _ hacc,Option.bind_some,hbj,and_self,if_true]
 obtain ⟨φ1,M1,σ1,hle1,hI1,hr⟩:=rpl_ok hG hX _ hfx hI0 hr
 split at hr
 case h_2 => cases hr
 rename_i ys hys
 obtain ⟨hyl,hyg⟩:=sbs_get hys
 have name:∀ (i:Nat) (n:Int),(knums d.kn sol ++ x)[i]? = some n → φ1 i = some (0,0,0,n):=fun i n hi => hle1 _ _ (name0 i n hi)
 have hI:RepI G φ1 M1 (knV d.kn 0 ++ ys.map some) ((knums d.kn sol ++ y).map some):=by
  refine ⟨hI1.eqf,hI1.fresh,by simp [knV_len,hkl,hyl,hD.len,hy],?_⟩
  intro j v hj
  by_cases hlt:j < d.kn.length
  ·rw [List.getElem?_append_left (by rw [knV_len]; exact hlt)] at hj
   obtain ⟨n,h1,h2⟩:=knum φ1 hle1 j v hj
   exact ⟨n,by rw [List.getElem?_map,List.getElem?_append_left (by omega),h1]; rfl,h2⟩
  ·rw [List.getElem?_append_right (by rw [knV_len]; omega),knV_len,List.getElem?_map,Option.map_eq_some_iff] at hj
   obtain ⟨v',hv,hv2⟩:=hj
   injection hv2 with hv2; subst hv2
   have hlt2:=(List.getElem?_eq_some_iff.1 hv).1
   have hc:csD[j - d.kn.length]? = some csD[j - d.kn.length]:=List.getElem?_eq_getElem (by omega)
   obtain ⟨_,_,_,h4⟩:=cell_val hfd (bl:=[]) (base:=0) (allOk_get hD.cells hc)
   refine ⟨_,?_,sb_num hI1 (hyg _ _ _ hc hv) h4⟩
   rw [List.getElem?_map,List.getElem?_append_right (by omega),hkl,← hyd]
   simp only [turnOf,List.getElem?_map,hc,Option.map_some]
 obtain ⟨φ',M',σ',hle',hI',hk⟩:=rpl_ok hG hX _ hfy hI hr
 apply List.ext_getElem?
 intro j
 simp only [turnOf,List.getElem?_map]
 by_cases hlt:j < s
 ·have hjl:j < csE.length:=by have:=hE.len; omega
  have hj:csE[j]? = some csE[j]:=List.getElem?_eq_getElem hjl
  have hxj:x[j]? = some x[j]:=List.getElem?_eq_getElem (by omega)
  rw [hj,hxj,Option.map_some]
  congr 1
  obtain ⟨k,q,lo,hi,k',lo',hi',h1,h2⟩:=backOk_get hk j _ hj
  obtain ⟨n,h3,h4⟩:=hI'.num q _ h2
  have hn:=name (d.kn.length + j) x[j] (by rw [List.getElem?_append_right (by omega),hkl,Nat.add_sub_cancel_left]; exact hxj)
  have hn':=hle' _ _ hn
  have h5:n = x[j]:=by
   rcases V.num_cases h4 with ⟨_,e⟩ | ⟨_,i,_,_,p,e,hp,hpn,_,_⟩
   ·cases e
   ·injection e with e1 e2 e3 e4
    subst e2
    rw [hn'] at hp
    injection hp with hp
    rw [← hpn,← hp]
  have hco:inT (tabs (ME.drop (d.kn.length + s)) (tb0 d.kn s)) csE[j] = true:=by
   have h6:=allOk_get hE.cells hj
   generalize csE[j] = a at h6 ⊢
   cases a <;> simp only [cellOk,Bool.false_eq_true,Bool.and_eq_true] at h6
   exact h6.2.2.2
  obtain ⟨n',hn2⟩:=inT_num hfe hco
  have h7:valV (solve G (ME.drop (d.kn.length + s)) ((knums d.kn sol ++ y).map some)) csE[j] = n':=by unfold valV; rw [hn2]; rfl
  rw [h7]
  rw [h1] at hn2
  rcases V.num_cases hn2 with ⟨_,e⟩ | ⟨_,i,_,_,p,e,hp,hpn,_,_⟩
  ·cases e
  ·injection e with e1 e2 e3 e4
   subst e2
   rw [plOf_get h3] at hp
   injection hp with hp
   rw [← hpn,← hp,← h5]
 ·rw [List.getElem?_eq_none_iff.2 (by have:=hE.len; omega),List.getElem?_eq_none_iff.2 (by omega)]; rfl
theorem cfg_ok (hG:GOK G) (hX:RuleOK G X) (hXr:RuleOK G Xr) (hS:CallOK Tryz.prog G S) {m:Nat} {t:Int} {L s:Nat} (h:cfgChk X Xr S m t L s = true) :
  ∃ c sol rows E D gE gD lE lD,CipherOK G t L s c sol rows E D gE gD lE lD:=by
 unfold cfgChk at h
 obtain ⟨d,M0,hN,h⟩:=newK_ok hG hX hS h
 obtain ⟨csE,gE,lE,bE,ME,hE,h⟩:=edK_ok hG hX hS h
 obtain ⟨csD,gD,lD,bD,MD,hD,h⟩:=edK_ok hG hX hS h
 simp only [kNat_eq,dropK_eq] at h
 refine ⟨d.c,fun ns => solve G (M0.drop L) (ns.map some),fun base sol => (news sol d.bl base M0 d.bl).getD [],turnOf G d s csE ME,turnOf G d s csD MD,gE,gD,lE,lD,?_⟩
 refine ⟨?_,?_,?_,?_,?_,?_,fun ns base cs => news_getD cs,fun ns hl hb base => new_tag hG hN hl hb base⟩
 ·intro ns hl hb M b o lim hr hlim
  exact new_call hG hN hl hb hr hlim
 ·intro ns hl hb base M hrow x b o lim hx hbx hr hlim
  exact ed_call hG hN hE hl hb hrow hx hbx hr hlim
 ·intro ns hl hb base M hrow x b o lim hx hbx hr hlim
  exact ed_call hG hN hD hl hb hrow hx hbx hr hlim
 ·intro ns hl hb x hx hbx
  exact ed_fits hG hN hE hl hb hx hbx
 ·intro ns hl hb x hx hbx
  exact ed_fits hG hN hD hl hb hx hbx
 ·intro ns hl hb x hx hbx
  exact back_ok hG hXr hN hE hD (knB_len _ _ _ _ _) (fun _ _ _ e => e) (fun _ _ _ _ => rfl) (fun _ _ _ _ => rfl) h hl hb hx hbx
def strip1:Blk → Blk
 | .eqn d v => .eqn d v
 | _ => .dead
def strip (M:Mem):Mem:=M.map strip1
theorem tabOf_strip (tb:Tab) (b:Blk):tabOf tb (strip1 b) = tabOf tb b:=by cases b <;> rfl
theorem rpl_strip (X:Rule):∀ (D:Mem) (tb:Tab) (M:Mem) (σ:Sub) (k:Mem → Sub → Bool),rpl X (strip D) tb M σ k = rpl X D tb M σ k
 | [],_,_,_,_ => rfl
 | b :: D,tb,M,σ,k => by
  have ih:=rpl_strip X D
  have e1:∀ t M σ,rpl1 X t M σ (strip1 b) = rpl1 X t M σ b:=by intro t M σ; cases b <;> cases t <;> rfl
  show (kOI (tabOf tb (strip1 b)) fun t => kSpine (snocK tb t) fun tb' =>
   match rpl1 X t M σ (strip1 b) with
   | some p => kOV (some p.1) fun v => kSpine (snocK σ v) fun σ => (match p.2 with
    | some M' => kNew M M' fun M => rpl X (strip D) tb' M σ k
    | none => rpl X (strip D) tb' M σ k)
   | none => kSpine (snocK σ none) fun σ => rpl X (strip D) tb' M σ k) = _
  simp only [tabOf_strip,e1,ih]
  rfl
def eqIs:List Int → List Int → Bool
 | [],[] => true
 | a :: l,b :: l' => eqI a b && eqIs l l'
 | _,_ => false
theorem eqIs_iff:∀ {a b:List Int},eqIs a b = true → a = b
 | [],[],_ => rfl
 | [],_ :: _,h => by simp [eqIs] at h
 | _ :: _,[],h => by simp [eqIs] at h
 | x :: xs,y :: ys,h => by
  simp only [eqIs,Bool.and_eq_true,eqI_iff] at h
  rw [h.1,eqIs_iff h.2]
def eqDf:Def → Def → Bool
 | .bin op k a b,.bin op' k' a' b' => (decide (op = op') && decide (k = k')) && (eqV a a' && eqV b b')
 | .shift op k a b,.shift op' k' a' b' => (decide (op = op') && decide (k = k')) && (eqV a a' && eqV b b')
 | .conv k a,.conv k' a' => decide (k = k') && eqV a a'
 | .look k t a,.look k' t' a' => (decide (k = k') && eqV a a') && eqIs t t'
 | .call g j k l,.call g' j' k' l' => ((Nat.beq g g' && Nat.beq j j') && decide (k = k')) && eqVs l l'
 | _,_ => false
theorem eqDf_iff {a b:Def} (h:eqDf a b = true):a = b:=by
 cases a <;> cases b <;> simp only [eqDf,Bool.false_eq_true,Bool.and_eq_true,decide_eq_true_eq] at h
 ·obtain ⟨⟨rfl,rfl⟩,h1,h2⟩:=h; rw [eqV_iff h1,eqV_iff h2]
 ·obtain ⟨⟨rfl,rfl⟩,h1,h2⟩:=h; rw [eqV_iff h1,eqV_iff h2]
 ·obtain ⟨rfl,h1⟩:=h; rw [eqV_iff h1]
 ·obtain ⟨⟨rfl,h1⟩,h2⟩:=h; rw [eqV_iff h1,eqIs_iff h2]
 ·obtain ⟨⟨⟨h1,h2⟩,rfl⟩,h3⟩:=h
  rw [Nat.eq_of_beq_eq_true h1,Nat.eq_of_beq_eq_true h2,eqVs_iff h3]
def eqSt:Mem → Mem → Bool
 | [],[] => true
 | .eqn d v :: M,.eqn d' v' :: M' => (eqDf d d' && eqV v v') && eqSt M M'
 | .dead :: M,.dead :: M' => eqSt M M'
 | .own _ _ :: M,.dead :: M' => eqSt M M'
 | .ro _ :: M,.dead :: M' => eqSt M M'
 | _,_ => false
theorem eqSt_iff:∀ {M M':Mem},eqSt M M' = true → strip M = M'
 | [],[],_ => rfl
 | .eqn d v :: M,.eqn d' v' :: M',h => by
  simp only [eqSt,Bool.and_eq_true] at h
  have e1:=eqDf_iff h.1.1
  have e2:=eqV_iff h.1.2
  have e3:=eqSt_iff h.2
  subst e1 e2 e3; rfl
 | .dead :: M,.dead :: M',h => by
  have e3:=eqSt_iff (M:=M) (M':=M') h
  subst e3; rfl
 | .own _ _ :: M,.dead :: M',h => by
  have e3:=eqSt_iff (M:=M) (M':=M') h
  subst e3; rfl
 | .ro _ :: M,.dead :: M',h => by
  have e3:=eqSt_iff (M:=M) (M':=M') h
  subst e3; rfl
 | [],_ :: _,h => by simp [eqSt] at h
 | _ :: _,[],h => by simp [eqSt] at h
 | .eqn _ _ :: _,.dead :: _,h => by simp [eqSt] at h
 | .eqn _ _ :: _,.own _ _ :: _,h => by simp [eqSt] at h
 | .eqn _ _ :: _,.ro _ :: _,h => by simp [eqSt] at h
 | .dead :: _,.eqn _ _ :: _,h => by simp [eqSt] at h
 | .dead :: _,.own _ _ :: _,h => by simp [eqSt] at h
 | .dead :: _,.ro _ :: _,h => by simp [eqSt] at h
 | .own _ _ :: _,.eqn _ _ :: _,h => by simp [eqSt] at h
 | .own _ _ :: _,.own _ _ :: _,h => by simp [eqSt] at h
 | .own _ _ :: _,.ro _ :: _,h => by simp [eqSt] at h
 | .ro _ :: _,.eqn _ _ :: _,h => by simp [eqSt] at h
 | .ro _ :: _,.own _ _ :: _,h => by simp [eqSt] at h
 | .ro _ :: _,.ro _ :: _,h => by simp [eqSt] at h
def eqKn:Kn → Kn → Bool
 | [],[] => true
 | a :: l,b :: l' => ((decide (a.1 = b.1) && Nat.beq a.2.1 b.2.1) && (eqI a.2.2.1 b.2.2.1 && eqI a.2.2.2 b.2.2.2)) && eqKn l l'
 | _,_ => false
theorem eqKn_iff:∀ {a b:Kn},eqKn a b = true → a = b
 | [],[],_ => rfl
 | [],_ :: _,h => by simp [eqKn] at h
 | _ :: _,[],h => by simp [eqKn] at h
 | (a1,a2,a3,a4) :: l,(b1,b2,b3,b4) :: l',h => by
  simp only [eqKn,Bool.and_eq_true,decide_eq_true_eq,eqI_iff] at h
  obtain ⟨⟨⟨rfl,h2⟩,rfl,rfl⟩,h3⟩:=h
  have:=Nat.eq_of_beq_eq_true h2
  subst this
  rw [eqKn_iff h3]
def eqNs:List Nat → List Nat → Bool
 | [],[] => true
 | a :: l,b :: l' => Nat.beq a b && eqNs l l'
 | _,_ => false
theorem eqNs_iff:∀ {a b:List Nat},eqNs a b = true → a = b
 | [],[],_ => rfl
 | [],_ :: _,h => by simp [eqNs] at h
 | _ :: _,[],h => by simp [eqNs] at h
 | a :: l,b :: l',h => by
  simp only [eqNs,Bool.and_eq_true] at h
  rw [Nat.eq_of_beq_eq_true h.1,eqNs_iff h.2]
def eqRs:List (List V) → List (List V) → Bool
 | [],[] => true
 | a :: l,b :: l' => eqVs a b && eqRs l l'
 | _,_ => false
theorem eqRs_iff:∀ {a b:List (List V)},eqRs a b = true → a = b
 | [],[],_ => rfl
 | [],_ :: _,h => by simp [eqRs] at h
 | _ :: _,[],h => by simp [eqRs] at h
 | a :: l,b :: l',h => by
  simp only [eqRs,Bool.and_eq_true] at h
  rw [eqVs_iff h.1,eqRs_iff h.2]
def eqNew (a b:NewD):Bool:=((Nat.beq a.b0 b.b0 && Nat.beq a.c b.c) && eqKn a.kn b.kn) && ((eqNs a.bl b.bl && eqNs a.gsl b.gsl) && eqRs a.rows b.rows)
theorem eqNew_iff {a b:NewD} (h:eqNew a b = true):a = b:=by
 obtain ⟨a1,a2,a3,a4,a5,a6⟩:=a
 obtain ⟨b1,b2,b3,b4,b5,b6⟩:=b
 simp only [eqNew,Bool.and_eq_true] at h
 obtain ⟨⟨⟨h1,h2⟩,h3⟩,⟨h4,h5⟩,h6⟩:=h
 have e1:=Nat.eq_of_beq_eq_true h1
 have e2:=Nat.eq_of_beq_eq_true h2
 rw [e1,e2,eqKn_iff h3,eqNs_iff h4,eqNs_iff h5,eqRs_iff h6]
def newChk (X:Rule) (S:Known) (m:Nat) (t:Int) (L s:Nat) (d:NewD):Bool:=newK X S m t L s fun d' _ => eqNew d' d
def edChk (X:Rule) (S:Known) (m f s:Nat) (d:NewD) (cs:List V) (D:Mem):Bool:=edK X S m f s d fun cs' _ _ _ M => eqVs cs' cs && eqSt (dropK M (d.kn.length + s)) D
theorem cfg_parts (hG:GOK G) (hX:RuleOK G X) (hXr:RuleOK G Xr) (hS:CallOK Tryz.prog G S) {m m':Nat} {t:Int} {L s:Nat} {d:NewD} {csE csD:List V} {DE DD:Mem} (h1:newChk X S m t L s d = true) (h2:edChk X S m' 65 s d csE DE = true) (h3:edChk X S m' 63 s d csD DD = true)
  (h4:backChk Xr (List.replicate d.kn.length .dead) s d csE csD DE DD = true):∃ c sol rows E D gE gD lE lD,CipherOK G t L s c sol rows E D gE gD lE lD:=by
 obtain ⟨d',M0,hN,h1⟩:=newK_ok hG hX hS h1
 have:=eqNew_iff h1
 subst this
 obtain ⟨csE',gE,lE,bE,ME,hE,h2⟩:=edK_ok hG hX hS h2
 simp only [Bool.and_eq_true,dropK_eq] at h2
 have e1:=eqVs_iff h2.1
 have e2:=eqSt_iff h2.2
 subst e1 e2
 obtain ⟨csD',gD,lD,bD,MD,hD,h3⟩:=edK_ok hG hX hS h3
 simp only [Bool.and_eq_true,dropK_eq] at h3
 have e1:=eqVs_iff h3.1
 have e2:=eqSt_iff h3.2
 subst e1 e2
 refine ⟨d'.c,fun ns => solve G (M0.drop L) (ns.map some),fun base sol => (news sol d'.bl base M0 d'.bl).getD [],turnOf G d' s csE' ME,turnOf G d' s csD' MD,gE,gD,lE,lD,?_⟩
 refine ⟨?_,?_,?_,?_,?_,?_,fun ns base cs => news_getD cs,fun ns hl hb base => new_tag hG hN hl hb base⟩
 ·intro ns hl hb M b o lim hr hlim
  exact new_call hG hN hl hb hr hlim
 ·intro ns hl hb base M hrow x b o lim hx hbx hr hlim
  exact ed_call hG hN hE hl hb hrow hx hbx hr hlim
 ·intro ns hl hb base M hrow x b o lim hx hbx hr hlim
  exact ed_call hG hN hD hl hb hrow hx hbx hr hlim
 ·intro ns hl hb x hx hbx
  exact ed_fits hG hN hE hl hb hx hbx
 ·intro ns hl hb x hx hbx
  exact ed_fits hG hN hD hl hb hx hbx
 ·intro ns hl hb x hx hbx
  refine back_ok hG hXr hN hE hD (KB:=List.replicate d'.kn.length .dead) (by simp) (fun i d1 v e => ?_) (fun tb M σ k => rpl_strip Xr _ tb M σ k) (fun tb M σ k => rpl_strip Xr _ tb M σ k) h4 hl hb hx hbx
  rw [List.getElem?_replicate] at e
  split at e <;> cases e
end
end
end
section
open Go.Proofs
noncomputable section
def orX (X Y:Rule):Rule:=fun M d => match X M d with
 | some v => some v
 | none => Y M d
theorem orX_ok {G:GF} {X Y:Rule} (hX:RuleOK G X) (hY:RuleOK G Y):RuleOK G (orX X Y):=by
 intro φ M d x v hE h hd
 unfold orX at h
 split at h
 ·rename_i v' hv
  injection h with h; subst h
  exact hX φ M d x _ hE hv hd
 ·exact hY φ M d x v hE h hd
def retag (k:IntKind) (v:V):Option V :=
 match v with
 | .sym _ i lo hi => match leI 0 lo && leI hi (kmax k) with
  | true => some (.sym k i lo hi)
  | false => none
 | .int _ n => match leI 0 n && leI n (kmax k) with
  | true => some (.int k n)
  | false => none
 | _ => none
theorem retag_ok {φ:Pl} {k:IntKind} {v v':V} {n:Int} (h:retag k v = some v') (hv:v.num φ = some n):v'.conc φ = some (.int k n) ∧ 0 ≤ n ∧ n ≤ kmax k:=by
 rcases V.num_cases hv with ⟨k',rfl⟩ | ⟨k',i,lo,hi,p,rfl,hp,rfl,h1,h2⟩
 ·simp only [retag] at h
  split at h
  ·rename_i hc
   simp only [Bool.and_eq_true,leI_iff] at hc
   injection h with h; subst h
   exact ⟨rfl,hc⟩
  ·cases h
 ·simp only [retag] at h
  split at h
  ·rename_i hc
   simp only [Bool.and_eq_true,leI_iff] at hc
   injection h with h; subst h
   refine ⟨by simp [V.conc,hp,h1,h2],by omega,by omega⟩
  ·cases h
theorem pos_wrap {k:IntKind} {n:Int} (h0:0 ≤ n) (h1:n ≤ kmax k):k.wrap n = n:=wrap_id k n (by have:=kmin_le k; omega) h1
theorem or_join {k:IntKind} {N c:Int} (h0:0 ≤ N) (h1:0 ≤ c) (h2:c < 256) (h3:N * 256 + 255 ≤ kmax k):aint .or k (N * 256) c = some (.int k (N * 256 + c)):=by
 obtain ⟨a,rfl⟩:=Int.eq_ofNat_of_zero_le h0
 obtain ⟨b,rfl⟩:=Int.eq_ofNat_of_zero_le h1
 have hb:b < 2 ^ 8:=by omega
 have:=(nat_bits k (a * 256) b (by omega) (by omega)).2.1
 simp only [aint]
 rw [show ((a:Int) * 256) = ((a * 256:Nat):Int) by omega,this]
 have e:=Nat.two_pow_add_eq_or_of_lt hb a
 have e2:a * 256 ||| b = a * 256 + b:=by rw [show a * 256 = 2 ^ 8 * a from Nat.mul_comm a 256]; exact e.symm
 rw [e2,Int.natCast_add]
theorem or_zero {k:IntKind} {n:Int} (h0:0 ≤ n) (h1:n ≤ kmax k):aint .or k 0 n = some (.int k n) ∧ aint .or k n 0 = some (.int k n):=by
 obtain ⟨a,rfl⟩:=Int.eq_ofNat_of_zero_le h0
 have h2:((0:Nat):Int) ≤ kmax k:=by omega
 have e1:=(nat_bits k 0 a h2 h1).2.1
 have e2:=(nat_bits k a 0 h1 h2).2.1
 simp only [Nat.zero_or,Nat.or_zero] at e1 e2
 exact ⟨e1,e2⟩
def or0X:Rule:=fun _ d => match d with
 | .bin .or k a b => match a,b with
  | .int _ n,b => match eqI n 0 with
   | true => retag k b
   | false => none
  | a,.int _ n => match eqI n 0 with
   | true => retag k a
   | false => none
  | _,_ => none
 | _ => none
theorem or0X_ok {G:GF}:RuleOK G or0X:=by
 intro φ M d x v hE h hd
 unfold or0X at h
 split at h
 ·rename_i k a b
  obtain ⟨m,n,ha,hb,hx⟩:=val_bin hd
  split at h
  ·rename_i k' n' b'
   split at h
   ·rename_i hz
    rw [eqI_iff] at hz; subst hz
    simp only [V.num,V.conc,Option.some.injEq] at ha; subst ha
    obtain ⟨h1,h2,h3⟩:=retag_ok h hb
    rw [(or_zero h2 h3).1] at hx
    injection hx with hx; subst hx
    exact ⟨_,rfl,h1⟩
   ·cases h
  ·rename_i k' n' _
   split at h
   ·rename_i hz
    rw [eqI_iff] at hz; subst hz
    simp only [V.num,V.conc,Option.some.injEq] at hb; subst hb
    obtain ⟨h1,h2,h3⟩:=retag_ok h ha
    rw [(or_zero h2 h3).2] at hx
    injection hx with hx; subst hx
    exact ⟨_,rfl,h1⟩
   ·cases h
  ·cases h
 ·cases h
def shl8 (M:Mem) (v:V):Option (IntKind × V):=match defOf M v with
 | some (.shift .shl k p (.int _ n)) => match eqI n 8 with
  | true => some (k,p)
  | false => none
 | _ => none
def shr8 (M:Mem) (v:V):Option V:=match defOf M v with
 | some (.shift .shr _ p (.int _ n)) => match eqI n 8 with
  | true => some p
  | false => none
 | _ => none
def low8 (M:Mem) (v:V):Option V:=match defOf M v with
 | some (.conv .u8 p) => some p
 | _ => none
theorem bits8 (k:IntKind):min 8 k.bits = 8:=by cases k <;> rfl
section
variable {G:GF} {φ:Pl} {M:Mem} (hE:EqF G φ M)
include hE
theorem shl8_ok {v p:V} {k:IntKind} {n:Int} (h:shl8 M v = some (k,p)) (hv:v.num φ = some n):∃ m,p.num φ = some m ∧ n = k.wrap (m * 256):=by
 unfold shl8 at h
 split at h
 ·rename_i k' p' kk c hd
  split at h
  ·rename_i hc
   rw [eqI_iff] at hc; subst hc
   simp only [Option.some.injEq,Prod.mk.injEq] at h
   obtain ⟨rfl,rfl⟩:=h
   obtain ⟨k2,h2⟩:=defOf_sound hE hd hv
   simp only [Def.val,Option.bind_eq_some_iff] at h2
   obtain ⟨m,hm,y,hy,h2⟩:=h2
   simp only [V.num,V.conc,Option.some.injEq] at hy; subst hy
   simp only [ashift,Int.reduceLT,if_false] at h2
   rw [show Int.toNat 8 = 8 from rfl,bits8] at h2
   injection h2 with h2; injection h2 with _ h2
   exact ⟨m,hm,h2.symm⟩
  ·cases h
 ·cases h
theorem shr8_ok {v p:V} {n:Int} (h:shr8 M v = some p) (hv:v.num φ = some n):∃ m,p.num φ = some m ∧ n = m / 256:=by
 unfold shr8 at h
 split at h
 ·rename_i k' p' kk c hd
  split at h
  ·rename_i hc
   rw [eqI_iff] at hc; subst hc
   injection h with h; subst h
   obtain ⟨k2,h2⟩:=defOf_sound hE hd hv
   simp only [Def.val,Option.bind_eq_some_iff] at h2
   obtain ⟨m,hm,y,hy,h2⟩:=h2
   simp only [V.num,V.conc,Option.some.injEq] at hy; subst hy
   simp only [ashift,Int.reduceLT,if_false] at h2
   rw [show Int.toNat 8 = 8 from rfl,bits8] at h2
   injection h2 with h2; injection h2 with _ h2
   refine ⟨m,hm,?_⟩
   rw [← h2,show (2:Int) ^ 8 = 256 from rfl,Int.fdiv_eq_ediv_of_nonneg _ (by decide)]
  ·cases h
 ·cases h
theorem low8_ok {v p:V} {n:Int} (h:low8 M v = some p) (hv:v.num φ = some n):∃ m,p.num φ = some m ∧ n = m % 256:=by
 unfold low8 at h
 split at h
 ·rename_i p' hd
  injection h with h; subst h
  obtain ⟨k2,h2⟩:=defOf_sound hE hd hv
  simp only [Def.val,Option.map_eq_some_iff] at h2
  obtain ⟨m,hm,h2⟩:=h2
  injection h2 with _ h2
  refine ⟨m,hm,?_⟩
  rw [← h2]
  simp [IntKind.wrap,IntKind.bits,IntKind.signed]
 ·cases h
end
def joinX:Rule:=fun M d => match d with
 | .bin .or k a c => match shl8 M a with
  | some (k1,p) => match shr8 M p,low8 M c with
   | some s,some s' => match same s s' && (leI 0 s.lo && (leI s.hi (kmax k1) && leI 255 (kmax k))) with
    | true => retag k s
    | false => none
   | _,_ => none
  | none => none
 | _ => none
theorem joinX_ok {G:GF}:RuleOK G joinX:=by
 intro φ M d x v hE h hd
 unfold joinX at h
 split at h
 ·rename_i k a c
  obtain ⟨m,n,ha,hc,hx⟩:=val_bin hd
  split at h
  ·rename_i k1 p hp
   split at h
   ·rename_i s s' hs hs'
    split at h
    ·rename_i hb
     simp only [Bool.and_eq_true,leI_iff] at hb
     obtain ⟨m1,h1,rfl⟩:=shl8_ok hE hp ha
     obtain ⟨m2,h2,rfl⟩:=shr8_ok hE hs h1
     obtain ⟨m3,h3,rfl⟩:=low8_ok hE hs' hc
     have:=same_num hb.1 h2 h3; subst this
     have hbn:=V.bnd h2
     obtain ⟨h4,h5,h6⟩:=retag_ok h h2
     have e1:k1.wrap (m2 / 256 * 256) = m2 / 256 * 256:=pos_wrap (by omega) (by omega)
     rw [e1] at hx
     have hk:m2 / 256 * 256 + 255 ≤ kmax k:=by
      have:∃ q,kmax k = q * 256 + 255 ∨ kmax k = 127:=by
       cases k
       ·exact ⟨0,.inr rfl⟩
       ·exact ⟨127,.inl rfl⟩
       ·exact ⟨8388607,.inl rfl⟩
       ·exact ⟨36028797018963967,.inl rfl⟩
       ·exact ⟨0,.inl rfl⟩
       ·exact ⟨255,.inl rfl⟩
       ·exact ⟨16777215,.inl rfl⟩
       ·exact ⟨72057594037927935,.inl rfl⟩
      obtain ⟨q,hq | hq⟩:=this
      ·omega
      ·omega
     rw [or_join (by omega) (by omega) (by omega) hk] at hx
     injection hx with hx; subst hx
     refine ⟨_,rfl,?_⟩
     rw [show m2 / 256 * 256 + m2 % 256 = m2 by omega]; exact h4
    ·cases h
   ·cases h
  ·cases h
 ·cases h
def joined (M:Mem) (a:V):Option (V × V):=match defOf M a with
 | some (.bin .or k1 p c) => match shl8 M p with
  | some (k2,q) => match (leI 0 c.lo && leI c.hi 255) && (leI 0 q.lo && (leI (q.hi * 256 + 255) (kmax k1) && leI (q.hi * 256 + 255) (kmax k2))) with
   | true => some (q,c)
   | false => none
  | none => none
 | _ => none
theorem joined_ok {G:GF} {φ:Pl} {M:Mem} (hE:EqF G φ M) {a q c:V} {n:Int} (h:joined M a = some (q,c)) (ha:a.num φ = some n):∃ x y,q.num φ = some x ∧ c.num φ = some y ∧ 0 ≤ x ∧ 0 ≤ y ∧ y < 256 ∧ n = x * 256 + y:=by
 unfold joined at h
 split at h
 ·rename_i k1 p c' hd
  split at h
  ·rename_i k2 q' hq
   split at h
   ·rename_i hb
    simp only [Bool.and_eq_true,leI_iff] at hb
    simp only [Option.some.injEq,Prod.mk.injEq] at h
    obtain ⟨rfl,rfl⟩:=h
    obtain ⟨k3,h3⟩:=defOf_sound hE hd ha
    obtain ⟨m,y,h4,h5,h6⟩:=val_bin h3
    obtain ⟨x,h7,rfl⟩:=shl8_ok hE hq h4
    have b1:=V.bnd h7
    have b2:=V.bnd h5
    rw [pos_wrap (by omega) (by omega),or_join (by omega) (by omega) (by omega) (by omega)] at h6
    injection h6 with h6; injection h6 with _ h6
    exact ⟨x,y,h7,h5,by omega,by omega,by omega,h6.symm⟩
   ·cases h
  ·cases h
 ·cases h
def takeX:Rule:=fun M d => match d with
 | .conv .u8 a => match joined M a with
  | some p => retag .u8 p.2
  | none => none
 | .shift .shr k a (.int _ n) => match eqI n 8 with
  | true => match joined M a with
   | some p => retag k p.1
   | none => none
  | false => none
 | _ => none
theorem takeX_ok {G:GF}:RuleOK G takeX:=by
 intro φ M d x v hE h hd
 unfold takeX at h
 split at h
 ·rename_i a
  split at h
  ·rename_i p hp
   obtain ⟨q,c⟩:=p
   simp only [Def.val,Option.map_eq_some_iff] at hd
   obtain ⟨n,hn,rfl⟩:=hd
   obtain ⟨s,y,h1,h2,h3,h4,h5,rfl⟩:=joined_ok hE hp hn
   obtain ⟨h6,_,_⟩:=retag_ok h h2
   refine ⟨_,rfl,?_⟩
   rw [show IntKind.u8.wrap (s * 256 + y) = y by simp [IntKind.wrap,IntKind.bits,IntKind.signed]; omega]
   exact h6
  ·cases h
 ·rename_i k a kk c
  split at h
  ·rename_i hc
   rw [eqI_iff] at hc; subst hc
   split at h
   ·rename_i p hp
    obtain ⟨q,c⟩:=p
    simp only [Def.val,Option.bind_eq_some_iff] at hd
    obtain ⟨n,hn,y',hy',hd⟩:=hd
    simp only [V.num,V.conc,Option.some.injEq] at hy'; subst hy'
    obtain ⟨s,y,h1,h2,h3,h4,h5,rfl⟩:=joined_ok hE hp hn
    obtain ⟨h6,_,_⟩:=retag_ok h h1
    simp only [ashift,Int.reduceLT,if_false] at hd
    rw [show Int.toNat 8 = 8 from rfl,bits8,show (2:Int) ^ 8 = 256 from rfl,Int.fdiv_eq_ediv_of_nonneg _ (by decide)] at hd
    injection hd with hd; subst hd
    refine ⟨_,rfl,?_⟩
    rw [show (s * 256 + y) / 256 = s by omega]
    exact h6
   ·cases h
  ·cases h
 ·cases h
def wordX:Rule:=orX or0X (orX joinX (orX takeX findX))
theorem wordX_ok {G:GF}:RuleOK G wordX:=orX_ok or0X_ok (orX_ok joinX_ok (orX_ok takeX_ok (findX_ok G)))
end
end
section
open Go.Proofs
noncomputable section
theorem num_call {G:GF} (hG:GOK G) {f n:Nat} {args0:List V} {v0:V} {M0':Mem} {ch:List Nat} (hr:FN noX tyF fn noS 6 f args0 (List.replicate n .dead) = some (v0,M0',ch)) {ins args:List V} (hl:ins.length = n)
  (ha:(Bd.mk ins []).subs args0 = some args) {ns:List Int} (hn:∀ φ,nums φ ins = some ns) {k:IntKind} {y:Int} (hv:∀ base,rep (solve G (M0'.drop n) (ns.map some)) [] base v0 = some (.int k y)) (M:Mem):ACall Tryz.prog G f args M (.int k y) M:=by
 have hc:=(run hG noX_ok noS_ok 6 _ _ _ _ _ _ hr).1
 refine ⟨hc.1,?_⟩
 intro prot W0 φ w us hM hus
 subst hl
 have e:List.replicate ins.length Blk.dead = small ins.length []:=by simp [small]
 rw [e] at hc
 have:=sumcall (B:=⟨ins,[]⟩) (rows:=[]) hc ha ⟨rfl,fun i cs0 p hi => by simp at hi⟩ (bl:=[]) (fun i j b hi => by simp at hi) hM hus (hn φ) (hv M.length) (N:=[]) rfl
 simpa using this
def m16:Int → Int:=fun a => if a = 0 then 65536 else a
def mulF:List Int → Int
 | [a,b] => m16 a * m16 b % 65537 % 65536
 | _ => 0
def addF:List Int → Int
 | [a,b] => (a + b) % 65536
 | _ => 0
def negF:List Int → Int
 | [a] => (65536 - a) % 65536
 | _ => 0
def u16s:IntKind × Int × Int:=(.i64,0,65535)
def nMul:Nf:=⟨1112,112,[u16s,u16s],.i64⟩
def nAdd:Nf:=⟨1113,113,[u16s,u16s],.i64⟩
def nNeg:Nf:=⟨1110,110,[u16s],.i64⟩
theorem run112a:FN noX tyF fn noS 6 112 [.sym .i64 0 1 65535,.sym .i64 1 1 65535] (List.replicate 2 .dead) = some (.sym .i64 4 0 65535,[.dead,.dead,.eqn (.bin .mul .i64 (.sym .i64 0 1 65535) (.sym .i64 1 1 65535)) (.sym .i64 2 1 4294836225),.eqn (.bin .rem .i64 (.sym .i64 2 1 4294836225) (.int .i64 65537)) (.sym .i64 3 0 65536),.eqn (.bin .rem .i64 (.sym .i64 3 0 65536) (.int .i64 65536)) (.sym .i64 4 0 65535)],[]):=by kernel_rfl
theorem run112b:FN noX tyF fn noS 6 112 [.int .i64 0,.sym .i64 0 1 65535] (List.replicate 1 .dead) = some (.sym .i64 3 0 65535,[.dead,.eqn (.bin .mul .i64 (.int .i64 65536) (.sym .i64 0 1 65535)) (.sym .i64 1 65536 4294901760),.eqn (.bin .rem .i64 (.sym .i64 1 65536 4294901760) (.int .i64 65537)) (.sym .i64 2 0 65536),.eqn (.bin .rem .i64 (.sym .i64 2 0 65536) (.int .i64 65536)) (.sym .i64 3 0 65535)],[]):=by kernel_rfl
theorem run112c:FN noX tyF fn noS 6 112 [.sym .i64 0 1 65535,.int .i64 0] (List.replicate 1 .dead) = some (.sym .i64 3 0 65535,[.dead,.eqn (.bin .mul .i64 (.sym .i64 0 1 65535) (.int .i64 65536)) (.sym .i64 1 65536 4294901760),.eqn (.bin .rem .i64 (.sym .i64 1 65536 4294901760) (.int .i64 65537)) (.sym .i64 2 0 65536),.eqn (.bin .rem .i64 (.sym .i64 2 0 65536) (.int .i64 65536)) (.sym .i64 3 0 65535)],[]):=by kernel_rfl
theorem run112d:FN noX tyF fn noS 6 112 [.int .i64 0,.int .i64 0] (List.replicate 0 .dead) = some (.int .i64 1,[],[]):=by kernel_rfl
theorem run113:FN noX tyF fn noS 6 113 [.sym .i64 0 0 65535,.sym .i64 1 0 65535] (List.replicate 2 .dead) = some (.sym .i64 3 0 65535,[.dead,.dead,.eqn (.bin .add .i64 (.sym .i64 0 0 65535) (.sym .i64 1 0 65535)) (.sym .i64 2 0 131070),.eqn (.bin .rem .i64 (.sym .i64 2 0 131070) (.int .i64 65536)) (.sym .i64 3 0 65535)],[]):=by kernel_rfl
theorem run110:FN noX tyF fn noS 6 110 [.sym .i64 0 0 65535] (List.replicate 1 .dead) = some (.sym .i64 2 0 65535,[.dead,.eqn (.bin .sub .i64 (.int .i64 65536) (.sym .i64 0 0 65535)) (.sym .i64 1 1 65536),.eqn (.bin .rem .i64 (.sym .i64 1 1 65536) (.int .i64 65536)) (.sym .i64 2 0 65535)],[]):=by kernel_rfl
theorem w64 {n:Int} (h0:0 ≤ n) (h1:n ≤ 9223372036854775807):IntKind.i64.wrap n = n:=pos_wrap h0 h1
theorem mul_le {a b:Int} (ha:1 ≤ a) (ha':a ≤ 65536) (hb:1 ≤ b) (hb':b ≤ 65536):1 ≤ a * b ∧ a * b ≤ 65536 * b ∧ a * b ≤ a * 65536:=by
 refine ⟨?_,Int.mul_le_mul_of_nonneg_right ha' (by omega),Int.mul_le_mul_of_nonneg_left hb' (by omega)⟩
 have:=Int.mul_le_mul_of_nonneg_right ha (show 0 ≤ b by omega)
 omega
theorem mul_call {G:GF} (hG:GOK G) (ns:List Int) (M:Mem) (h:nfIn nMul.shs ns):ACall Tryz.prog G 112 (nfInts nMul.shs ns) M (.int .i64 (mulF ns)) M:=by
 match ns,h with
 | [a,b],h =>
  simp only [nMul,nfIn,u16s] at h
  obtain ⟨ha0,ha1,hb0,hb1,_⟩:=h
  simp only [nMul,nfInts,u16s]
  by_cases ha:a = 0
  ·by_cases hb:b = 0
   ·subst ha hb
    exact num_call hG run112d (ins:=[]) rfl rfl (ns:=[]) (fun φ => rfl) (fun base => rfl) M
   ·subst ha
    have hb2:1 ≤ b:=by omega
    refine num_call hG run112b (ins:=[.int .i64 b]) rfl (by simp [Bd.subs,Bd.sub,V.kindIs,V.lo,V.hi,hb2,hb1]) (ns:=[b]) (fun φ => rfl) (fun base => ?_) M
    have e1:65536 ≤ 65536 * b ∧ 65536 * b ≤ 4294901760:=by omega
    have e3:0 ≤ 65536 * b % 65537 ∧ 65536 * b % 65537 ≤ 65536:=by omega
    have e4:(65536 * b).tmod 65537 = 65536 * b % 65537:=Int.tmod_eq_emod_of_nonneg (by omega)
    have e5:(65536 * b % 65537).tmod 65536 = 65536 * b % 65537 % 65536:=Int.tmod_eq_emod_of_nonneg (by omega)
    simp [solve,sol1,numOf,Def.val,V.num,V.conc,plOf,rep,aint,mulF,m16,hb2,hb1,hb,w64 (n:=65536 * b) (by omega) (by omega),e1,e3,e4,e5]
  ·have ha2:1 ≤ a:=by omega
   by_cases hb:b = 0
   ·subst hb
    refine num_call hG run112c (ins:=[.int .i64 a]) rfl (by simp [Bd.subs,Bd.sub,V.kindIs,V.lo,V.hi,ha2,ha1]) (ns:=[a]) (fun φ => rfl) (fun base => ?_) M
    have e1:65536 ≤ a * 65536 ∧ a * 65536 ≤ 4294901760:=by omega
    have e3:0 ≤ a * 65536 % 65537 ∧ a * 65536 % 65537 ≤ 65536:=by omega
    have e4:(a * 65536).tmod 65537 = a * 65536 % 65537:=Int.tmod_eq_emod_of_nonneg (by omega)
    have e5:(a * 65536 % 65537).tmod 65536 = a * 65536 % 65537 % 65536:=Int.tmod_eq_emod_of_nonneg (by omega)
    simp [solve,sol1,numOf,Def.val,V.num,V.conc,plOf,rep,aint,mulF,m16,ha2,ha1,ha,w64 (n:=a * 65536) (by omega) (by omega),e1,e3,e4,e5]
   ·have hb2:1 ≤ b:=by omega
    refine num_call hG run112a (ins:=[.int .i64 a,.int .i64 b]) rfl (by simp [Bd.subs,Bd.sub,V.kindIs,V.lo,V.hi,ha2,ha1,hb2,hb1]) (ns:=[a,b]) (fun φ => rfl) (fun base => ?_) M
    have e0:=mul_le ha2 (by omega) hb2 (by omega)
    have e1:1 ≤ a * b ∧ a * b ≤ 4294836225:=by
     have:a * b ≤ 65535 * b:=Int.mul_le_mul_of_nonneg_right ha1 (by omega)
     omega
    generalize hp:a * b = p at *
    have e3:0 ≤ p % 65537 ∧ p % 65537 ≤ 65536:=by omega
    have e4:p.tmod 65537 = p % 65537:=Int.tmod_eq_emod_of_nonneg (by omega)
    have e5:(p % 65537).tmod 65536 = p % 65537 % 65536:=Int.tmod_eq_emod_of_nonneg (by omega)
    simp [solve,sol1,numOf,Def.val,V.num,V.conc,plOf,rep,aint,mulF,m16,ha2,ha1,ha,hb2,hb1,hb,hp,w64 (n:=p) (by omega) (by omega),e1,e3,e4,e5]
theorem add_call {G:GF} (hG:GOK G) (ns:List Int) (M:Mem) (h:nfIn nAdd.shs ns):ACall Tryz.prog G 113 (nfInts nAdd.shs ns) M (.int .i64 (addF ns)) M:=by
 match ns,h with
 | [a,b],h =>
  simp only [nAdd,nfIn,u16s] at h
  obtain ⟨ha0,ha1,hb0,hb1,_⟩:=h
  simp only [nAdd,nfInts,u16s]
  refine num_call hG run113 (ins:=[.int .i64 a,.int .i64 b]) rfl (by simp [Bd.subs,Bd.sub,V.kindIs,V.lo,V.hi,ha0,ha1,hb0,hb1]) (ns:=[a,b]) (fun φ => rfl) (fun base => ?_) M
  have e1:0 ≤ a + b ∧ a + b ≤ 131070:=by omega
  have e4:(a + b).tmod 65536 = (a + b) % 65536:=Int.tmod_eq_emod_of_nonneg (by omega)
  simp [solve,sol1,numOf,Def.val,V.num,V.conc,plOf,rep,aint,addF,ha0,ha1,hb0,hb1,w64 (n:=a + b) (by omega) (by omega),e1,e4]
theorem neg_call {G:GF} (hG:GOK G) (ns:List Int) (M:Mem) (h:nfIn nNeg.shs ns):ACall Tryz.prog G 110 (nfInts nNeg.shs ns) M (.int .i64 (negF ns)) M:=by
 match ns,h with
 | [a],h =>
  simp only [nNeg,nfIn,u16s] at h
  obtain ⟨ha0,ha1,_⟩:=h
  simp only [nNeg,nfInts,u16s]
  refine num_call hG run110 (ins:=[.int .i64 a]) rfl (by simp [Bd.subs,Bd.sub,V.kindIs,V.lo,V.hi,ha0,ha1]) (ns:=[a]) (fun φ => rfl) (fun base => ?_) M
  have e1:1 ≤ 65536 - a ∧ 65536 - a ≤ 65536:=by omega
  have e4:(65536 - a).tmod 65536 = (65536 - a) % 65536:=Int.tmod_eq_emod_of_nonneg (by omega)
  simp [solve,sol1,numOf,Def.val,V.num,V.conc,plOf,rep,aint,negF,ha0,ha1,w64 (n:=65536 - a) (by omega) (by omega),e1,e4]
end
end
section
open Go.Proofs
noncomputable section
def u32:Sh:=.num .u32 0 4294967295
def symT (k:IntKind):Nat → Nat → List V
 | 0,_ => []
 | n + 1,i => .sym k i 0 0 :: symT k n (i + 1)
def kinds (k:IntKind) (n:Nat):List IntKind:=List.replicate n k
def rStir:Rn:=⟨126,126,[u32,u32],[.u32],.sym .u32 0 0 0,[]⟩
def rG:Rn:=⟨128,128,[u32,u32],[.u32],.sym .u32 0 0 0,[]⟩
def rInv:Rn:=⟨1111,111,[.num .i64 0 65535],[.i64],.sym .i64 0 0 0,[]⟩
def rTurn (n:Nat):Rn:=⟨2100 + n,109,[.row .u8 16 0 255,.lit (.int .i64 n)],kinds .u8 16,.sl 0 0 16 (some 16),[(symT .u8 16 0,0)]⟩
def rLoad:Rn:=⟨1081,81,[.row .u8 16 0 255],kinds .i64 8,.sl 0 0 8 none,[(symT .i64 8 0,1)]⟩
def ideaN:Known:=orS (numS or0X nMul mulF) (orS (numS or0X nAdd addF) (numS or0X nNeg negF))
def turnS:List Nat → Known
 | [] => noS
 | n :: l => orS (runS or0X (rTurn n)) (turnS l)
def ideaTurns:List Nat:=[0,25,50,75,100,125,150]
def ideaS:Known:=orS ideaN (orS (runS or0X rInv) (orS (runS or0X rLoad) (turnS ideaTurns)))
end
end
section
open Go.Proofs
theorem fermat_low:∀ a:Nat,a < 257 → 0 < a → a ^ 65536 % 65537 = 1:=by
 have h:(List.range 257).all (fun a => Nat.beq a 0 || Nat.beq (a ^ 65536 % 65537) 1) = true:=by decide +kernel
 intro a ha h0
 have:=List.all_eq_true.1 h a (List.mem_range.2 ha)
 simp only [Bool.or_eq_true,Nat.beq_eq] at this
 omega
theorem prime_low:∀ q:Nat,q < 257 → 1 < q → 65537 % q ≠ 0:=by
 have h:(List.range 257).all (fun q => Nat.ble q 1 || !Nat.beq (65537 % q) 0) = true:=by decide +kernel
 intro q ha h0 he
 have:=List.all_eq_true.1 h q (List.mem_range.2 ha)
 simp only [Bool.or_eq_true,Nat.ble_eq,Bool.not_eq_true'] at this
 rcases this with h1 | h1
 ·omega
 ·rw [he] at h1; cases h1
theorem sq_neg {r p:Nat} (h:r ≤ p):(p - r) ^ 2 % p = r ^ 2 % p:=by
 obtain ⟨s,rfl⟩:=Nat.le.dest h
 rw [Nat.add_sub_cancel_left]
 have e1:s ^ 2 + r * (r + s) = r ^ 2 + s * (r + s):=by
  simp only [Nat.pow_succ,Nat.pow_zero,Nat.one_mul,Nat.mul_add,Nat.mul_comm s r]; omega
 have h1:(s ^ 2 + r * (r + s)) % (r + s) = s ^ 2 % (r + s):=Nat.add_mul_mod_self_right _ _ _
 have h2:(r ^ 2 + s * (r + s)) % (r + s) = r ^ 2 % (r + s):=Nat.add_mul_mod_self_right _ _ _
 rw [← h1,← h2,e1]
theorem pow_neg {r p:Nat} (h:r ≤ p) (N:Nat):(p - r) ^ (2 * N) % p = r ^ (2 * N) % p:=by
 rw [Nat.pow_mul,Nat.pow_mod,sq_neg h,← Nat.pow_mod,← Nat.pow_mul]
theorem pow_prod {a b p N:Nat} (h1:a ^ N % p = 1):(a * b) ^ N % p = b ^ N % p:=by
 rw [Nat.mul_pow,Nat.mul_mod,h1,Nat.one_mul,Nat.mod_mod]
theorem pow_zero {a p N:Nat} (hN:0 < N) (h:a % p = 0):a ^ N % p = 0:=by
 rw [Nat.pow_mod,h,Nat.zero_pow hN,Nat.zero_mod]
set_option exponentiation.threshold 100000 in
theorem fermat:∀ a:Nat,0 < a → a < 65537 → a ^ 65536 % 65537 = 1:=by
 intro a
 induction a using Nat.strongRecOn with
 | _ a ih =>
  intro h0 h1
  by_cases hlow:a < 257
  ·exact fermat_low a hlow h0
  ·have hdm:=Nat.div_add_mod 65537 a
   have hq1:65537 / a < 257:=by
    rw [Nat.div_lt_iff_lt_mul (by omega)]; omega
   have hr1:65537 % a < a:=Nat.mod_lt _ (by omega)
   have hq0:0 < 65537 / a:=Nat.div_pos (by omega) (by omega)
   have hr0:65537 % a ≠ 0:=by
    intro he
    rw [he,Nat.add_zero] at hdm
    by_cases hq:65537 / a = 1
    ·rw [hq] at hdm; omega
    ·refine prime_low (65537 / a) hq1 (by omega) ?_
     have:65537 % (65537 / a) = 0:=by
      have h2:65537 = (65537 / a) * a:=by rw [Nat.mul_comm]; exact hdm.symm
      generalize 65537 / a = q at *
      rw [h2]; exact Nat.mul_mod_right q a
     exact this
   have hcq:=ih (65537 / a) (by omega) hq0 (by omega)
   have hcr:=ih (65537 % a) hr1 (by omega) (by omega)
   generalize 65537 / a = q at *
   generalize 65537 % a = r at *
   have haq:a * q = 65537 - r:=by omega
   have h2:(a * q) ^ 65536 % 65537 = 1:=by
    rw [haq]
    exact (pow_neg (r:=r) (p:=65537) (by omega) 32768).trans hcr
   rw [Nat.mul_comm,pow_prod hcq] at h2
   exact h2
set_option exponentiation.threshold 100000 in
theorem prod_ne {a b:Nat} (ha:0 < a) (ha':a < 65537) (hb:0 < b) (hb':b < 65537):a * b % 65537 ≠ 0:=by
 intro h
 have h1:=fermat a ha ha'
 have h2:=fermat b hb hb'
 have h3:(a * b) ^ 65536 % 65537 = 0:=pow_zero (by decide) h
 rw [pow_prod h1,h2] at h3
 cases h3
def eN (a:Int):Nat:=(m16 a).toNat
theorem eN_in {a:Int} (h0:0 ≤ a) (h1:a ≤ 65535):0 < eN a ∧ eN a < 65537 ∧ (eN a:Int) = m16 a:=by
 unfold eN m16
 split <;> omega
theorem mulF_in {a b:Int} (ha:0 ≤ a) (ha':a ≤ 65535) (hb:0 ≤ b) (hb':b ≤ 65535):0 ≤ mulF [a,b] ∧ mulF [a,b] ≤ 65535 ∧ eN (mulF [a,b]) = eN a * eN b % 65537:=by
 obtain ⟨a1,a2,a3⟩:=eN_in ha ha'
 obtain ⟨b1,b2,b3⟩:=eN_in hb hb'
 have hne:=prod_ne a1 a2 b1 b2
 have hlt:eN a * eN b % 65537 < 65537:=Nat.mod_lt _ (by decide)
 have e:mulF [a,b] = ((eN a * eN b % 65537 % 65536:Nat):Int):=by
  show m16 a * m16 b % 65537 % 65536 = _
  rw [← a3,← b3,← Int.natCast_mul]
  generalize eN a * eN b = q
  omega
 generalize eN a * eN b % 65537 = p at *
 rw [e]
 refine ⟨by omega,by omega,?_⟩
 unfold eN m16
 split <;> omega
theorem eN_inj {a b:Int} (ha:0 ≤ a) (ha':a ≤ 65535) (hb:0 ≤ b) (hb':b ≤ 65535) (h:eN a = eN b):a = b:=by
 unfold eN m16 at h
 split at h <;> split at h <;> omega
theorem mul_back {x y m:Int} (hx:0 ≤ x) (hx':x ≤ 65535) (hy:0 ≤ y) (hy':y ≤ 65535) (hm:0 ≤ m) (hm':m ≤ 65535) (h:eN y * eN m % 65537 = 1):mulF [mulF [x,y],m] = x:=by
 obtain ⟨a1,a2,a3⟩:=mulF_in hx hx' hy hy'
 obtain ⟨b1,b2,b3⟩:=mulF_in a1 a2 hm hm'
 refine eN_inj b1 b2 hx hx' ?_
 rw [b3,a3,Nat.mod_mul_mod,Nat.mul_assoc,Nat.mul_mod,h,Nat.mul_one,Nat.mod_mod]
 exact Nat.mod_eq_of_lt (eN_in hx hx').2.1
theorem add_back {x y:Int} (hx:0 ≤ x) (hx':x ≤ 65535):addF [addF [x,y],negF [y]] = x ∧ addF [addF [x,negF [y]],y] = x:=by
 simp only [addF,negF]
 omega
end
end Go.Proofs.YthajgdmcjfmjoaaGreatDoor.Rel
