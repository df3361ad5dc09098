/- TopSpoilt, part 22 of 38 of its proof: a relative machine (values, memory, an evaluator, all sound against the model), and by it the walks. Conditions: none. -/
import Derived.Test.YthajgdmcjfmjoaaGreatDoorG07
import Derived.Test.YthajgdmcjfmjoaaGreatDoorG15
import Derived.Test.YthajgdmcjfmjoaaGreatDoorG16
set_option linter.all false
namespace Go.Proofs.YthajgdmcjfmjoaaGreatDoor.Rel
open Go.Proofs
noncomputable section
structure Lt where
 f:Nat
 a:V
 cs:List V
 v:V
 rows:List (List V × Nat)
 bl:List Nat
def newsT (bl:List Nat) (base:Nat):List (List V × Nat) → Option (List Blk)
 | [] => some []
 | r :: l => match reps [] bl base r.1 with
  | some cs => (newsT bl base l).map (.own cs r.2 :: ·)
  | none => none
def litS (e:Lt):Known:=fun f args M =>
 match Nat.beq f e.f with
 | true => match args with
  | [a,.sl b o n (some c)] => match eqV a e.a && (Nat.beq n e.cs.length && Nat.ble n c) with
   | true => match rd M b o n with
    | some cs => match eqVs cs e.cs with
     | true => kNat M.length fun base => match rep [] e.bl base e.v,newsT e.bl base e.rows with
      | some v,some N => some (v,M ++ N,[])
      | _,_ => none
     | false => none
    | none => none
   | false => none
  | _ => none
 | false => none
def blksEq (M:Mem):List Nat → List (List V × Nat) → Bool
 | [],[] => true
 | b :: l,r :: rs => (match M[b]? with
  | some (.own cs g) => eqVs cs r.1 && Nat.beq g r.2
  | _ => false) && blksEq M l rs
 | _,_ => false
def ltChk (S:Known) (e:Lt):Bool:=match FN noX tyF fn S 40 e.f [e.a,.sl 0 0 e.cs.length none] (small 0 [e.cs]) with
 | some (v,M,_) => eqV v e.v && blksEq M e.bl e.rows
 | none => false
theorem blksEq_news {M:Mem} {base:Nat} {bl0:List Nat}:∀ {bl:List Nat} {rs:List (List V × Nat)},blksEq M bl rs = true → news [] bl0 base M bl = newsT bl0 base rs
 | [],[],_ => rfl
 | [],_ :: _,h => by cases h
 | _ :: _,[],h => by cases h
 | b :: l,r :: rs,h => by
  simp only [blksEq,Bool.and_eq_true] at h
  obtain ⟨h1,h2⟩:=h
  have ih:=blksEq_news (base:=base) (bl0:=bl0) h2
  split at h1
  ·rename_i cs g hb
   simp only [Bool.and_eq_true] at h1
   have e1:=eqVs_iff h1.1
   have e2:=Nat.eq_of_beq_eq_true h1.2
   subst e1 e2
   simp only [news,newsT,hb,ih]
   cases reps [] bl0 base r.1 <;> rfl
  ·cases h1
theorem newsT_own {bl:List Nat} {base:Nat}:∀ {rs:List (List V × Nat)} {N:List Blk},newsT bl base rs = some N → ∀ k ∈ N,∀ cs,k ≠ .ro cs
 | [],N,h => by simp only [newsT,Option.some.injEq] at h; subst h; simp
 | r :: rs,N,h => by
  simp only [newsT] at h
  split at h
  ·simp only [Option.map_eq_some_iff] at h
   obtain ⟨N',h1,rfl⟩:=h
   intro k hk cs
   rcases List.mem_cons.1 hk with rfl | hk
   ·simp
   ·exact newsT_own h1 k hk cs
  ·cases h
structure LtOK (S:Known) (e:Lt):Prop where
 chk:ltChk S e = true
 nd:∀ i j b:Nat,e.bl[i]? = some b → e.bl[j]? = some b → i = j
 a:∀ B:Bd,B.sub e.a = some e.a
 cs:∀ B:Bd,B.subs e.cs = some e.cs
theorem litS_ok {G:GF} (hG:GOK G) {S:Known} (hS:CallOK Tryz.prog G S) {e:Lt} (he:LtOK S e):CallOK Tryz.prog G (litS e):=by
 intro f args M v M' ch h
 unfold litS at h
 split at h
 ·rename_i hf
  have hf:=Nat.eq_of_beq_eq_true hf
  subst hf
  split at h
  ·rename_i a b o n c
   split at h
   ·rename_i hc
    simp only [Bool.and_eq_true] at hc
    have ha:=eqV_iff hc.1
    have hn:=Nat.eq_of_beq_eq_true hc.2.1
    have hle:=Nat.le_of_ble_eq_true hc.2.2
    subst ha hn
    split at h
    ·rename_i cs hr
     split at h
     ·rename_i hcs
      have hcs:=eqVs_iff hcs
      subst hcs
      rw [kNat_eq] at h
      split at h
      ·rename_i v1 N hv hN
       injection h with h
       injection h with h1 h2
       injection h2 with h2 h3
       subst h1 h2 h3
       have hk:=he.chk
       unfold ltChk at hk
       split at hk
       ·rename_i v0 M0 ch0 hfn
        simp only [Bool.and_eq_true] at hk
        have e1:=eqV_iff hk.1
        subst e1
        have hc0:=(run hG noX_ok hS 40 _ _ _ _ _ _ hfn).1
        have hnw:=(blksEq_news (base:=M.length) (bl0:=e.bl) hk.2).trans hN
        refine ⟨⟨hc0.1,fun prot W0 φ w us hM hus => ?_⟩,GrowL.app _ _ (newsT_own hN)⟩
        have hsub:(Bd.mk [] [(b,o,some c)]).subs [e.a,.sl 0 0 e.cs.length none] = some [e.a,.sl b o e.cs.length (some c)]:=by
         simp [Bd.subs,he.a,Bd.sub]
        refine sumcall (B:=⟨[],[(b,o,some c)]⟩) (rows:=[e.cs]) (bl:=e.bl) (ns:=[]) hc0 hsub ⟨rfl,fun i cs0 p h1 h2 => ?_⟩ he.nd hM hus rfl (rep_any _ hv) (news_any hnw)
        have hi:i = 0:=by have:=(List.getElem?_eq_some_iff.1 h1).1; simp only [List.length_singleton] at this; omega
        subst hi
        simp only [List.getElem?_cons_zero,Option.some.injEq] at h1 h2
        subst h1 h2
        exact ⟨e.cs,he.cs _,hr,hle⟩
       ·cases hk
      ·cases h
     ·cases h
    ·cases h
   ·cases h
  ·cases h
 ·cases h
def zRow (n:Nat):List V:=List.replicate n (.int .i64 0)
def newE:Lt:=⟨32,.int .i64 3,List.replicate 16 (.int .u8 0),.tup [.ptr 1 0,.int .i64 0],[([.int .i64 3,.fn 55 [.ptr 157 0]],0),([.sl 130 0 52 none,.sl 156 0 52 none],0),(zRow 52,1),(zRow 52,1)],[1,157,130,156]⟩
theorem newE_chk:ltChk ideaN newE = true:=by kernel_rfl
theorem newE_ok:LtOK ideaN newE:=by
 refine ⟨newE_chk,fun i j b hi hj => ?_,fun B => rfl,fun B => ?_⟩
 ·have h1:=(List.getElem?_eq_some_iff.1 hi).1
  have h2:=(List.getElem?_eq_some_iff.1 hj).1
  have:∀ i < 4,∀ j < 4,newE.bl[i]? = newE.bl[j]? → i = j:=by decide
  exact this i h1 j h2 (hi.trans hj.symm)
 ·have:∀ n,B.subs (List.replicate n (.int .u8 0)) = some (List.replicate n (.int .u8 0)):=fun n => by
   induction n with
   | zero => rfl
   | succ n ih => simp only [List.replicate_succ,Bd.subs,Bd.sub,ih,Option.map_some]
  exact this 16
end
end Go.Proofs.YthajgdmcjfmjoaaGreatDoor.Rel
