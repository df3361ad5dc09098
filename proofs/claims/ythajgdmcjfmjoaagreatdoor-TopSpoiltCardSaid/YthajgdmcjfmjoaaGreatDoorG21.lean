/- TopSpoilt, part 21 of 38 of its proof: a relative machine (values, memory, an evaluator, all sound against the model), and by it the walks. Conditions: none. -/
import Derived.Test.YthajgdmcjfmjoaaGreatDoorG18
import Derived.Test.YthajgdmcjfmjoaaGreatDoorG19
import Derived.Test.YthajgdmcjfmjoaaGreatDoorG20
set_option linter.all false
namespace Go.Proofs.YthajgdmcjfmjoaaGreatDoor.Rel
open Go.Proofs
noncomputable section
abbrev KOK (S:Known):Prop:=CallOK Tryz.prog GG S
abbrev orOk:RuleOK GG or0X:=or0X_ok
theorem orA {a b:Known} (ha:KOK a) (hb:KOK b):KOK (orS a b):=orS_ok ha hb
theorem okA {S:Known} (hS:KOK S) {m:Nat} {r:Rn} (he:entOf or0X S m r ∈ entsA) (h:rnChk or0X S m r gAll = true):KOK (runS or0X r):=by
 refine rn_ok GG_ok orOk hS h fun ns j => ?_
 have:=at_A he (rnChk_avoid h) ns j
 rwa [entOf_gid] at this
theorem okB {S:Known} (hS:KOK S) {m:Nat} {r:Rn} (he:entOf or0X S m r ∈ entsB) (h:rnChk or0X S m r (gidsC ++ gidsB) = true):KOK (runS or0X r):=by
 refine rn_ok GG_ok orOk hS h fun ns j => ?_
 have:=at_B he (rnChk_avoid h) ns j
 rwa [entOf_gid] at this
theorem okC {S:Known} (hS:KOK S) {m:Nat} {r:Rp} (he:entP or0X S m r ∈ entsC) (h:rpChk or0X S m r gidsC = true):KOK (rpS or0X r):=by
 refine rp_ok GG_ok orOk hS h fun ns j => ?_
 have:=at_C he (rpChk_avoid h) ns j
 rwa [entP_gid] at this
theorem sgn_ok:KOK (sgnS or0X):=sgnS_ok GG_ok orOk
theorem no_ok:KOK noS:=noS_ok
theorem idea_ok:KOK ideaN:=orA (mul_ok orOk) (orA (add_ok orOk) (neg_ok orOk))
theorem stir_ok:KOK (runS or0X rStir):=okA no_ok (by simp [entsA]) kStir
theorem g_ok:KOK (runS or0X rG):=okA sgn_ok (by simp [entsA]) kG
theorem inv_run:KOK (runS or0X rInv):=okA idea_ok (by simp [entsA]) kInv
theorem load_ok:KOK (runS or0X rLoad):=okA no_ok (by simp [entsA]) kLoad
theorem turn1_ok {n:Nat} (h:n ∈ ideaTurns):KOK (runS or0X (rTurn n)):=by
 refine okA no_ok ?_ (List.all_eq_true.1 kTurn n h)
 unfold entsA
 exact List.mem_append_right _ (List.mem_map.2 ⟨n,h,rfl⟩)
theorem turns_ok:∀ (l:List Nat),(∀ n ∈ l,n ∈ ideaTurns) → KOK (turnS l)
 | [],_ => no_ok
 | n :: l,h => orA (turn1_ok (h n (by simp))) (turns_ok l fun m hm => h m (by simp [hm]))
theorem ideaS_ok:KOK ideaS:=orA idea_ok (orA inv_run (orA load_ok (turns_ok _ fun _ h => h)))
theorem q_ok:KOK qS:=orA (okA sgn_ok (by simp [entsA]) kQ0) (okA sgn_ok (by simp [entsA]) kQ1)
theorem hS_ok:KOK hS:=orA (fm_ok orOk) q_ok
theorem fold_ok:KOK (runS or0X rFold):=okA (fm_ok orOk) (by simp [entsA]) kFold
theorem h2_ok:KOK (runS or0X (rH 2)):=okB hS_ok (by simp [entsB]) kH2
theorem h3_ok:KOK (runS or0X (rH 3)):=okB hS_ok (by simp [entsB]) kH3
theorem h4_ok:KOK (runS or0X (rH 4)):=okB hS_ok (by simp [entsB]) kH4
theorem tw2_ok:KOK (twS 2):=orA (rol_ok orOk) (orA h2_ok fold_ok)
theorem tw3_ok:KOK (twS 3):=orA (rol_ok orOk) (orA h3_ok fold_ok)
theorem tw4_ok:KOK (twS 4):=orA (rol_ok orOk) (orA h4_ok fold_ok)
theorem sums_ok {n:Nat} (hS:KOK (twS n)) (hk:(List.range 16).all (fun r => rpChk or0X (twS n) 8 (rSums n r) gidsC) = true) (hm:∀ r,r < 16 → entP or0X (twS n) 8 (rSums n r) ∈ entsC):∀ r,r ≤ 16 → KOK (sumsS n r)
 | 0,_ => no_ok
 | r + 1,h => orA (okC hS (hm r (by omega)) (List.all_eq_true.1 hk r (List.mem_range.2 (by omega)))) (sums_ok hS hk hm r (by omega))
theorem inC2 (r:Nat) (h:r < 16):entP or0X (twS 2) 8 (rSums 2 r) ∈ entsC:=by
 unfold entsC
 exact List.mem_append_left _ (List.mem_append_left _ (List.mem_map.2 ⟨r,List.mem_range.2 h,rfl⟩))
theorem inC3 (r:Nat) (h:r < 16):entP or0X (twS 3) 8 (rSums 3 r) ∈ entsC:=by
 unfold entsC
 exact List.mem_append_left _ (List.mem_append_right _ (List.mem_map.2 ⟨r,List.mem_range.2 h,rfl⟩))
theorem inC4 (r:Nat) (h:r < 16):entP or0X (twS 4) 8 (rSums 4 r) ∈ entsC:=by
 unfold entsC
 exact List.mem_append_right _ (List.mem_map.2 ⟨r,List.mem_range.2 h,rfl⟩)
theorem twT2_ok:KOK (twT 2):=orA tw2_ok (sums_ok tw2_ok kS2 inC2 16 (Nat.le_refl _))
theorem twT3_ok:KOK (twT 3):=orA tw3_ok (sums_ok tw3_ok kS3 inC3 16 (Nat.le_refl _))
theorem twT4_ok:KOK (twT 4):=orA tw4_ok (sums_ok tw4_ok kS4 inC4 16 (Nat.le_refl _))
theorem GG_idea:IdeaG GG:=by
 refine ⟨fun x y h0 h1 h2 h3 j => GG_mul h0 h1 h2 h3 j,fun x y _ _ _ _ j => GG_add j,fun x _ _ j => GG_neg j,fun a h0 h1 => ?_⟩
 refine inv_ok GG_ok (fun x y h0 h1 h2 h3 j => GG_mul h0 h1 h2 h3 j) kPow (fun ns j => ?_) h0 h1
 have:=at_A (e:=entOf or0X ideaN 8 rInv) (by simp [entsA]) (rnChk_avoid kInv) ns j
 rwa [entOf_gid] at this
theorem ideaX_ok':RuleOK GG (orX ideaX wordX):=orX_ok (ideaX_ok GG_idea) wordX_ok
theorem rolX_ok':RuleOK GG (orX rolX wordX):=orX_ok (rolX_ok fun _ _ h0 h1 _ _ => GG_rol h0 h1 0) wordX_ok
theorem pmAt_in (x:List Int) (T:List Nat) (j:Nat):0 ≤ pmAt x T j ∧ pmAt x T j ≤ 255:=by
 unfold pmAt
 cases h:(pmOut x T)[j]? with
 | none => simp
 | some n => exact pmOut_bits.1 n (List.mem_of_getElem? h)
theorem GG_2400 (x:List Int) (j:Nat):GG 2400 x j = pmAt x tWide j:=GG_perm (by decide) (by simp [baseF]) (pmAt_in _ _ _).1 (pmAt_in _ _ _).2
theorem GG_2401 (x:List Int) (j:Nat):GG 2401 x j = pmAt x tMixed j:=GG_perm (by decide) (by simp [baseF]) (pmAt_in _ _ _).1 (pmAt_in _ _ _).2
theorem GG_2402 (x:List Int) (j:Nat):GG 2402 x j = pmAt x tFirst j:=GG_perm (by decide) (by simp [baseF]) (pmAt_in _ _ _).1 (pmAt_in _ _ _).2
theorem GG_2403 (x:List Int) (j:Nat):GG 2403 x j = pmAt x tInv j:=GG_perm (by decide) (by simp [baseF]) (pmAt_in _ _ _).1 (pmAt_in _ _ _).2
theorem GG_2404 (x:List Int) (j:Nat):GG 2404 x j = keysF x j:=GG_perm (by decide) (by simp [baseF]) (pmAt_in _ _ _).1 (pmAt_in _ _ _).2
theorem GG_95 (x:List Int) (j:Nat) (hx:x.length = 4) (hb:W32 x):GG 95 x j = at0 (growL x) j:=by
 have:0 ≤ at0 (growL x) j ∧ at0 (growL x) j ≤ 4294967295:=by
  unfold at0
  cases h:(growL x)[j]? with
  | none => simp
  | some n => exact (growL_ok hx hb).2 n (List.mem_of_getElem? h)
 exact GG_perm (by decide) (by simp [baseF]) this.1 this.2
theorem ds_ok:KOK dsT:=orA (rowS_ok GG_ok chk131) (orA (rowS_ok GG_ok chk134) (rowS_ok GG_ok chk106))
theorem fS_ok:KOK fS:=orA sgn_ok (orA (orA (permS_ok GG_ok orOk bit4 (by decide) (by decide) (by decide) fun x j _ _ => GG_2400 x j) (permS_ok GG_ok orOk bit4 (by decide) (by decide) (by decide) fun x j _ _ => GG_2401 x j)) ds_ok)
theorem f_ok:KOK (runS or0X rF):=okA fS_ok (by simp [entsA]) kF
theorem onceT_ok:KOK onceT:=orA (permS_ok GG_ok orOk bit8 (by decide) (by decide) (by decide) fun x j _ _ => GG_2402 x j) (orA (permS_ok GG_ok orOk bit8 (by decide) (by decide) (by decide) fun x j _ _ => GG_2403 x j) (orA f_ok ds_ok))
theorem once_ok:KOK (runS or0X rOnce):=okB onceT_ok (by simp [entsB]) kOnce
theorem desC_ok:KOK desC:=orA (keysS_ok GG_ok orOk fun x j _ _ _ => GG_2404 x j) (orA once_ok ds_ok)
theorem GG_once:OnceG GG:=by
 refine onceG_of GG_ok (orX_ok (permX_ok ⟨fun x j _ _ => GG_2402 x j,fun x j _ _ => GG_2403 x j⟩) (orX_ok wordX_ok (findX_ok _))) kOnceB fun ns j => ?_
 have:=at_B (e:=entOf or0X onceT 8 rOnce) (by simp [entsB]) (rnChk_avoid kOnce) ns j
 rwa [entOf_gid] at this
theorem onceX_ok':RuleOK GG (orX onceX wordX):=orX_ok (onceX_ok GG_once) wordX_ok
def rc5S:Known:=orS (growS or0X) (numS or0X nRol rolF)
theorem rc5_ok:KOK rc5S:=orA (growS_ok GG_ok orOk fun x j hx hb _ => GG_95 x j hx hb) (rol_ok orOk)
def IsCipher (t:Int) (L s:Nat):Prop:=∃ c sol rows E D gE gD lE lD,CipherOK GG t L s c sol rows E D gE gD lE lD
end
end Go.Proofs.YthajgdmcjfmjoaaGreatDoor.Rel
