/- CdtForest: for every input the law's Go function answers true,and its arguments read behind the call as before. No conditions. -/
import Derived.Test.YtcdfofeolgbnbaaZ32
import Derived.Test.YtcdfofeolgbnbaaZ33
import Derived.Test.YtcdfofeolgbnbaaZ13
import Derived.Test.YtcdfofeolgbnbaaZ34
/- Law 11: Next and Last; the chapter's example,list by list. -/
namespace Go.Proofs.Ytcdfofeolgbnbaa
open Go.D
set_option linter.all false
set_option maxRecDepth 100000
set_option maxHeartbeats 4000000

section
variable {m r : M} {L : List Int}
theorem W11.nx (W : W11 m L) (x : Int) : m.nxV x = (under m.D L x).headD 0:=by
 unfold M.nxV
 by_cases hf : m.fE x = 0
 ·rw [if_pos hf]
  by_cases hx : x ∈ L
  ·obtain ⟨L1,L2,e⟩:=List.append_of_mem hx
   have hn:=W.inv.nd
   have hc:=W.inv.ch
   have hfl : ∀ y,y ∈ L2 → m.fE y = 0 ∧ y ≠ 0:=fun y hy => by
    have : y ∈ L:=by rw [e]; exact List.mem_append_right _ (List.mem_cons_of_mem _ hy)
    exact ⟨W.inv.full y this,W.n0 this⟩
   rw [e] at hn hc
   have hx1 : x ∉ L1:=fun h => (List.nodup_append.1 hn).2.2 x h x List.mem_cons_self rfl
   have hu : under m.D L x = tw m.D (m.D x) L2:=by rw [e]; exact under_split hx1
   obtain ⟨_,_,h2,_⟩:=chain_app.1 hc
   rw [hu,h2]
   cases L2 with
   | nil => rfl
   | cons y L2 =>
    obtain ⟨q1,q2⟩:=hfl y List.mem_cons_self
    rw [List.headD_cons,if_neg q2,if_pos q1,tw_cons]
    by_cases c : m.D x < m.D y
    ·rw [if_pos c,if_neg (by unfold M.D at c; omega)]; rfl
    ·rw [if_neg c,if_pos (by unfold M.D at c; omega)]; rfl
  ·have hn : (m.gV x).next = 0:=((W.inv.out x (W.P (fE_zero.1 hf).1)).2 hx).2.1
   rw [hn,if_pos rfl,under_none hx]; rfl
 ·have hx : x ∉ L:=fun h => hf (W.inv.full x h)
  rw [if_neg hf,under_none hx]; rfl
end
structure Rep11 (m : M) (T : List (Int × Int)) (U : List Int) : Prop where
 w : W11 m (T.map (·.1))
 d : ∀ y,y ∈ T → m.D y.1 = y.2
 u : ∀ x,x ∈ U → m.fE x = 0 ∧ x ∉ T.map (·.1)
section
variable {m : M} {T T' : List (Int × Int)} {U U' : List Int}
theorem Rep11.of_w (R : Rep11 m T U) {m' : M} (e : m'.w = m.w) : Rep11 m' T U :=
 ⟨R.w.of_w e,fun y hy => by rw [D_w e]; exact R.d y hy,fun x hx => by rw [fE_w e]; exact R.u x hx⟩
theorem Rep11.ins (R : Rep11 m T U) {p a dp : Int} (ha : a ∈ U) (hp : p = 0 ∨ ((p,dp) ∈ T ∧ dp ≠ 65535)) (hT : T'.map (·.1) = insLL p a (T.map (·.1))) (hd : ∀ y,y ∈ T' → (y.1 = a ∧ y.2 = if p = 0 then 0 else dp + 1) ∨ (y.1 ≠ a ∧ y ∈ T)) (hU : ∀ x,x ∈ U' → x ∈ U ∧ x ≠ a) :
  ∃ m',m.ins p a = (0,m') ∧ Rep11 m' T' U':=by
 obtain ⟨hf,hu⟩:=R.u a ha
 have W:=R.w
 have hp' : p = 0 ∨ (p ∈ T.map (·.1) ∧ (m.gV p).depth ≠ 65535):=hp.imp id fun h => ⟨List.mem_map.2 ⟨(p,dp),h.1,rfl⟩,by have:=R.d _ h.1; unfold M.D at this; rw [this]; exact h.2⟩
 obtain ⟨k1,k2⟩:=W.inv.ins_to (W.P (fE_zero.1 hf).1) hf hu hp'
 have S : St11 m (T.map (·.1)) ⟨1,a,p,0⟩ 0 (m.ins p a).2 (insLL p a (T.map (·.1))):=.ins rfl hf hu hp' k2
 have W':=W.step S
 refine ⟨(m.ins p a).2,Prod.ext k1 rfl,by rw [hT]; exact W',fun y hy => ?_,fun x hx => ?_⟩
 ·have hy0 : y.1 ≠ 0:=by
   have : y.1 ∈ insLL p a (T.map (·.1)):=by rw [← hT]; exact List.mem_map.2 ⟨y,hy,rfl⟩
   exact W'.n0 this
  rw [ins_D k2 hy0]
  rcases hd y hy with ⟨e1,e2⟩ | ⟨e1,e2⟩
  ·rw [if_pos e1,e2]
   by_cases c : p = 0
   ·rw [if_pos c,if_pos c]
   ·rw [if_neg c,if_neg c]
    have:=R.d _ (hp.resolve_left c).1
    rw [this]
  ·rw [if_neg e1]; exact R.d y e2
 ·obtain ⟨h1,h2⟩:=hU x hx
  obtain ⟨g1,g2⟩:=R.u x h1
  obtain ⟨q1,q2⟩:=fE_zero.1 g1
  refine ⟨k2.full q1 ?_, ?_⟩
  ·unfold M.insV
   rw [jnV_cap,if_neg h2]; exact q2
  ·rw [hT]
   intro h
   unfold insLL at h
   split at h
   ·rcases List.mem_cons.1 h with h | h
    ·exact h2 h
    ·exact g2 h
   ·rcases mem_insL h with h | h
    ·exact h2 h
    ·exact g2 h
theorem Rep11.un (R : Rep11 m T U) {D : Int → Int} (hD : ∀ y,y ∈ T → D y.1 = y.2) (x : Int) : under m.D (T.map (·.1)) x = under D (T.map (·.1)) x :=
 under_congr fun y hy => by
  obtain ⟨z,hz,rfl⟩:=List.mem_map.1 hy
  rw [R.d z hz,hD z hz]
end
def tabD (T : List (Int × Int)) (x : Int) : Int:=(T.lookup x).getD 0
def aT4 : List (Int × Int):=[(1024,0),(1036,1),(1028,1),(1032,2)]
def aT5 : List (Int × Int):=[(1024,0),(1036,1),(1032,1)]
theorem aw_ins {m : M} (R : Rep11 m [] [1024,1028,1032,1036]) : ∃ m1 m2 m3 m4,m.ins 0 1024 = (0,m1) ∧ m1.ins 1024 1028 = (0,m2) ∧ m2.ins 1028 1032 = (0,m3) ∧ m3.ins 1024 1036 = (0,m4) ∧ Rep11 m4 aT4 []:=by
 obtain ⟨m1,e1,R1⟩:=R.ins (T':=[(1024,0)]) (U':=[1028,1032,1036]) (p:=0) (a:=1024) (dp:=0) (by decide) (.inl rfl) (by decide) (by decide) (by decide)
 obtain ⟨m2,e2,R2⟩:=R1.ins (T':=[(1024,0),(1028,1)]) (U':=[1032,1036]) (p:=1024) (a:=1028) (dp:=0) (by decide) (.inr (by decide)) (by decide) (by decide) (by decide)
 obtain ⟨m3,e3,R3⟩:=R2.ins (T':=[(1024,0),(1028,1),(1032,2)]) (U':=[1036]) (p:=1028) (a:=1032) (dp:=1) (by decide) (.inr (by decide)) (by decide) (by decide) (by decide)
 obtain ⟨m4,e4,R4⟩:=R3.ins (T':=aT4) (U':=[]) (p:=1024) (a:=1036) (dp:=0) (by decide) (.inr (by decide)) (by decide) (by decide) (by decide)
 exact ⟨m1,m2,m3,m4,e1,e2,e3,e4,R4⟩
theorem aw_ask {m : M} (R : Rep11 m aT4 []) : m.lis.1 = some [1024,1036,1028,1032] ∧ m.lis.2.w = m.w ∧ m.nxV 1024 = 1036 ∧ (m.dsL 1024).getLastD 0 = 1032 ∧ decide (1032 ∈ m.dsL 1024) = true ∧ decide (1028 ∈ m.dsL 1036) = false:=by
 have hu:=R.un (D:=tabD aT4) (by decide)
 obtain ⟨l1,l2,_⟩:=R.w.li
 refine ⟨l1,l2, ?_, ?_, ?_, ?_⟩
 ·rw [R.w.nx,hu]; decide
 ·rw [(R.w.ds _).1,hu]; decide
 ·rw [(R.w.ds _).1,hu]; decide
 ·rw [(R.w.ds _).1,hu]; decide
theorem aw_rem {m : M} (R : Rep11 m aT4 []) : ∃ m',m.rem 1028 = (0,m') ∧ Rep11 m' aT5 []:=by
 have W:=R.w
 have e : aT4.map (·.1) = [1024,1036] ++ 1028 :: [1032]:=rfl
 obtain ⟨⟨k1,k2⟩,_⟩:=W.inv.rem_to e
 have S : St11 m (aT4.map (·.1)) ⟨4,1028,0,0⟩ 0 (m.rem 1028).2 ([1024,1036] ++ [1032]):=.rem rfl e k2
 have W':=W.step S
 have hds : deep m.gV (m.gV 1028).depth [1032] = [1032]:=by
  have h1 : m.D 1028 = 1:=R.d (1028,1) (by decide)
  have h2 : m.D 1032 = 2:=R.d (1032,2) (by decide)
  unfold M.D at h1 h2
  unfold deep
  rw [List.takeWhile_cons,if_pos (by rw [h1,h2]; decide)]; rfl
 rw [hds] at k2
 refine ⟨(m.rem 1028).2,Prod.ext k1 rfl,W',fun y hy => ?_,fun x h => by cases h⟩
 have hy2 : y = (1024,0) ∨ y = (1036,1) ∨ y = (1032,1):=by
  simpa [aT5] using hy
 rcases hy2 with rfl | rfl | rfl
 ·rw [rem_D k2 (by decide) (by decide),if_neg (by decide)]; exact R.d (1024,0) (by decide)
 ·rw [rem_D k2 (by decide) (by decide),if_neg (by decide)]; exact R.d (1036,1) (by decide)
 ·rw [rem_D k2 (by decide) (by decide),if_pos (by decide)]
  have:=R.d (1032,2) (by decide)
  simp only at this ⊢
  rw [this]; rfl
theorem aw_ds {m : M} (R : Rep11 m aT5 []) : m.dsL 1024 = [1036,1032] ∧ m.dsE 1024 = 0 ∧ (m.dsO 1024).2.w = m.w:=by
 have hu:=R.un (D:=tabD aT5) (by decide)
 obtain ⟨d1,d2,_,_,d5,_⟩:=R.w.ds 1024
 refine ⟨?_, ?_,d2⟩
 ·rw [d1,hu]; decide
 ·rw [d5]; exact R.w.inv.full 1024 (by decide)
theorem aw_no {m : M} (R : Rep11 m aT5 []) : (m.ins 0 1024).1 = 120:=by
 have hf:=R.w.inv.full 1024 (by decide)
 have hli:=R.w.inv.listed (x:=1024) (by decide)
 unfold M.ins
 rw [if_pos hf,gX_liB,if_pos hli]
theorem aw_lay {m r : M} {i : Nat} (hi : i < 4) (W : W11 m []) (hw : r.w = m.w) (hf : ∀ j : Nat,j < i → m.fE (1024 + 4 * (j : Int)) = 0) (hz : ∀ x,P11 x → (∀ j : Nat,j < i → x ≠ 1024 + 4 * (j : Int)) → m.gE x = 0 ∧ m.gV x = slotZ) :
  ∃ m' r',laysX m r (1024 + 4 * (i : Int)) i = (m',r') ∧ laysV m r (1024 + 4 * (i : Int)) i = true ∧ r'.w = m'.w ∧ W11 m' [] ∧ (∀ j : Nat,j < i + 1 → m'.fE (1024 + 4 * (j : Int)) = 0) ∧ (∀ x,P11 x → (∀ j : Nat,j < i + 1 → x ≠ 1024 + 4 * (j : Int)) → m'.gE x = 0 ∧ m'.gV x = slotZ):=by
 have hP : P11 (1024 + 4 * (i : Int)):=⟨by omega,by rw [Int.tmod_eq_emod_of_nonneg (by omega)]; omega,by omega⟩
 obtain ⟨z1,z2⟩:=hz _ hP fun j hj => by omega
 obtain ⟨h1,h2,h3,h4⟩:=W.lays hw (1024 + 4 * (i : Int)) i
 have heB : m.eB (1024 + 4 * (i : Int)) = true:=(W.inv.free z1 z2).2.2
 have T : m.To (laysX m r (1024 + 4 * (i : Int)) i).1 (fun x => if x = 1024 + 4 * (i : Int) then hndS i else m.gV x) m.fst:=by
  unfold laysX
  rw [gE_w hw,eB_w hw,if_pos ⟨z1,heB⟩]
  exact (M.To.refl m).pX z1 (hnd_R _).1
 obtain ⟨⟨m',r'⟩,e⟩ : ∃ z,laysX m r (1024 + 4 * (i : Int)) i = z:=⟨_,rfl⟩
 rw [e] at h2 h3 T
 simp only at h2 h3 T
 refine ⟨m',r',e,h1,h2,h3, ?_⟩
 refine ⟨fun j hj => ?_,fun x hx hj => ?_⟩
 ·by_cases c : j = i
  ·subst c
   exact T.full z1 (by rw [if_pos rfl,(hnd_R _).2]; decide)
  ·have hf':=hf j (by omega)
   obtain ⟨q1,q2⟩:=fE_zero.1 hf'
   refine T.full q1 ?_
   rw [if_neg (by omega)]; exact q2
 ·obtain ⟨q1,q2⟩:=hz x hx fun j hj2 => hj j (by omega)
  have x0 : x ≠ 0:=by have:=hx.1; omega
  refine ⟨(T.E x).trans q1, ?_⟩
  rw [T.V x x0,if_neg (hj i (by omega))]; exact q2
end Go.Proofs.Ytcdfofeolgbnbaa

/- Law 11: awake. -/
namespace Go.Proofs.Ytcdfofeolgbnbaa
open Go.D
open Nat (reduceAdd reducePow reduceMul reduceSub reduceLeDiff reduceLT reduceEqDiff)
open Int (reduceNeg reduceLE reduceEq reduceNe reduceToNat)
open Go.D renaming istep → zy,pickR → zx,bin1R → zw,un1R → zv,eqS → zu,eq1 → zq,cmpS → zp,cmp1 → zj,isNil → zk,shows → zg,result → zZ,q_cond_t → zV,q_cond_f → zU
open List renaming set → zY,replicate → zX
open Option renaming map → zW
open Nat renaming reduceAdd → zQ,reducePow → yz,reduceMul → yy,reduceSub → yx,reduceLeDiff → yv,reduceLT → yu,reduceEqDiff → yq
open Int renaming reduceNeg → yp,reduceLE → yj,reduceEq → yk,reduceNe → yg,reduceToNat → yZ,reducePow → yY,reduceLT → yX,reduceAdd → yW,reduceSub → yV,reduceMul → yU,reduceBEq → yQ,reduceBNe → xz
set_option linter.all false
set_option maxRecDepth 100000
set_option maxHeartbeats 2000000

def awake11G : List V → List Blk → Res
 | [],h => .ok (.s (.b true)) [] h
 | _,_ => .bad
noncomputable def TAk : Tab:=addT 31 madeG (addT 23 laysG (addT 17 insG (addT 12 lisAG (addT 14 nextG (addT 15 lastG (addT 16 belG (addT 20 remG (addT 13 dscA (addT 30 intsG (noT))))))))))
theorem TAk_snd : TAk.Snd Try.prog:=addT_snd ok31 made_snd (addT_snd ok23 lays_snd (addT_snd ok17 ins_snd (addT_snd ok12 lisA_snd (addT_snd ok14 next_snd (addT_snd ok15 last_snd (addT_snd ok16 bel_snd (addT_snd ok20 rem_snd (addT_snd ok13 dscA_snd (addT_snd ok30 ints_snd ((noT_snd _)))))))))))
theorem awake11_snd : Snd Try.prog 8 (FSpec.of awake11G):=(fwp_sound (Tab.snd_Γ TAk_snd) mixed Try.func8 dc8).weaken fun args h K hc hS => by
 refine fwp_runW (Tab.ok_Γ _) 400 ?_
 have hS : (awake11G args h).spec K:=hS
 unfold awake11G at hS
 split at hS
 ·simp only [spec_ok] at hS
  have hcc : ∀ m r X,(bH h m r X)[h.length + 4]? = _:=fun m r X => bH_c h m r X
  simp (maxSteps:=9999999) only [EV0,zy,zx,zw,zv,zu,zq,zp,zj,zk,leT,zg,rvC,zZ,zY,zX,zW,↓zV,↓zU,reduceCtorEq,zQ,yz,yY,yy,yx,yv,yu,yq,yp,yX,yj,yk,yg,yW,yV,yU,yZ,yQ,xz,df8,TAk,madeG]
  refine loop_rule (α:=Nat × M × M) [0,2,3,21,22,23,24,25,26,27,28,29,30,31,32] (fun z => [(2, .s (.i .i64 (z.1 : Int)))]) (fun _ => []) (fun z => bH h z.2.1 z.2.2 []) (fun z => z.1 ≤ 4 ∧ z.2.2.w = z.2.1.w ∧ W11 z.2.1 [] ∧ (∀ j : Nat,j < z.1 → z.2.1.fE (1024 + 4 * (j : Int)) = 0) ∧ (∀ x,P11 x → (∀ j : Nat,j < z.1 → x ≠ 1024 + 4 * (j : Int)) → z.2.1.gE x = 0 ∧ z.2.1.gV x = slotZ)) (fun z => 4 - z.1) (0,z11,z11) ⟨by omega,rfl,W11.zero,fun j hj => absurd hj (Nat.not_lt_zero _),fun x hx _ => z11_slot hx⟩ ?_ ?_
  ·refine Wk.same rfl rfl ?_
   simp (maxSteps:=9999999) only [EV0,zy,zx,zw,zv,zu,zq,zp,zj,zk,leT,zg,rvC,zZ,zY,zX,zW,↓zV,↓zU,reduceCtorEq,zQ,yz,yY,yy,yx,yv,yu,yq,yp,yX,yj,yk,yg,yW,yV,yU,yZ,yQ,xz,Int.natCast_zero]
  ·rintro X ⟨i,m,r⟩ ⟨hi,hw,W,hf,hz⟩ IH
   simp only at hi hw W hf hz ⊢
   rcases Nat.lt_or_ge i 4 with h1 | h1
   ·obtain ⟨m',r',q1,q2,q3,q4,q5,q6⟩:=aw_lay h1 W hw hf hz
    have d1 : (i : Int) < 4:=by omega
    have d2 : IntKind.i64.wrap ((i : Int) + 1) = ((i + 1 : Nat) : Int):=by rw [wrap64] <;> omega
    have d3 : IntKind.i64.wrap (4 * (i : Int)) = 4 * (i : Int):=by rw [wrap64] <;> omega
    have d4 : IntKind.i64.wrap (1024 + 4 * (i : Int)) = 1024 + 4 * (i : Int):=by rw [wrap64] <;> omega
    have d5 : (-9223372036854775808 ≤ (i : Int) ∧ (i : Int) < 9223372036854775808) = True:=eq_true (by omega)
    have d6 : (-9223372036854775808 : Int) ≤ (i : Int):=by omega
    have d7 : (i : Int) < 9223372036854775808:=by omega
    refine run_sound (Tab.ok_Γ _) 300 _ _ _ _ ?_
    simp (maxSteps:=9999999) only [EV0,zy,zx,zw,zv,zu,zq,zp,zj,zk,leT,zg,rvC,zZ,zY,zX,zW,↓zV,↓zU,reduceCtorEq,zQ,yz,yY,yy,yx,yv,yu,yq,yp,yX,yj,yk,yg,yW,yV,yU,yZ,yQ,xz,TAk,laysG,laysM,bH_fb,q1,q2,d1,d2,d3,d4,d5,d6,d7]
    refine IH (i + 1,m',r') _ (by simp only; omega) ⟨by simp only; omega,q3,q4,q5,q6⟩ ?_
    exact Wk.same rfl rfl (by simp (maxSteps:=9999999) only [EV0,zy,zx,zw,zv,zu,zq,zp,zj,zk,leT,zg,rvC,zZ,zY,zX,zW,↓zV,↓zU,reduceCtorEq,zQ,yz,yY,yy,yx,yv,yu,yq,yp,yX,yj,yk,yg,yW,yV,yU,yZ,yQ,xz])
   ·have e0 : i = 4:=by omega
    subst e0
    clear IH
    have R0 : Rep11 m [] [1024,1028,1032,1036]:=⟨W,fun y hy => (by cases hy),fun x hx => ⟨by
     simp only [List.mem_cons,List.not_mem_nil,or_false] at hx
     rcases hx with rfl | rfl | rfl | rfl
     ·exact hf 0 (by omega)
     ·exact hf 1 (by omega)
     ·exact hf 2 (by omega)
     ·exact hf 3 (by omega),by simp⟩⟩
    obtain ⟨m1,m2,m3,m4,f1,f2,f3,f4,R4⟩:=aw_ins R0
    obtain ⟨a1,a2,_⟩:=aw_ask R4
    obtain ⟨_,_,b1,_⟩:=aw_ask (R4.of_w a2)
    obtain ⟨o5,ho5⟩ : ∃ o,m4.lis.2 = o:=⟨_,rfl⟩
    rw [ho5] at a2 b1
    have w6 : (o5.nxX 1024).w = m4.w:=(nxX_w _ _).trans a2
    obtain ⟨o6,ho6⟩ : ∃ o,o5.nxX 1024 = o:=⟨_,rfl⟩
    rw [ho6] at w6
    obtain ⟨_,_,_,b2,_⟩:=aw_ask (R4.of_w w6)
    have w7 : (o6.dsO 1024).2.w = m4.w:=((R4.of_w w6).w.ds 1024).2.1.trans w6
    obtain ⟨o7,ho7⟩ : ∃ o,(o6.dsO 1024).2 = o:=⟨_,rfl⟩
    rw [ho7] at w7
    obtain ⟨_,_,_,_,b3,_⟩:=aw_ask (R4.of_w w7)
    have w8 : (o7.dsO 1024).2.w = m4.w:=((R4.of_w w7).w.ds 1024).2.1.trans w7
    obtain ⟨o8,ho8⟩ : ∃ o,(o7.dsO 1024).2 = o:=⟨_,rfl⟩
    rw [ho8] at w8
    obtain ⟨_,_,_,_,_,b4⟩:=aw_ask (R4.of_w w8)
    have w9 : (o8.dsO 1036).2.w = m4.w:=((R4.of_w w8).w.ds 1036).2.1.trans w8
    obtain ⟨o9,ho9⟩ : ∃ o,(o8.dsO 1036).2 = o:=⟨_,rfl⟩
    rw [ho9] at w9
    obtain ⟨oA,f5,R5⟩:=aw_rem (R4.of_w w9)
    obtain ⟨g1,g2,g3⟩:=aw_ds R5
    obtain ⟨oB,hoB⟩ : ∃ o,(oA.dsO 1024).2 = o:=⟨_,rfl⟩
    rw [hoB] at g3
    have f6:=aw_no (R5.of_w g3)
    obtain ⟨oC,hoC⟩ : ∃ o,(oB.ins 0 1024).2 = o:=⟨_,rfl⟩
    have i1 : ((4 : Nat) : Int) < 4 ↔ False:=by decide
    obtain ⟨B1,hB1⟩ : ∃ B1 : Nat → Blk,B1 = fun c => ⟨.rw,intsB [1024,1036,1028,1032],c⟩:=⟨_,rfl⟩
    obtain ⟨B2,hB2⟩ : ∃ B2 : Nat → Blk,B2 = fun c => ⟨.rw,intsB [1036,1032],c⟩:=⟨_,rfl⟩
    have hb1 : ∀ c : Nat,(⟨.rw,intsB [1024,1036,1028,1032],c⟩ : Blk) = B1 c:=fun c => by rw [hB1]
    have hb2 : ∀ c : Nat,(⟨.rw,intsB [1036,1032],c⟩ : Blk) = B2 c:=fun c => by rw [hB2]
    have hA1 : ∀ (c : Nat) (Y : List Blk),arrOf In.c (bH h oC r (B1 c :: Y)) (.sl (.g (h.length + 5)) 0 4 c) = some [1024,1036,1028,1032]:=fun c Y => intsOf_at (l:=[1024,1036,1028,1032]) (room:=c) (by rw [hB1]; exact bH_x _ _ _ _ _)
    have hA2 : ∀ (X1 X2 : Blk) (Y : List Blk),arrOf In.c (bH h oC r (X1 :: X2 :: ⟨.rw,[.i .i64 1024, .i .i64 1036, .i .i64 1028, .i .i64 1032],4⟩ :: Y)) (.sl (.g (h.length + 5 + 2)) 0 4 4) = some [1024,1036,1028,1032]:=fun X1 X2 Y => intsOf_at (l:=[1024,1036,1028,1032]) (room:=4) (bH_y h oC r [X1,X2] _ Y)
    have hA3 : ∀ (X1 : Blk) (c : Nat) (Y : List Blk),arrOf In.c (bH h oC r (X1 :: B2 c :: Y)) (.sl (.g (h.length + 5 + 1)) 0 2 c) = some [1036,1032]:=fun X1 c Y => intsOf_at (l:=[1036,1032]) (room:=c) (by rw [hB2]; exact bH_y h oC r [X1] _ Y)
    have hA4 : ∀ (X1 X2 X3 : Blk) (Y : List Blk),arrOf In.c (bH h oC r (X1 :: X2 :: X3 :: ⟨.rw,[.i .i64 1036, .i .i64 1032],2⟩ :: Y)) (.sl (.g (h.length + 5 + 3)) 0 2 2) = some [1036,1032]:=fun X1 X2 X3 Y => intsOf_at (l:=[1036,1032]) (room:=2) (bH_y h oC r [X1,X2,X3] _ Y)
    have ht1 : ∀ (X1 X2 : Blk) (Y : List Blk),(bH h oC r (X1 :: X2 :: Y)).take (h.length + 5 + 2) = bH h oC r [X1,X2]:=fun X1 X2 Y => bH_take h oC r [X1,X2] Y
    have ht2 : ∀ (X1 X2 : Blk) (Y : List Blk),(bH h oC r (X1 :: X2 :: Y)).drop (h.length + 5 + 2) = Y:=fun X1 X2 Y => bH_drop h oC r [X1,X2] Y
    have hcl : ∀ c1 c2 : Nat,clean (h.length + 5 + 2) (bH h oC r [B1 c1,B2 c2]) = true:=fun c1 c2 => by
     have:=bH_clean hc oC r (X:=[B1 c1,B2 c2]) (by rw [hB1,hB2]; rfl)
     rwa [bH_len] at this
    have hn1 : h.length ≤ h.length + 5 + 2:=by omega
    refine run_sound (Tab.ok_Γ _) 400 _ _ _ _ ?_
    simp (maxSteps:=9999999) only [EV0,zy,zx,zw,zv,zu,zq,zp,zj,zk,leT,zg,rvC,zZ,zY,zX,zW,↓zV,↓zU,reduceCtorEq,zQ,yz,yY,yy,yx,yv,yu,yq,yp,yX,yj,yk,yg,yW,yV,yU,yZ,yQ,xz,TAk,bH_fm,bH_app,bH_len,hcc,insG,insM,lisAG,lisAM,lisA,nextG,nextM,lastG,lastM,belG,belM,remG,remM,dscA,dscAM,f1,f2,f3,f4,a1,ho5,erO,b1,ho6,b2,ho7,b3,ho8,b4,ho9,f5,g1,g2,hoB,f6,hoC,slA,bkA,hb1,hb2,i1,Option.getD_some,put,fillP,intsG,hA1,hA2,hA3,hA4,ht1,ht2,hcl,R.lend,R.unlend,S_ren,C.ren,V.ren,Blk.ren,Nat.add_sub_cancel_left,Nat.not_lt,Nat.le_add_right,Nat.add_lt_add_iff_left]
    intro c1 _ c2 _
    refine fin_of (v:=.s (.b true)) (ls:=[]) (h:=h) rfl ?_ ?_
    ·exact drop_b (by simp (maxSteps:=9999999) only [EV0,zy,zx,zw,zv,zu,zq,zp,zj,zk,leT,zg,rvC,zZ,zY,zX,zW,↓zV,↓zU,reduceCtorEq,zQ,yz,yY,yy,yx,yv,yu,yq,yp,yX,yj,yk,yg,yW,yV,yU,yZ,yQ,xz]) hc (Nat.le_refl _)
    ·simp (maxSteps:=9999999) only [EV0,zy,zx,zw,zv,zu,zq,zp,zj,zk,leT,zg,rvC,zZ,zY,zX,zW,↓zV,↓zU,reduceCtorEq,zQ,yz,yY,yy,yx,yv,yu,yq,yp,yX,yj,yk,yg,yW,yV,yU,yZ,yQ,xz]
     exact hS
 ·exact hS.elim

theorem dep_at {D : Int → Int} : ∀ {A : List Int} {d : Int} (i : Nat) (x : Int),dep D d (A) → A[i]? = some x → D x ≤ (if i = 0 then d else D (nth 0 A (i - 1))) + 1
 | [],_,i,x,_,h => by simp at h
 | y :: A,d,0,x,⟨h1,_⟩,h => by
  simp only [List.getElem?_cons_zero,Option.some.injEq] at h
  subst h; exact h1
 | y :: A,d,1,x,⟨_,h2⟩,h => by
  simp only [List.getElem?_cons_succ] at h
  have:=dep_at 0 x h2 h
  exact this
 | y :: A,d,i + 2,x,⟨_,h2⟩,h => by
  simp only [List.getElem?_cons_succ] at h
  have:=dep_at (i + 1) x h2 h
  rw [if_neg (by omega)] at this ⊢
  exact this
def M.nn (m : M) (n : Int) : M:=⟨m.w,n,m.u,m.l⟩
def anyN (f : M → Res) (m : M) : Res:=.all 0 fun a => .all 0 fun b => f (m.nn ((a : Int) - (b : Int)))
theorem anyN_spec {f : M → Res} {m : M} {K : V → List Blk → Prop} (h : (anyN f m).spec K) {m' : M} (e : m'.w = m.w) : (f m').spec K:=by
 have e2 : m' = m.nn (((m'.n).toNat : Int) - ((-m'.n).toNat : Int)):=by
  refine M.ext' e ?_
  simp only [M.nn]
  omega
 rw [e2]
 exact h _ (Nat.zero_le _) _ (Nat.zero_le _)
theorem slA_pos {n c : Nat} {l : List Int} (h : 0 < l.length) : slA n l c = .sl (.g n) 0 l.length c:=by
 cases l with
 | nil => simp at h
 | cons x l => rfl
theorem bkA_pos {c : Nat} {l : List Int} (h : 0 < l.length) : bkA l c = [⟨.rw,intsB l,c⟩]:=by
 cases l with
 | nil => simp at h
 | cons x l => rfl
noncomputable def forestM (b : Nat) (m : M) (st : M → List Blk) : List V → Res
 | [] => .ob (∃ L,W11 m L) (anyN (fun m' => .ok (.s (.b true)) [] (st m')) m)
 | _ => .bad
noncomputable def forestG:=memF forestM
noncomputable def TFo : Tab:=addT 49 rlisAG (addT 50 get2G (addT 51 containsG (noT)))
theorem TFo_snd : TFo.Snd Try.prog:=addT_snd ok49 rlisA_snd (addT_snd ok50 rget2_snd (addT_snd ok51 has_snd ((noT_snd _))))
theorem forest_snd : Snd Try.prog 22 (FSpec.of forestG):=(fwp_sound (Tab.snd_Γ TFo_snd) mixed Try.func22 dc22).weaken fun args h K hc hS => by
 refine fwp_runW (Tab.ok_Γ _) 400 ?_
 obtain ⟨a,b,m,rest,rfl,H,hS1⟩:=memF_spec (f:=forestM) hS
 clear hS
 have hS:=hS1
 clear hS1
 unfold forestM at hS
 split at hS
 ·obtain ⟨⟨L,W⟩,hS⟩:=hS
  have hK : ∀ m',m'.w = m.w → K (.s (.b true)) (setM h a b m'):=fun m' e => anyN_spec hS e
  clear hS
  obtain ⟨_,_,l3,l4⟩:=W.li
  obtain ⟨m1,hm1⟩ : ∃ m1,m.rlis.2 = m1:=⟨_,rfl⟩
  rw [hm1] at l4
  have hln:=W.inv.llen
  rw [W.len] at hln
  have hll : L.length ≤ 8796093022208:=by omega
  have hlm : ∀ m2,(setM h a b m2).length = h.length:=fun _ => setM_len
  simp (maxSteps:=9999999) only [EV0,zy,zx,zw,zv,zu,zq,zp,zj,zk,leT,zg,rvC,zZ,zY,zX,zW,↓zV,↓zU,reduceCtorEq,zQ,yz,yY,yy,yx,yv,yu,yq,yp,yX,yj,yk,yg,yW,yV,yU,yZ,yQ,xz,df22,TFo,rlisAG,rlisAM,lisA,memF_eq H,l3,hm1,erO,Option.getD_some,slA_known,slA_noL,slA_Cknown,slA_below,↓slA_len,hlm]
  intro c hcl
  have hmA : ∀ (f : Nat → M → (M → List Blk) → List V → Res) (m' : M) (rest : List V),memF f (.s (.p (.g a) 0) :: rest) (setM h a b m' ++ bkA L c) = f b m' (fun m => setM h a b m ++ bkA L c) rest:=fun f m' rest => memF_app H
  have hAr : ∀ m',arrOf In.c (setM h a b m' ++ bkA L c) (slA h.length L c) = some L:=fun m' => by
   have:=slA_is0 (setM h a b m') L c
   rw [hlm] at this
   exact arrOf_eq this
  refine loop_rule (α:=Nat × Int × Int × M) [2,5,6,7,8,9,22,23,24,25,26,27,28,29,30,31,32,33,34,35,36,37,38,39,40,41,42,43,44,45,46,47,48,49,50,51,52,53,54,55,56,57,58,59,60,61,62,63,64,65,66,67,68,69,70,71,72,73,74,75,76,77,78,79,80,81,82,83,84,85,86,87,88,89,90,91] (fun z => [(5, .s (.i .i64 z.2.1)),(6, .s (.i .i64 z.2.2.1)),(7, .s (.i .i64 (z.1 : Int)))]) (fun _ => []) (fun z => setM h a b z.2.2.2 ++ bkA L c) (fun z => z.1 ≤ L.length ∧ z.2.1 = (if z.1 = 0 then 0 else nth 0 L (z.1 - 1)) ∧ z.2.2.1 = (if z.1 = 0 then -1 else m.D (nth 0 L (z.1 - 1))) ∧ z.2.2.2.w = m.w) (fun z => L.length - z.1) (0,0, -1,m1) ⟨Nat.zero_le _,rfl,rfl,l4⟩ ?_ ?_
  ·refine Wk.same rfl rfl ?_
   simp (maxSteps:=9999999) only [EV0,zy,zx,zw,zv,zu,zq,zp,zj,zk,leT,zg,rvC,zZ,zY,zX,zW,↓zV,↓zU,reduceCtorEq,zQ,yz,yY,yy,yx,yv,yu,yq,yp,yX,yj,yk,yg,yW,yV,yU,yZ,yQ,xz,Int.natCast_zero]
  ·rintro X ⟨i,bf,dp,m'⟩ ⟨hi,hbf,hdp,hw⟩ IH
   simp only at hi hbf hdp hw ⊢
   rcases Nat.lt_or_ge i L.length with h1 | h1
   ·obtain ⟨d1,d2,d3,d4⟩:=idx h1 (by omega)
    have h0 : 0 < L.length:=by omega
    obtain ⟨x,hx⟩ : ∃ x,nth 0 L i = x:=⟨_,rfl⟩
    have hxi : L[i]? = some x:=by rw [← hx]; exact nth_get h1
    have hxL : x ∈ L:=List.mem_of_getElem? hxi
    obtain ⟨k1,k2⟩:=chain_at W.inv.ch i x hxi
    have k3:=dep_at i x W.dep hxi
    have k4:=W.D0 x
    have hgE : m'.gE x = 0:=by rw [gE_w hw]; exact (W.inv.gE hxL).1
    have hDlt:=(gV_links m x).2.2.2
    obtain ⟨s,hs⟩ : ∃ s,m.gV x = s:=⟨_,rfl⟩
    have hgV : m'.gV x = s:=by rw [gV_w hw]; exact hs
    have k5 : m.D x = s.depth:=by unfold M.D; rw [hs]
    rw [hs] at k1 k2 hDlt
    rw [k5] at k3 k4
    have hbd : dp < 65536 ∧ -1 ≤ dp:=by
     rw [hdp]
     split
     ·omega
     ·have:=(gV_links m (nth 0 L (i - 1))).2.2
      unfold M.D
      omega
    rw [← hdp] at k3
    have hbf2 : s.prev = bf:=by
     rw [k1,hbf]
     split
     ·rfl
     ·rename_i c0
      rw [List.getD_eq_getElem?_getD,nth_get (d:=0) (show i - 1 < L.length by omega)]; rfl
    obtain ⟨⟨c0,c1,c2,c3,c4,c5,c6,c7,c8,c9,c10⟩,p0,q0,r0⟩:=s
    simp only at k2 k3 k4 k5 hDlt hbf2
    subst hbf2
    have w1 : IntKind.i64.wrap (dp + 1) = dp + 1:=by rw [wrap64] <;> omega
    have f1 : ¬ dp + 1 < r0:=by omega
    have f2 : ¬ r0 < 0:=by omega
    have g1:=intsB_get h1
    rw [hx] at g1
    have hsl : slA h.length L c = .sl (.g h.length) 0 L.length c:=slA_pos h0
    have hbk : ∀ m2,(setM h a b m2 ++ bkA L c)[h.length]? = some ⟨.rw,intsB L,c⟩:=fun m2 => by
     rw [bkA_pos h0,List.getElem?_append_right (by rw [hlm]; omega),hlm,Nat.sub_self]; rfl
    have hp1 : (p0 != p0) = false:=by simp
    have hnx : m.D x = r0:=k5
    by_cases hl : i + 1 < L.length
    ·have g2:=intsB_get hl
     obtain ⟨y,hy⟩ : ∃ y,nth 0 L (i + 1) = y:=⟨_,rfl⟩
     rw [hy] at g2
     have hq : q0 = y:=by
      rw [k2,List.getD_eq_getElem?_getD,nth_get (d:=0) hl,hy]; rfl
     subst hq
     have e1 : ((i + 1 : Nat) : Int) < (L.length : Int):=by omega
     have e2 : (0 : Int) ≤ ((i + 1 : Nat) : Int):=by omega
     have e3 : (((i + 1 : Nat) : Int) == (L.length : Int)) = false:=by simpa using (by omega : ¬ ((i + 1 : Nat) : Int) = (L.length : Int))
     have e4 : (q0 != q0) = false:=by simp
     refine run_sound (Tab.ok_Γ _) 400 _ _ _ _ ?_
     simp (maxSteps:=9999999) only [EV0,zy,zx,zw,zv,zu,zq,zp,zj,zk,leT,zg,rvC,zZ,zY,zX,zW,↓zV,↓zU,reduceCtorEq,zQ,yz,yY,yy,yx,yv,yu,yq,yp,yX,yj,yk,yg,yW,yV,yU,yZ,yQ,xz,TFo,get2G,get2M,hmA,hsl,hbk,hgE,hgV,d1,d2,d3,d4,g1,g2,w1,f1,f2,hp1,e1,e2,e3,e4,bne,Slot.cl,Cap.cl,put,fillP,EVt,Int.toNat_natCast]
     refine IH (i + 1,x,r0,m'.gX x) _ (by simp only; omega) ⟨by simp only; omega, ?_, ?_,(gX_w _ _).trans hw⟩ ?_
     ·simp only [Nat.add_one_ne_zero,if_false,Nat.add_sub_cancel,hx]
     ·simp only [Nat.add_one_ne_zero,if_false,Nat.add_sub_cancel,hx,hnx]
     ·refine Wk.keep 0 rfl rfl ?_ ?_ rfl
      ·simp (maxSteps:=9999999) only [EV0,zy,zx,zw,zv,zu,zq,zp,zj,zk,leT,zg,rvC,zZ,zY,zX,zW,↓zV,↓zU,reduceCtorEq,zQ,yz,yY,yy,yx,yv,yu,yq,yp,yX,yj,yk,yg,yW,yV,yU,yZ,yQ,xz,hsl]
      ·simp (maxSteps:=9999999) only [EV0,zy,zx,zw,zv,zu,zq,zp,zj,zk,leT,zg,rvC,zZ,zY,zX,zW,↓zV,↓zU,reduceCtorEq,zQ,yz,yY,yy,yx,yv,yu,yq,yp,yX,yj,yk,yg,yW,yV,yU,yZ,yQ,xz,S_below,hsl]
    ·have hq : q0 = 0:=by
      rw [k2,List.getD_eq_getElem?_getD,List.getElem?_eq_none (by omega)]; rfl
     subst hq
     have e1 : ¬ ((i + 1 : Nat) : Int) < (L.length : Int):=by omega
     have e3 : (((i + 1 : Nat) : Int) == (L.length : Int)) = true:=by simpa using (by omega : ((i + 1 : Nat) : Int) = (L.length : Int))
     refine run_sound (Tab.ok_Γ _) 400 _ _ _ _ ?_
     simp (maxSteps:=9999999) only [EV0,zy,zx,zw,zv,zu,zq,zp,zj,zk,leT,zg,rvC,zZ,zY,zX,zW,↓zV,↓zU,reduceCtorEq,zQ,yz,yY,yy,yx,yv,yu,yq,yp,yX,yj,yk,yg,yW,yV,yU,yZ,yQ,xz,TFo,get2G,get2M,hmA,hsl,hbk,hgE,hgV,d1,d2,d3,d4,g1,w1,f1,f2,hp1,e1,e3,bne,Slot.cl,Cap.cl,put,fillP,EVt,Int.toNat_natCast]
     refine IH (i + 1,x,r0,m'.gX x) _ (by simp only; omega) ⟨by simp only; omega, ?_, ?_,(gX_w _ _).trans hw⟩ ?_
     ·simp only [Nat.add_one_ne_zero,if_false,Nat.add_sub_cancel,hx]
     ·simp only [Nat.add_one_ne_zero,if_false,Nat.add_sub_cancel,hx,hnx]
     ·refine Wk.keep 0 rfl rfl ?_ ?_ rfl
      ·simp (maxSteps:=9999999) only [EV0,zy,zx,zw,zv,zu,zq,zp,zj,zk,leT,zg,rvC,zZ,zY,zX,zW,↓zV,↓zU,reduceCtorEq,zQ,yz,yY,yy,yx,yv,yu,yq,yp,yX,yj,yk,yg,yW,yV,yU,yZ,yQ,xz,hsl]
      ·simp (maxSteps:=9999999) only [EV0,zy,zx,zw,zv,zu,zq,zp,zj,zk,leT,zg,rvC,zZ,zY,zX,zW,↓zV,↓zU,reduceCtorEq,zQ,yz,yY,yy,yx,yv,yu,yq,yp,yX,yj,yk,yg,yW,yV,yU,yZ,yQ,xz,S_below,hsl]
   ·have e0 : i = L.length:=by omega
    subst e0
    clear IH
    have i1 : ¬ ((L.length : Int) < (L.length : Int)):=by omega
    refine run_sound (Tab.ok_Γ _) 400 _ _ _ _ ?_
    simp (maxSteps:=9999999) only [EV0,zy,zx,zw,zv,zu,zq,zp,zj,zk,leT,zg,rvC,zZ,zY,zX,zW,↓zV,↓zU,reduceCtorEq,zQ,yz,yY,yy,yx,yv,yu,yq,yp,yX,yj,yk,yg,yW,yV,yU,yZ,yQ,xz,TFo,slA_known,slA_noL,slA_Cknown,slA_below,↓slA_len,i1]
    have hmw : m'.w.length = 2048:=by rw [hw]; exact W.len
    refine loop_rule (α:=Nat × M) [2,10,11,12,13,14,92,93,94,95,96,97,98,99,100,101,102,103,104,105,106,107,108,109,110,111,112,113,114,115,116,117,118,119,120,121,122,123,124,125,126,127,128,129,130,131,132,133,134,135,136,137,138] (fun z => [(10, .s (.i .i64 (4 * (z.1 : Int))))]) (fun _ => []) (fun z => setM h a b z.2 ++ bkA L c) (fun z => 1 ≤ z.1 ∧ z.1 ≤ 512 ∧ z.2.w = m.w) (fun z => 512 - z.1) (1,m') ⟨by simp only; omega,by simp only; omega,hw⟩ ?_ ?_
    ·refine Wk.same rfl rfl ?_
     simp (maxSteps:=9999999) only [EV0,zy,zx,zw,zv,zu,zq,zp,zj,zk,leT,zg,rvC,zZ,zY,zX,zW,↓zV,↓zU,reduceCtorEq,zQ,yz,yY,yy,yx,yv,yu,yq,yp,yX,yj,yk,yg,yW,yV,yU,yZ,yQ,xz,Int.natCast_one]
    ·rintro X2 ⟨k,m2⟩ ⟨hk1,hk2,hw2⟩ IH
     simp only at hk1 hk2 hw2 ⊢
     have hml : m2.w.length = 2048:=by rw [hw2]; exact W.len
     have ha1 : ∀ m2,(setM h a b m2 ++ bkA L c)[a]? = some (MB b m2):=fun m2 => ((H.set m2).app (X:=bkA L c)).ha
     have w1 : IntKind.i64.wrap (4 * (k : Int) + 4) = 4 * ((k + 1 : Nat) : Int):=by rw [wrap64] <;> omega
     by_cases c512 : k < 512
     ·have d1 : 4 * ((k + 1 : Nat) : Int) ≤ (2048 : Int):=by omega
      have hP : P11 (4 * (k : Int)):=⟨by omega,by rw [Int.tmod_eq_emod_of_nonneg (by omega)]; omega,by omega⟩
      obtain ⟨o1,o2⟩:=W.inv.out _ hP
      have hgE : m2.gE (4 * (k : Int)) = 0:=by rw [gE_w hw2]; exact o1
      obtain ⟨s,hs⟩ : ∃ s,m.gV (4 * (k : Int)) = s:=⟨_,rfl⟩
      have hgV : m2.gV (4 * (k : Int)) = s:=by rw [gV_w hw2]; exact hs
      rw [hs] at o2
      obtain ⟨⟨c0,c1,c2,c3,c4,c5,c6,c7,c8,c9,c10⟩,p0,q0,r0⟩:=s
      simp only at o2
      by_cases hin : 4 * (k : Int) ∈ L
      ·refine run_sound (Tab.ok_Γ _) 400 _ _ _ _ ?_
       simp (maxSteps:=9999999) only [EV0,zy,zx,zw,zv,zu,zq,zp,zj,zk,leT,zg,rvC,zZ,zY,zX,zW,↓zV,↓zU,reduceCtorEq,zQ,yz,yY,yy,yx,yv,yu,yq,yp,yX,yj,yk,yg,yW,yV,yU,yZ,yQ,xz,TFo,get2G,get2M,containsG,hmA,hAr,ha1,MB,hml,hgE,hgV,hin,hll,w1,d1,bne,slA_known,slA_noL,slA_Cknown,slA_below,↓slA_len,Slot.cl,Cap.cl,put,fillP,EVt,Int.toNat_natCast]
       refine IH (k + 1,m2.gX (4 * (k : Int))) _ (by simp only; omega) ⟨by simp only; omega,by simp only; omega,(gX_w _ _).trans hw2⟩ ?_
       refine Wk.keep 0 rfl rfl ?_ ?_ rfl
       ·simp (maxSteps:=9999999) only [EV0,zy,zx,zw,zv,zu,zq,zp,zj,zk,leT,zg,rvC,zZ,zY,zX,zW,↓zV,↓zU,reduceCtorEq,zQ,yz,yY,yy,yx,yv,yu,yq,yp,yX,yj,yk,yg,yW,yV,yU,yZ,yQ,xz]
       ·simp (maxSteps:=9999999) only [EV0,zy,zx,zw,zv,zu,zq,zp,zj,zk,leT,zg,rvC,zZ,zY,zX,zW,↓zV,↓zU,reduceCtorEq,zQ,yz,yY,yy,yx,yv,yu,yq,yp,yX,yj,yk,yg,yW,yV,yU,yZ,yQ,xz,S_below,slA_below]
      ·obtain ⟨rfl,rfl,rfl⟩:=o2 hin
       refine run_sound (Tab.ok_Γ _) 400 _ _ _ _ ?_
       simp (maxSteps:=9999999) only [EV0,zy,zx,zw,zv,zu,zq,zp,zj,zk,leT,zg,rvC,zZ,zY,zX,zW,↓zV,↓zU,reduceCtorEq,zQ,yz,yY,yy,yx,yv,yu,yq,yp,yX,yj,yk,yg,yW,yV,yU,yZ,yQ,xz,TFo,get2G,get2M,containsG,hmA,hAr,ha1,MB,hml,hgE,hgV,hin,hll,w1,d1,bne,slA_known,slA_noL,slA_Cknown,slA_below,↓slA_len,Slot.cl,Cap.cl,put,fillP,EVt,Int.toNat_natCast]
       refine IH (k + 1,m2.gX (4 * (k : Int))) _ (by simp only; omega) ⟨by simp only; omega,by simp only; omega,(gX_w _ _).trans hw2⟩ ?_
       refine Wk.keep 0 rfl rfl ?_ ?_ rfl
       ·simp (maxSteps:=9999999) only [EV0,zy,zx,zw,zv,zu,zq,zp,zj,zk,leT,zg,rvC,zZ,zY,zX,zW,↓zV,↓zU,reduceCtorEq,zQ,yz,yY,yy,yx,yv,yu,yq,yp,yX,yj,yk,yg,yW,yV,yU,yZ,yQ,xz]
       ·simp (maxSteps:=9999999) only [EV0,zy,zx,zw,zv,zu,zq,zp,zj,zk,leT,zg,rvC,zZ,zY,zX,zW,↓zV,↓zU,reduceCtorEq,zQ,yz,yY,yy,yx,yv,yu,yq,yp,yX,yj,yk,yg,yW,yV,yU,yZ,yQ,xz,S_below,slA_below]
     ·have d1 : ¬ 4 * ((k + 1 : Nat) : Int) ≤ (2048 : Int):=by omega
      clear IH
      refine run_sound (Tab.ok_Γ _) 400 _ _ _ _ ?_
      simp (maxSteps:=9999999) only [EV0,zy,zx,zw,zv,zu,zq,zp,zj,zk,leT,zg,rvC,zZ,zY,zX,zW,↓zV,↓zU,reduceCtorEq,zQ,yz,yY,yy,yx,yv,yu,yq,yp,yX,yj,yk,yg,yW,yV,yU,yZ,yQ,xz,TFo,ha1,MB,hml,w1,d1]
      refine fin_of (v:=.s (.b true)) (ls:=[]) (h:=setM h a b m2) rfl ?_ ?_
      ·exact drop_b (by simp (maxSteps:=9999999) only [EV0,zy,zx,zw,zv,zu,zq,zp,zj,zk,leT,zg,rvC,zZ,zY,zX,zW,↓zV,↓zU,reduceCtorEq,zQ,yz,yY,yy,yx,yv,yu,yq,yp,yX,yj,yk,yg,yW,yV,yU,yZ,yQ,xz]) (by rw [hlm]; exact setM_clean H hc H.ltb) (Nat.le_of_eq (hlm m2).symm)
      ·simp (maxSteps:=9999999) only [EV0,zy,zx,zw,zv,zu,zq,zp,zj,zk,leT,zg,rvC,zZ,zY,zX,zW,↓zV,↓zU,reduceCtorEq,zQ,yz,yY,yy,yx,yv,yu,yq,yp,yX,yj,yk,yg,yW,yV,yU,yZ,yQ,xz]
       exact hK m2 hw2
 ·exact hS.elim

theorem ply_all (L : List Op) : (plyL z11 z11 L).2.w = (plyL z11 z11 L).1.w ∧ ∃ Q,W11 (plyL z11 z11 L).1 Q:=plyL_w L W11.zero rfl
def cdtForestS : FSpec:=fun args h K => ∃ (s : S) (L : List Op),args = [.s s] ∧ IsArr Op.cl h s L ∧ (∀ x,x ∈ L → x.u) ∧ L.length ≤ 9223372036854775807 ∧ ∀ h',K (.s (.b true)) h'
noncomputable def TFs2 : Tab:=addT 8 awake11G (addT 21 playedG (addT 22 forestG (noT)))
theorem TFs2_snd : TFs2.Snd Try.prog:=addT_snd ok8 awake11_snd (addT_snd ok21 played_snd (addT_snd ok22 forest_snd ((noT_snd _))))
theorem cdtForest_snd : Snd Try.prog 4 cdtForestS:=(fwp_sound (Tab.snd_Γ TFs2_snd) mixed Try.func4 dc4).weaken fun args h K hc hS => by
 obtain ⟨s,L,rfl,Hs,hu,l1,hK⟩:=hS
 refine fwp_run (Tab.ok_Γ _) 400 ?_
 have hlen:=fun ls h' => Hs.sl.len (ls:=ls) (h:=h')
 have hkn:=Hs.sl.known
 have hnl:=Hs.sl.noL
 have hA:=arrOf_eq Hs
 obtain ⟨hw,Q,W⟩:=ply_all L
 obtain ⟨⟨m,r⟩,hF⟩ : ∃ F,plyL z11 z11 L = F:=⟨_,rfl⟩
 rw [hF] at hw W
 simp only at hw W
 have hcc : ∀ m r X,(bH h m r X)[h.length + 4]? = _:=fun m r X => bH_c h m r X
 have hWr : (∃ L,W11 r L) = True:=eq_true ⟨Q,W.of_w hw⟩
 have hu1 : (∀ x,x ∈ L → x.u) = True:=eq_true hu
 by_cases c1 : (2147483647 : Int) < (L.length : Int)
 ·simp (maxSteps:=9999999) only [EV0,zy,zx,zw,zv,zu,zq,zp,zj,zk,leT,zg,rvC,zZ,zY,zX,zW,↓zV,↓zU,reduceCtorEq,zQ,yz,yY,yy,yx,yv,yu,yq,yp,yX,yj,yk,yg,yW,yV,yU,yZ,yQ,xz,df4,TFs2,↓hlen,↓hkn,↓hnl,c1]
  exact hK _
 ·have w1 : L.length ≤ 9223372036854775807:=l1
  simp (maxSteps:=9999999) only [EV0,zy,zx,zw,zv,zu,zq,zp,zj,zk,leT,zg,rvC,zZ,zY,zX,zW,↓zV,↓zU,reduceCtorEq,zQ,yz,yY,yy,yx,yv,yu,yq,yp,yX,yj,yk,yg,yW,yV,yU,yZ,yQ,xz,df4,TFs2,awake11G,playedG,forestG,forestM,anyN,bH_fr,hcc,hA,hF,hWr,hu1,w1,↓hlen,↓hkn,↓hnl,c1]
  intro a _ b _
  exact hK _
end Go.Proofs.Ytcdfofeolgbnbaa

/- CdtForest: for every input the law's Go function answers true,and its arguments read behind the call as before. No conditions. -/
namespace Go.Proofs.Ytcdfofeolgbnbaa
open Go.D
set_option linter.all false
set_option maxRecDepth 100000

theorem cdtForest_law : Law cdtForestS [(false,[.slice OpT])]:=by
 intro h us H hc
 obtain ⟨_,_,rfl,H1,H⟩:=lawC H
 obtain rfl:=lawN H
 obtain ⟨s,L,rfl,e1,e2,e3⟩:=hasV_slice (c:=Op.cl) (p:=Op.u) (fun ss h => hasTs_op11 h) H1
 exact ⟨s,L,rfl,e1,e2,by omega,fun _ => rfl⟩
theorem cdtForest_row : RowOk Try.prog 4 Try.f4 Rows.cdtForestSpec [(false,[.slice OpT])] where
 own:=own
 noTabs:=rfl
 noInit:=by kernel_rfl
 isf:=Try.func4
 laid:=laid
 rowed:=rowed
 full:=full
 params:=by kernel_rfl
 vars:=rfl
 ret:=⟨_,rfl,by kernel_rfl⟩
 spec:=fun H ds e => by
  match ds,e with
  | [_],_ => rfl
 tys:=⟨20,by kernel_rfl⟩
theorem cdtForest_holds : Rows.CdtForestSaid :=
 OpenClaim.holds_of_wide 4 Try.f4 rfl rfl rfl rfl rfl rfl rfl ⟨rfl,rfl,rfl,rfl,rfl⟩ rfl rfl rfl rfl rfl (by kernel_rfl) Try.func4 (by kernel_rfl)
  (of_decide_eq_true (by kernel_rfl)) (by unfold Func.isWrapper; first | (rw [if_pos (by decide +kernel)]; kernel_rfl) | (rw [if_neg (by decide +kernel)]; exact ⟨rfl,rfl⟩))
  (fun os started H enc _ => cdtForest_row.lifted (C:=Try.checked) cdtForest_snd cdtForest_law started (ChangeSpec.witness6 (enc:=enc) (C:=Try.checked) false ⟨#[], #[.slice none 0 0],[]⟩ 8 (by kernel_rfl) (by kernel_rfl) (by kernel_rfl) (by kernel_rfl)))
end Go.Proofs.Ytcdfofeolgbnbaa

