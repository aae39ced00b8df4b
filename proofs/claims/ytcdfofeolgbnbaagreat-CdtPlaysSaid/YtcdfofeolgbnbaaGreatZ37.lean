/- Law 11: awake. -/
import Derived.Test.YtcdfofeolgbnbaaGreatZ35
import Derived.Test.YtcdfofeolgbnbaaGreatZ13
import Derived.Test.YtcdfofeolgbnbaaGreatZ34
import Derived.Test.YtcdfofeolgbnbaaGreatZ29
/- Law 11: Next and Last; the chapter's example,list by list. -/
namespace Go.Proofs.YtcdfofeolgbnbaaGreat
open Go.D
set_option linter.all false
set_option maxRecDepth 100000
set_option maxHeartbeats 4000000

section
variable {m r : M} {L : List Int}
theorem W11.nx (W : W11 m L) (x : Int) : m.nxV x = (under m.D L x).headD 0:=by
 unfold M.nxV
 by_cases hf : m.fE x = 0
 ·rw [if_pos hf]
  by_cases hx : x ∈ L
  ·obtain ⟨L1,L2,e⟩:=List.append_of_mem hx
   have hn:=W.inv.nd
   have hc:=W.inv.ch
   have hfl : ∀ y,y ∈ L2 → m.fE y = 0 ∧ y ≠ 0:=fun y hy => by
    have : y ∈ L:=by rw [e]; exact List.mem_append_right _ (List.mem_cons_of_mem _ hy)
    exact ⟨W.inv.full y this,W.n0 this⟩
   rw [e] at hn hc
   have hx1 : x ∉ L1:=fun h => (List.nodup_append.1 hn).2.2 x h x List.mem_cons_self rfl
   have hu : under m.D L x = tw m.D (m.D x) L2:=by rw [e]; exact under_split hx1
   obtain ⟨_,_,h2,_⟩:=chain_app.1 hc
   rw [hu,h2]
   cases L2 with
   | nil => rfl
   | cons y L2 =>
    obtain ⟨q1,q2⟩:=hfl y List.mem_cons_self
    rw [List.headD_cons,if_neg q2,if_pos q1,tw_cons]
    by_cases c : m.D x < m.D y
    ·rw [if_pos c,if_neg (by unfold M.D at c; omega)]; rfl
    ·rw [if_neg c,if_pos (by unfold M.D at c; omega)]; rfl
  ·have hn : (m.gV x).next = 0:=((W.inv.out x (W.P (fE_zero.1 hf).1)).2 hx).2.1
   rw [hn,if_pos rfl,under_none hx]; rfl
 ·have hx : x ∉ L:=fun h => hf (W.inv.full x h)
  rw [if_neg hf,under_none hx]; rfl
end
structure Rep11 (m : M) (T : List (Int × Int)) (U : List Int) : Prop where
 w : W11 m (T.map (·.1))
 d : ∀ y,y ∈ T → m.D y.1 = y.2
 u : ∀ x,x ∈ U → m.fE x = 0 ∧ x ∉ T.map (·.1)
section
variable {m : M} {T T' : List (Int × Int)} {U U' : List Int}
theorem Rep11.of_w (R : Rep11 m T U) {m' : M} (e : m'.w = m.w) : Rep11 m' T U :=
 ⟨R.w.of_w e,fun y hy => by rw [D_w e]; exact R.d y hy,fun x hx => by rw [fE_w e]; exact R.u x hx⟩
theorem Rep11.ins (R : Rep11 m T U) {p a dp : Int} (ha : a ∈ U) (hp : p = 0 ∨ ((p,dp) ∈ T ∧ dp ≠ 65535)) (hT : T'.map (·.1) = insLL p a (T.map (·.1))) (hd : ∀ y,y ∈ T' → (y.1 = a ∧ y.2 = if p = 0 then 0 else dp + 1) ∨ (y.1 ≠ a ∧ y ∈ T)) (hU : ∀ x,x ∈ U' → x ∈ U ∧ x ≠ a) :
  ∃ m',m.ins p a = (0,m') ∧ Rep11 m' T' U':=by
 obtain ⟨hf,hu⟩:=R.u a ha
 have W:=R.w
 have hp' : p = 0 ∨ (p ∈ T.map (·.1) ∧ (m.gV p).depth ≠ 65535):=hp.imp id fun h => ⟨List.mem_map.2 ⟨(p,dp),h.1,rfl⟩,by have:=R.d _ h.1; unfold M.D at this; rw [this]; exact h.2⟩
 obtain ⟨k1,k2⟩:=W.inv.ins_to (W.P (fE_zero.1 hf).1) hf hu hp'
 have S : St11 m (T.map (·.1)) ⟨1,a,p,0⟩ 0 (m.ins p a).2 (insLL p a (T.map (·.1))):=.ins rfl hf hu hp' k2
 have W':=W.step S
 refine ⟨(m.ins p a).2,Prod.ext k1 rfl,by rw [hT]; exact W',fun y hy => ?_,fun x hx => ?_⟩
 ·have hy0 : y.1 ≠ 0:=by
   have : y.1 ∈ insLL p a (T.map (·.1)):=by rw [← hT]; exact List.mem_map.2 ⟨y,hy,rfl⟩
   exact W'.n0 this
  rw [ins_D k2 hy0]
  rcases hd y hy with ⟨e1,e2⟩ | ⟨e1,e2⟩
  ·rw [if_pos e1,e2]
   by_cases c : p = 0
   ·rw [if_pos c,if_pos c]
   ·rw [if_neg c,if_neg c]
    have:=R.d _ (hp.resolve_left c).1
    rw [this]
  ·rw [if_neg e1]; exact R.d y e2
 ·obtain ⟨h1,h2⟩:=hU x hx
  obtain ⟨g1,g2⟩:=R.u x h1
  obtain ⟨q1,q2⟩:=fE_zero.1 g1
  refine ⟨k2.full q1 ?_, ?_⟩
  ·unfold M.insV
   rw [jnV_cap,if_neg h2]; exact q2
  ·rw [hT]
   intro h
   unfold insLL at h
   split at h
   ·rcases List.mem_cons.1 h with h | h
    ·exact h2 h
    ·exact g2 h
   ·rcases mem_insL h with h | h
    ·exact h2 h
    ·exact g2 h
theorem Rep11.un (R : Rep11 m T U) {D : Int → Int} (hD : ∀ y,y ∈ T → D y.1 = y.2) (x : Int) : under m.D (T.map (·.1)) x = under D (T.map (·.1)) x :=
 under_congr fun y hy => by
  obtain ⟨z,hz,rfl⟩:=List.mem_map.1 hy
  rw [R.d z hz,hD z hz]
end
def tabD (T : List (Int × Int)) (x : Int) : Int:=(T.lookup x).getD 0
def aT4 : List (Int × Int):=[(1024,0),(1036,1),(1028,1),(1032,2)]
def aT5 : List (Int × Int):=[(1024,0),(1036,1),(1032,1)]
theorem aw_ins {m : M} (R : Rep11 m [] [1024,1028,1032,1036]) : ∃ m1 m2 m3 m4,m.ins 0 1024 = (0,m1) ∧ m1.ins 1024 1028 = (0,m2) ∧ m2.ins 1028 1032 = (0,m3) ∧ m3.ins 1024 1036 = (0,m4) ∧ Rep11 m4 aT4 []:=by
 obtain ⟨m1,e1,R1⟩:=R.ins (T':=[(1024,0)]) (U':=[1028,1032,1036]) (p:=0) (a:=1024) (dp:=0) (by decide) (.inl rfl) (by decide) (by decide) (by decide)
 obtain ⟨m2,e2,R2⟩:=R1.ins (T':=[(1024,0),(1028,1)]) (U':=[1032,1036]) (p:=1024) (a:=1028) (dp:=0) (by decide) (.inr (by decide)) (by decide) (by decide) (by decide)
 obtain ⟨m3,e3,R3⟩:=R2.ins (T':=[(1024,0),(1028,1),(1032,2)]) (U':=[1036]) (p:=1028) (a:=1032) (dp:=1) (by decide) (.inr (by decide)) (by decide) (by decide) (by decide)
 obtain ⟨m4,e4,R4⟩:=R3.ins (T':=aT4) (U':=[]) (p:=1024) (a:=1036) (dp:=0) (by decide) (.inr (by decide)) (by decide) (by decide) (by decide)
 exact ⟨m1,m2,m3,m4,e1,e2,e3,e4,R4⟩
theorem aw_ask {m : M} (R : Rep11 m aT4 []) : m.lis.1 = some [1024,1036,1028,1032] ∧ m.lis.2.w = m.w ∧ m.nxV 1024 = 1036 ∧ (m.dsL 1024).getLastD 0 = 1032 ∧ decide (1032 ∈ m.dsL 1024) = true ∧ decide (1028 ∈ m.dsL 1036) = false:=by
 have hu:=R.un (D:=tabD aT4) (by decide)
 obtain ⟨l1,l2,_⟩:=R.w.li
 refine ⟨l1,l2, ?_, ?_, ?_, ?_⟩
 ·rw [R.w.nx,hu]; decide
 ·rw [(R.w.ds _).1,hu]; decide
 ·rw [(R.w.ds _).1,hu]; decide
 ·rw [(R.w.ds _).1,hu]; decide
theorem aw_rem {m : M} (R : Rep11 m aT4 []) : ∃ m',m.rem 1028 = (0,m') ∧ Rep11 m' aT5 []:=by
 have W:=R.w
 have e : aT4.map (·.1) = [1024,1036] ++ 1028 :: [1032]:=rfl
 obtain ⟨⟨k1,k2⟩,_⟩:=W.inv.rem_to e
 have S : St11 m (aT4.map (·.1)) ⟨4,1028,0,0⟩ 0 (m.rem 1028).2 ([1024,1036] ++ [1032]):=.rem rfl e k2
 have W':=W.step S
 have hds : deep m.gV (m.gV 1028).depth [1032] = [1032]:=by
  have h1 : m.D 1028 = 1:=R.d (1028,1) (by decide)
  have h2 : m.D 1032 = 2:=R.d (1032,2) (by decide)
  unfold M.D at h1 h2
  unfold deep
  rw [List.takeWhile_cons,if_pos (by rw [h1,h2]; decide)]; rfl
 rw [hds] at k2
 refine ⟨(m.rem 1028).2,Prod.ext k1 rfl,W',fun y hy => ?_,fun x h => by cases h⟩
 have hy2 : y = (1024,0) ∨ y = (1036,1) ∨ y = (1032,1):=by
  simpa [aT5] using hy
 rcases hy2 with rfl | rfl | rfl
 ·rw [rem_D k2 (by decide) (by decide),if_neg (by decide)]; exact R.d (1024,0) (by decide)
 ·rw [rem_D k2 (by decide) (by decide),if_neg (by decide)]; exact R.d (1036,1) (by decide)
 ·rw [rem_D k2 (by decide) (by decide),if_pos (by decide)]
  have:=R.d (1032,2) (by decide)
  simp only at this ⊢
  rw [this]; rfl
theorem aw_ds {m : M} (R : Rep11 m aT5 []) : m.dsL 1024 = [1036,1032] ∧ m.dsE 1024 = 0 ∧ (m.dsO 1024).2.w = m.w:=by
 have hu:=R.un (D:=tabD aT5) (by decide)
 obtain ⟨d1,d2,_,_,d5,_⟩:=R.w.ds 1024
 refine ⟨?_, ?_,d2⟩
 ·rw [d1,hu]; decide
 ·rw [d5]; exact R.w.inv.full 1024 (by decide)
theorem aw_no {m : M} (R : Rep11 m aT5 []) : (m.ins 0 1024).1 = 120:=by
 have hf:=R.w.inv.full 1024 (by decide)
 have hli:=R.w.inv.listed (x:=1024) (by decide)
 unfold M.ins
 rw [if_pos hf,gX_liB,if_pos hli]
theorem aw_lay {m r : M} {i : Nat} (hi : i < 4) (W : W11 m []) (hw : r.w = m.w) (hf : ∀ j : Nat,j < i → m.fE (1024 + 4 * (j : Int)) = 0) (hz : ∀ x,P11 x → (∀ j : Nat,j < i → x ≠ 1024 + 4 * (j : Int)) → m.gE x = 0 ∧ m.gV x = slotZ) :
  ∃ m' r',laysX m r (1024 + 4 * (i : Int)) i = (m',r') ∧ laysV m r (1024 + 4 * (i : Int)) i = true ∧ r'.w = m'.w ∧ W11 m' [] ∧ (∀ j : Nat,j < i + 1 → m'.fE (1024 + 4 * (j : Int)) = 0) ∧ (∀ x,P11 x → (∀ j : Nat,j < i + 1 → x ≠ 1024 + 4 * (j : Int)) → m'.gE x = 0 ∧ m'.gV x = slotZ):=by
 have hP : P11 (1024 + 4 * (i : Int)):=⟨by omega,by rw [Int.tmod_eq_emod_of_nonneg (by omega)]; omega,by omega⟩
 obtain ⟨z1,z2⟩:=hz _ hP fun j hj => by omega
 obtain ⟨h1,h2,h3,h4⟩:=W.lays hw (1024 + 4 * (i : Int)) i
 have heB : m.eB (1024 + 4 * (i : Int)) = true:=(W.inv.free z1 z2).2.2
 have T : m.To (laysX m r (1024 + 4 * (i : Int)) i).1 (fun x => if x = 1024 + 4 * (i : Int) then hndS i else m.gV x) m.fst:=by
  unfold laysX
  rw [gE_w hw,eB_w hw,if_pos ⟨z1,heB⟩]
  exact (M.To.refl m).pX z1 (hnd_R _).1
 obtain ⟨⟨m',r'⟩,e⟩ : ∃ z,laysX m r (1024 + 4 * (i : Int)) i = z:=⟨_,rfl⟩
 rw [e] at h2 h3 T
 simp only at h2 h3 T
 refine ⟨m',r',e,h1,h2,h3, ?_⟩
 refine ⟨fun j hj => ?_,fun x hx hj => ?_⟩
 ·by_cases c : j = i
  ·subst c
   exact T.full z1 (by rw [if_pos rfl,(hnd_R _).2]; decide)
  ·have hf':=hf j (by omega)
   obtain ⟨q1,q2⟩:=fE_zero.1 hf'
   refine T.full q1 ?_
   rw [if_neg (by omega)]; exact q2
 ·obtain ⟨q1,q2⟩:=hz x hx fun j hj2 => hj j (by omega)
  have x0 : x ≠ 0:=by have:=hx.1; omega
  refine ⟨(T.E x).trans q1, ?_⟩
  rw [T.V x x0,if_neg (hj i (by omega))]; exact q2
end Go.Proofs.YtcdfofeolgbnbaaGreat

/- Law 11: all that may be asked of two slots,of both memories. -/
namespace Go.Proofs.YtcdfofeolgbnbaaGreat
open Go.D
open Nat (reduceAdd reducePow reduceMul reduceSub reduceLeDiff reduceLT reduceEqDiff)
open Int (reduceNeg reduceLE reduceEq reduceNe reduceToNat)
open Go.D renaming istep → zy,pickR → zx,bin1R → zw,un1R → zv,eqS → zu,eq1 → zq,cmpS → zp,cmp1 → zj,isNil → zk,shows → zg,result → zZ,q_cond_t → zV,q_cond_f → zU
open List renaming set → zY,replicate → zX
open Option renaming map → zW
open Nat renaming reduceAdd → zQ,reducePow → yz,reduceMul → yy,reduceSub → yx,reduceLeDiff → yw,reduceLT → yv,reduceEqDiff → yu
open Int renaming reduceNeg → yq,reduceLE → yj,reduceEq → yk,reduceNe → yg,reduceToNat → yZ,reducePow → yY,reduceLT → yX,reduceAdd → yW,reduceSub → yV,reduceMul → yU,reduceBEq → yQ,reduceBNe → xz
set_option linter.all false
set_option maxRecDepth 100000
set_option maxHeartbeats 4000000

def asX (m : M) (x : Op) : M:=(((((m.nxX x.a).dsO x.a).2.dsO x.a).2.dsO x.a).2.lis).2
def raX (r : M) (x : Op) : M:=(((((r.nxX x.a).rdsO x.a).2.rdsO x.a).2.rdsO x.a).2.rlis).2
def asksM (m r : M) (st : M → M → List Blk) : List V → Res:=opF fun x => .ob (r.w = m.w ∧ ∃ L,W11 m L) (.ok (.s (.b true)) [] (st (asX m x) (raX r x)))
noncomputable def asksG:=bothF asksM
theorem slA_two {H : List Blk} {a b p q : Nat} {m r : M} {X Y : List Blk} {l : List Int} {c : Nat} : arrOf In.c (twoH H a b p q m r (X ++ (bkA l c ++ Y))) (slA (H.length + X.length) l c) = some l:=by
 have h1:=slA_is (twoH H a b p q m r X) Y l c
 rw [twoH_app,twoH_len] at h1
 exact arrOf_eq h1
theorem asX_w {m : M} {L : List Int} (W : W11 m L) (x : Op) : (asX m x).w = m.w:=by
 unfold asX
 have e1:=nxX_w m x.a
 have e2:=((W.of_w e1).ds x.a).2.1.trans e1
 have e3:=((W.of_w e2).ds x.a).2.1.trans e2
 have e4:=((W.of_w e3).ds x.a).2.1.trans e3
 exact ((W.of_w e4).li).2.1.trans e4
theorem raX_w {r : M} {L : List Int} (W : W11 r L) (x : Op) : (raX r x).w = r.w:=by
 unfold raX
 have e1:=nxX_w r x.a
 have e2:=((W.of_w e1).ds x.a).2.2.2.1.trans e1
 have e3:=((W.of_w e2).ds x.a).2.2.2.1.trans e2
 have e4:=((W.of_w e3).ds x.a).2.2.2.1.trans e3
 exact ((W.of_w e4).li).2.2.2.trans e4
noncomputable def TAs : Tab:=addT 41 nextG (addT 32 nextG (addT 46 lastG (addT 130 rlastG (addT 31 belG (addT 131 rbelG (addT 47 dscA (addT 129 rdscA (addT 33 lisAG (addT 120 rlisAG (addT 48 intsG (noT)))))))))))
theorem TAs_snd : TAs.Snd Tryz.prog:=addT_snd ok41 next_snd (addT_snd ok32 rnext_snd (addT_snd ok46 last_snd (addT_snd ok130 rlast_snd (addT_snd ok31 bel_snd (addT_snd ok131 rbel_snd (addT_snd ok47 dscA_snd (addT_snd ok129 rdscA_snd (addT_snd ok33 lisA_snd (addT_snd ok120 rlisA_snd (addT_snd ok48 ints_snd ((noT_snd _))))))))))))
theorem asks_snd : Snd Tryz.prog 58 (FSpec.of asksG):=(fwp_sound (Tab.snd_Γ TAs_snd) mixed Tryz.func58 dc58).weaken fun args H K hc hS => by
 refine fwp_runW (Tab.ok_Γ _) 400 ?_
 obtain ⟨H0,c,a,b,p,q,m,r,rest,rfl,rfl,I,hS1⟩:=bothF_spec (f:=asksM) hS
 clear hS
 obtain ⟨⟨xw,xa,xb,xn⟩,rfl,hS⟩:=opF_spec hS1
 clear hS1
 obtain ⟨⟨hw,L,W⟩,hS⟩:=hS
 simp only [spec_ok,asX,raX] at hS
 have hcl:=I.clean hc
 have Wr:=W.of_w hw
 -- the program's answers,one after another
 have e1:=nxX_w m xa
 have n0:=W.nx xa
 obtain ⟨m1,hm1⟩ : ∃ m1,m.nxX xa = m1:=⟨_,rfl⟩
 rw [hm1] at e1 hS
 obtain ⟨a1,e2,_⟩:=(W.of_w e1).ds xa
 rw [D_w e1] at a1
 have e2:=e2.trans e1
 obtain ⟨m2,hm2⟩ : ∃ m2,(m1.dsO xa).2 = m2:=⟨_,rfl⟩
 rw [hm2] at e2 hS
 obtain ⟨a2,e3,_⟩:=(W.of_w e2).ds xa
 rw [D_w e2] at a2
 have e3:=e3.trans e2
 obtain ⟨m3,hm3⟩ : ∃ m3,(m2.dsO xa).2 = m3:=⟨_,rfl⟩
 rw [hm3] at e3 hS
 obtain ⟨a3,e4,_,_,a5,_⟩:=(W.of_w e3).ds xa
 rw [D_w e3] at a3
 rw [fE_w e3] at a5
 have e4:=e4.trans e3
 obtain ⟨m4,hm4⟩ : ∃ m4,(m3.dsO xa).2 = m4:=⟨_,rfl⟩
 rw [hm4] at e4 hS
 obtain ⟨a6,e5,_⟩:=(W.of_w e4).li
 obtain ⟨m5,hm5⟩ : ∃ m5,m4.lis.2 = m5:=⟨_,rfl⟩
 rw [hm5] at hS
 -- the document's
 have k1:=nxX_w r xa
 have n1:=Wr.nx xa
 rw [D_w hw,← n0] at n1
 obtain ⟨r1,hr1⟩ : ∃ r1,r.nxX xa = r1:=⟨_,rfl⟩
 rw [hr1] at k1 hS
 obtain ⟨_,_,b1,k2,_⟩:=(Wr.of_w k1).ds xa
 rw [D_w k1,D_w hw] at b1
 have k2:=k2.trans k1
 obtain ⟨r2,hr2⟩ : ∃ r2,(r1.rdsO xa).2 = r2:=⟨_,rfl⟩
 rw [hr2] at k2 hS
 obtain ⟨_,_,b2,k3,_⟩:=(Wr.of_w k2).ds xa
 rw [D_w k2,D_w hw] at b2
 have k3:=k3.trans k2
 obtain ⟨r3,hr3⟩ : ∃ r3,(r2.rdsO xa).2 = r3:=⟨_,rfl⟩
 rw [hr3] at k3 hS
 obtain ⟨_,_,b3,k4,_,b5⟩:=(Wr.of_w k3).ds xa
 rw [D_w k3,D_w hw] at b3
 rw [fE_w k3,fE_w hw] at b5
 have k4:=k4.trans k3
 obtain ⟨r4,hr4⟩ : ∃ r4,(r3.rdsO xa).2 = r4:=⟨_,rfl⟩
 rw [hr4] at k4 hS
 obtain ⟨_,_,b6,k5⟩:=(Wr.of_w k4).li
 obtain ⟨r5,hr5⟩ : ∃ r5,r4.rlis.2 = r5:=⟨_,rfl⟩
 rw [hr5] at hS
 clear e5 k5
 have hQl:=W.inv.llen
 rw [W.len] at hQl
 have hDl : (under m.D L xa).length ≤ L.length:=by
  have h3:=List.length_filter_le (fun w => decide (w ∈ under m.D L xa)) L
  rwa [under_pick W.inv.nd] at h3
 obtain ⟨Dl,hD⟩ : ∃ Dl,under m.D L xa = Dl:=⟨_,rfl⟩
 rw [hD] at a1 a2 a3 b1 b2 b3 hDl
 have hl1 : Dl.length ≤ 8796093022208:=by omega
 have hl2 : L.length ≤ 8796093022208:=by omega
 obtain ⟨nv,hnv⟩ : ∃ nv,m.nxV xa = nv:=⟨_,rfl⟩
 rw [hnv] at n1
 obtain ⟨ev,hev⟩ : ∃ ev,m.fE xa = ev:=⟨_,rfl⟩
 rw [hev] at a5 b5
 obtain ⟨lv,hlv⟩ : ∃ lv,Dl.getLastD 0 = lv:=⟨_,rfl⟩
 obtain ⟨bv,hbv⟩ : ∃ bv,decide (xb ∈ Dl) = bv:=⟨_,rfl⟩
 have q1 : ∀ (c1 : Nat) (Y : List Blk),arrOf In.c (twoH H0 a b p q m5 r5 (bkA Dl c1 ++ Y)) (slA H0.length Dl c1) = some Dl:=fun c1 Y => slA_two (X:=[])
 have q2 : ∀ (c1 c2 : Nat) (Y : List Blk),arrOf In.c (twoH H0 a b p q m5 r5 (bkA Dl c1 ++ (bkA Dl c2 ++ Y))) (slA (H0.length + (bkA Dl c1).length) Dl c2) = some Dl:=fun c1 c2 Y => slA_two
 have q3 : ∀ (c1 c2 c3 : Nat) (Y : List Blk),arrOf In.c (twoH H0 a b p q m5 r5 (bkA Dl c1 ++ (bkA Dl c2 ++ (bkA L c3 ++ Y)))) (slA (H0.length + ((bkA Dl c1).length + (bkA Dl c2).length)) L c3) = some L:=fun c1 c2 c3 Y => by
  have:=slA_two (H:=H0) (a:=a) (b:=b) (p:=p) (q:=q) (m:=m5) (r:=r5) (X:=bkA Dl c1 ++ bkA Dl c2) (Y:=Y) (l:=L) (c:=c3)
  rwa [List.length_append,List.append_assoc] at this
 have q4 : ∀ (c1 c2 c3 c4 : Nat),arrOf In.c (twoH H0 a b p q m5 r5 (bkA Dl c1 ++ (bkA Dl c2 ++ (bkA L c3 ++ bkA L c4)))) (slA (H0.length + ((bkA Dl c1).length + ((bkA Dl c2).length + (bkA L c3).length))) L c4) = some L:=fun c1 c2 c3 c4 => by
  have:=slA_two (H:=H0) (a:=a) (b:=b) (p:=p) (q:=q) (m:=m5) (r:=r5) (X:=bkA Dl c1 ++ (bkA Dl c2 ++ bkA L c3)) (Y:=[]) (l:=L) (c:=c4)
  rwa [List.length_append,List.length_append,List.append_assoc,List.append_assoc,List.append_nil] at this
 simp (maxSteps:=9999999) only [EV0,zy,zx,zw,zv,zu,zq,zp,zj,zk,leT,zg,rvC,zZ,zY,zX,zW,↓zV,↓zU,reduceCtorEq,zQ,yz,yY,yy,yx,yw,yv,yu,yq,yX,yj,yk,yg,yW,yV,yU,yZ,yQ,xz,df58,TAs,nextG,nextM,lastG,lastM,rlastG,rlastM,belG,belM,rbelG,rbelM,dscA,dscAM,rdscA,rdscAM,lisA,lisAG,lisAM,rlisAG,rlisAM,intsG,I.at_c,I.fm,I.fr,twoH_app,twoH_len,Op.cl,hnv,n1,hm1,hm2,hm3,hm4,hm5,hr1,hr2,hr3,hr4,hr5,a1,a2,a3,a5,a6,b1,b2,b3,b5,b6,hlv,hbv,q1,q2,q3,q4,hl1,hl2,erO,Option.getD_some,slA_known,slA_noL,slA_Cknown,slA_below,↓slA_len,beq_self_eq_true,List.length_nil,Nat.add_zero,List.nil_append,put,fillP]
 intro c1 _ c2 _ c3 _ c4 _
 refine fin_of (v:=.s (.b true)) (ls:=[]) (h:=twoH H0 a b p q m5 r5 []) rfl ?_ ?_
 ·rw [twoH_x m5 r5]
  exact drop_b (by simp (maxSteps:=9999999) only [EV0,zy,zx,zw,zv,zu,zq,zp,zj,zk,leT,zg,rvC,zZ,zY,zX,zW,↓zV,↓zU,reduceCtorEq,zQ,yz,yY,yy,yx,yw,yv,yu,yq,yX,yj,yk,yg,yW,yV,yU,yZ,yQ,xz]) (hcl _ _) (Nat.le_of_eq (by first | (rw [twoH_len]; rfl) | rw [twoH_len,twoH_len]))
 ·simp (maxSteps:=9999999) only [EV0,zy,zx,zw,zv,zu,zq,zp,zj,zk,leT,zg,rvC,zZ,zY,zX,zW,↓zV,↓zU,reduceCtorEq,zQ,yz,yY,yy,yx,yw,yv,yu,yq,yX,yj,yk,yg,yW,yV,yU,yZ,yQ,xz]
  exact hS
end Go.Proofs.YtcdfofeolgbnbaaGreat

/- Law 11: awake. -/
namespace Go.Proofs.YtcdfofeolgbnbaaGreat
open Go.D
open Nat (reduceAdd reducePow reduceMul reduceSub reduceLeDiff reduceLT reduceEqDiff)
open Int (reduceNeg reduceLE reduceEq reduceNe reduceToNat)
open Go.D renaming istep → zy,pickR → zx,bin1R → zw,un1R → zv,eqS → zu,eq1 → zq,cmpS → zp,cmp1 → zj,isNil → zk,shows → zg,result → zZ,q_cond_t → zV,q_cond_f → zU
open List renaming set → zY,replicate → zX
open Option renaming map → zW
open Nat renaming reduceAdd → zQ,reducePow → yz,reduceMul → yy,reduceSub → yx,reduceLeDiff → yw,reduceLT → yv,reduceEqDiff → yu
open Int renaming reduceNeg → yq,reduceLE → yj,reduceEq → yk,reduceNe → yg,reduceToNat → yZ,reducePow → yY,reduceLT → yX,reduceAdd → yW,reduceSub → yV,reduceMul → yU,reduceBEq → yQ,reduceBNe → xz
set_option linter.all false
set_option maxRecDepth 100000
set_option maxHeartbeats 2000000

def awake11G : List V → List Blk → Res
 | [],h => .ok (.s (.b true)) [] h
 | _,_ => .bad
noncomputable def TAk : Tab:=addT 12 madeG (addT 44 laysG (addT 45 insG (addT 33 lisAG (addT 41 nextG (addT 46 lastG (addT 31 belG (addT 23 remG (addT 47 dscA (addT 48 intsG (noT))))))))))
theorem TAk_snd : TAk.Snd Tryz.prog:=addT_snd ok12 made_snd (addT_snd ok44 lays_snd (addT_snd ok45 ins_snd (addT_snd ok33 lisA_snd (addT_snd ok41 next_snd (addT_snd ok46 last_snd (addT_snd ok31 bel_snd (addT_snd ok23 rem_snd (addT_snd ok47 dscA_snd (addT_snd ok48 ints_snd ((noT_snd _)))))))))))
theorem awake11_snd : Snd Tryz.prog 11 (FSpec.of awake11G):=(fwp_sound (Tab.snd_Γ TAk_snd) mixed Tryz.func11 dc11).weaken fun args h K hc hS => by
 refine fwp_runW (Tab.ok_Γ _) 400 ?_
 have hS : (awake11G args h).spec K:=hS
 unfold awake11G at hS
 split at hS
 ·simp only [spec_ok] at hS
  have hcc : ∀ m r X,(bH h m r X)[h.length + 4]? = _:=fun m r X => bH_c h m r X
  simp (maxSteps:=9999999) only [EV0,zy,zx,zw,zv,zu,zq,zp,zj,zk,leT,zg,rvC,zZ,zY,zX,zW,↓zV,↓zU,reduceCtorEq,zQ,yz,yY,yy,yx,yw,yv,yu,yq,yX,yj,yk,yg,yW,yV,yU,yZ,yQ,xz,df11,TAk,madeG]
  refine loop_rule (α:=Nat × M × M) [0,2,3,21,22,23,24,25,26,27,28,29,30,31,32] (fun z => [(2, .s (.i .i64 (z.1 : Int)))]) (fun _ => []) (fun z => bH h z.2.1 z.2.2 []) (fun z => z.1 ≤ 4 ∧ z.2.2.w = z.2.1.w ∧ W11 z.2.1 [] ∧ (∀ j : Nat,j < z.1 → z.2.1.fE (1024 + 4 * (j : Int)) = 0) ∧ (∀ x,P11 x → (∀ j : Nat,j < z.1 → x ≠ 1024 + 4 * (j : Int)) → z.2.1.gE x = 0 ∧ z.2.1.gV x = slotZ)) (fun z => 4 - z.1) (0,z11,z11) ⟨by omega,rfl,W11.zero,fun j hj => absurd hj (Nat.not_lt_zero _),fun x hx _ => z11_slot hx⟩ ?_ ?_
  ·refine Wk.same rfl rfl ?_
   simp (maxSteps:=9999999) only [EV0,zy,zx,zw,zv,zu,zq,zp,zj,zk,leT,zg,rvC,zZ,zY,zX,zW,↓zV,↓zU,reduceCtorEq,zQ,yz,yY,yy,yx,yw,yv,yu,yq,yX,yj,yk,yg,yW,yV,yU,yZ,yQ,xz,Int.natCast_zero]
  ·rintro X ⟨i,m,r⟩ ⟨hi,hw,W,hf,hz⟩ IH
   simp only at hi hw W hf hz ⊢
   rcases Nat.lt_or_ge i 4 with h1 | h1
   ·obtain ⟨m',r',q1,q2,q3,q4,q5,q6⟩:=aw_lay h1 W hw hf hz
    have d1 : (i : Int) < 4:=by omega
    have d2 : IntKind.i64.wrap ((i : Int) + 1) = ((i + 1 : Nat) : Int):=by rw [wrap64] <;> omega
    have d3 : IntKind.i64.wrap (4 * (i : Int)) = 4 * (i : Int):=by rw [wrap64] <;> omega
    have d4 : IntKind.i64.wrap (1024 + 4 * (i : Int)) = 1024 + 4 * (i : Int):=by rw [wrap64] <;> omega
    have d5 : (-9223372036854775808 ≤ (i : Int) ∧ (i : Int) < 9223372036854775808) = True:=eq_true (by omega)
    have d6 : (-9223372036854775808 : Int) ≤ (i : Int):=by omega
    have d7 : (i : Int) < 9223372036854775808:=by omega
    refine run_sound (Tab.ok_Γ _) 300 _ _ _ _ ?_
    simp (maxSteps:=9999999) only [EV0,zy,zx,zw,zv,zu,zq,zp,zj,zk,leT,zg,rvC,zZ,zY,zX,zW,↓zV,↓zU,reduceCtorEq,zQ,yz,yY,yy,yx,yw,yv,yu,yq,yX,yj,yk,yg,yW,yV,yU,yZ,yQ,xz,TAk,laysG,laysM,bH_fb,q1,q2,d1,d2,d3,d4,d5,d6,d7]
    refine IH (i + 1,m',r') _ (by simp only; omega) ⟨by simp only; omega,q3,q4,q5,q6⟩ ?_
    exact Wk.same rfl rfl (by simp (maxSteps:=9999999) only [EV0,zy,zx,zw,zv,zu,zq,zp,zj,zk,leT,zg,rvC,zZ,zY,zX,zW,↓zV,↓zU,reduceCtorEq,zQ,yz,yY,yy,yx,yw,yv,yu,yq,yX,yj,yk,yg,yW,yV,yU,yZ,yQ,xz])
   ·have e0 : i = 4:=by omega
    subst e0
    clear IH
    have R0 : Rep11 m [] [1024,1028,1032,1036]:=⟨W,fun y hy => (by cases hy),fun x hx => ⟨by
     simp only [List.mem_cons,List.not_mem_nil,or_false] at hx
     rcases hx with rfl | rfl | rfl | rfl
     ·exact hf 0 (by omega)
     ·exact hf 1 (by omega)
     ·exact hf 2 (by omega)
     ·exact hf 3 (by omega),by simp⟩⟩
    obtain ⟨m1,m2,m3,m4,f1,f2,f3,f4,R4⟩:=aw_ins R0
    obtain ⟨a1,a2,_⟩:=aw_ask R4
    obtain ⟨_,_,b1,_⟩:=aw_ask (R4.of_w a2)
    obtain ⟨o5,ho5⟩ : ∃ o,m4.lis.2 = o:=⟨_,rfl⟩
    rw [ho5] at a2 b1
    have w6 : (o5.nxX 1024).w = m4.w:=(nxX_w _ _).trans a2
    obtain ⟨o6,ho6⟩ : ∃ o,o5.nxX 1024 = o:=⟨_,rfl⟩
    rw [ho6] at w6
    obtain ⟨_,_,_,b2,_⟩:=aw_ask (R4.of_w w6)
    have w7 : (o6.dsO 1024).2.w = m4.w:=((R4.of_w w6).w.ds 1024).2.1.trans w6
    obtain ⟨o7,ho7⟩ : ∃ o,(o6.dsO 1024).2 = o:=⟨_,rfl⟩
    rw [ho7] at w7
    obtain ⟨_,_,_,_,b3,_⟩:=aw_ask (R4.of_w w7)
    have w8 : (o7.dsO 1024).2.w = m4.w:=((R4.of_w w7).w.ds 1024).2.1.trans w7
    obtain ⟨o8,ho8⟩ : ∃ o,(o7.dsO 1024).2 = o:=⟨_,rfl⟩
    rw [ho8] at w8
    obtain ⟨_,_,_,_,_,b4⟩:=aw_ask (R4.of_w w8)
    have w9 : (o8.dsO 1036).2.w = m4.w:=((R4.of_w w8).w.ds 1036).2.1.trans w8
    obtain ⟨o9,ho9⟩ : ∃ o,(o8.dsO 1036).2 = o:=⟨_,rfl⟩
    rw [ho9] at w9
    obtain ⟨oA,f5,R5⟩:=aw_rem (R4.of_w w9)
    obtain ⟨g1,g2,g3⟩:=aw_ds R5
    obtain ⟨oB,hoB⟩ : ∃ o,(oA.dsO 1024).2 = o:=⟨_,rfl⟩
    rw [hoB] at g3
    have f6:=aw_no (R5.of_w g3)
    obtain ⟨oC,hoC⟩ : ∃ o,(oB.ins 0 1024).2 = o:=⟨_,rfl⟩
    have i1 : ((4 : Nat) : Int) < 4 ↔ False:=by decide
    obtain ⟨B1,hB1⟩ : ∃ B1 : Nat → Blk,B1 = fun c => ⟨.rw,intsB [1024,1036,1028,1032],c⟩:=⟨_,rfl⟩
    obtain ⟨B2,hB2⟩ : ∃ B2 : Nat → Blk,B2 = fun c => ⟨.rw,intsB [1036,1032],c⟩:=⟨_,rfl⟩
    have hb1 : ∀ c : Nat,(⟨.rw,intsB [1024,1036,1028,1032],c⟩ : Blk) = B1 c:=fun c => by rw [hB1]
    have hb2 : ∀ c : Nat,(⟨.rw,intsB [1036,1032],c⟩ : Blk) = B2 c:=fun c => by rw [hB2]
    have hA1 : ∀ (c : Nat) (Y : List Blk),arrOf In.c (bH h oC r (B1 c :: Y)) (.sl (.g (h.length + 5)) 0 4 c) = some [1024,1036,1028,1032]:=fun c Y => intsOf_at (l:=[1024,1036,1028,1032]) (room:=c) (by rw [hB1]; exact bH_x _ _ _ _ _)
    have hA2 : ∀ (X1 X2 : Blk) (Y : List Blk),arrOf In.c (bH h oC r (X1 :: X2 :: ⟨.rw,[.i .i64 1024, .i .i64 1036, .i .i64 1028, .i .i64 1032],4⟩ :: Y)) (.sl (.g (h.length + 5 + 2)) 0 4 4) = some [1024,1036,1028,1032]:=fun X1 X2 Y => intsOf_at (l:=[1024,1036,1028,1032]) (room:=4) (bH_y h oC r [X1,X2] _ Y)
    have hA3 : ∀ (X1 : Blk) (c : Nat) (Y : List Blk),arrOf In.c (bH h oC r (X1 :: B2 c :: Y)) (.sl (.g (h.length + 5 + 1)) 0 2 c) = some [1036,1032]:=fun X1 c Y => intsOf_at (l:=[1036,1032]) (room:=c) (by rw [hB2]; exact bH_y h oC r [X1] _ Y)
    have hA4 : ∀ (X1 X2 X3 : Blk) (Y : List Blk),arrOf In.c (bH h oC r (X1 :: X2 :: X3 :: ⟨.rw,[.i .i64 1036, .i .i64 1032],2⟩ :: Y)) (.sl (.g (h.length + 5 + 3)) 0 2 2) = some [1036,1032]:=fun X1 X2 X3 Y => intsOf_at (l:=[1036,1032]) (room:=2) (bH_y h oC r [X1,X2,X3] _ Y)
    have ht1 : ∀ (X1 X2 : Blk) (Y : List Blk),(bH h oC r (X1 :: X2 :: Y)).take (h.length + 5 + 2) = bH h oC r [X1,X2]:=fun X1 X2 Y => bH_take h oC r [X1,X2] Y
    have ht2 : ∀ (X1 X2 : Blk) (Y : List Blk),(bH h oC r (X1 :: X2 :: Y)).drop (h.length + 5 + 2) = Y:=fun X1 X2 Y => bH_drop h oC r [X1,X2] Y
    have hcl : ∀ c1 c2 : Nat,clean (h.length + 5 + 2) (bH h oC r [B1 c1,B2 c2]) = true:=fun c1 c2 => by
     have:=bH_clean hc oC r (X:=[B1 c1,B2 c2]) (by rw [hB1,hB2]; rfl)
     rwa [bH_len] at this
    have hn1 : h.length ≤ h.length + 5 + 2:=by omega
    refine run_sound (Tab.ok_Γ _) 400 _ _ _ _ ?_
    simp (maxSteps:=9999999) only [EV0,zy,zx,zw,zv,zu,zq,zp,zj,zk,leT,zg,rvC,zZ,zY,zX,zW,↓zV,↓zU,reduceCtorEq,zQ,yz,yY,yy,yx,yw,yv,yu,yq,yX,yj,yk,yg,yW,yV,yU,yZ,yQ,xz,TAk,bH_fm,bH_app,bH_len,hcc,insG,insM,lisAG,lisAM,lisA,nextG,nextM,lastG,lastM,belG,belM,remG,remM,dscA,dscAM,f1,f2,f3,f4,a1,ho5,erO,b1,ho6,b2,ho7,b3,ho8,b4,ho9,f5,g1,g2,hoB,f6,hoC,slA,bkA,hb1,hb2,i1,Option.getD_some,put,fillP,intsG,hA1,hA2,hA3,hA4,ht1,ht2,hcl,R.lend,R.unlend,S_ren,C.ren,V.ren,Blk.ren,Nat.add_sub_cancel_left,Nat.not_lt,Nat.le_add_right,Nat.add_lt_add_iff_left]
    intro c1 _ c2 _
    refine fin_of (v:=.s (.b true)) (ls:=[]) (h:=h) rfl ?_ ?_
    ·exact drop_b (by simp (maxSteps:=9999999) only [EV0,zy,zx,zw,zv,zu,zq,zp,zj,zk,leT,zg,rvC,zZ,zY,zX,zW,↓zV,↓zU,reduceCtorEq,zQ,yz,yY,yy,yx,yw,yv,yu,yq,yX,yj,yk,yg,yW,yV,yU,yZ,yQ,xz]) hc (Nat.le_refl _)
    ·simp (maxSteps:=9999999) only [EV0,zy,zx,zw,zv,zu,zq,zp,zj,zk,leT,zg,rvC,zZ,zY,zX,zW,↓zV,↓zU,reduceCtorEq,zQ,yz,yY,yy,yx,yw,yv,yu,yq,yX,yj,yk,yg,yW,yV,yU,yZ,yQ,xz]
     exact hS
 ·exact hS.elim
end Go.Proofs.YtcdfofeolgbnbaaGreat

