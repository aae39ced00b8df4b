/- Package cdt: List. -/
import Derived.Test.YtcdfofeolgbnbaaGreatZ13
import Derived.Test.YtcdfofeolgbnbaaGreatZ25
/- Package cdt: List. -/
namespace Go.Proofs.YtcdfofeolgbnbaaGreat
open Go.D
open Nat (reduceAdd reducePow reduceMul reduceSub reduceLeDiff reduceLT reduceEqDiff)
open Int (reduceNeg reduceLE reduceEq reduceNe reduceToNat)
open Go.D renaming istep → zy,pickR → zx,bin1R → zw,un1R → zv,eqS → zu,eq1 → zq,cmpS → zp,cmp1 → zj,isNil → zk,shows → zg,result → zZ,q_cond_t → zV,q_cond_f → zU
open List renaming set → zY,replicate → zX
open Option renaming map → zW
open Nat renaming reduceAdd → zQ,reducePow → yz,reduceMul → yy,reduceSub → yx,reduceLeDiff → yw,reduceLT → yv,reduceEqDiff → yu
open Int renaming reduceNeg → yq,reduceLE → yj,reduceEq → yk,reduceNe → yg,reduceToNat → yZ,reducePow → yY,reduceLT → yX,reduceAdd → yW,reduceSub → yV,reduceMul → yU,reduceBEq → yQ,reduceBNe → xz
set_option linter.all false
set_option maxRecDepth 100000
set_option maxHeartbeats 8000000

def lisM (b : Nat) (m : M) (st : M → List Blk) : List V → Res
 | [] => dscR st (dsW (-1) (m.w.length / 4) m.fst m.fstX [])
 | _ => .bad
noncomputable def lisG:=memF lisM
def lLS (A B : S) (l : List Int) (c : Nat) : List Blk :=
 match l with
 | [] => [⟨.rw,[A],1⟩,⟨.rw,[B],1⟩,⟨.rw,[.ns],1⟩]
 | x :: l => [⟨.rw,[A],1⟩,⟨.rw,[B],1⟩,⟨.rw,[.sl (.l 3) 0 (l.length + 1) c],1⟩,⟨.rw,intsB (x :: l),c⟩]
def lT (a n : Nat) : List V:=[.s (.p (.g a) 0), .s .u, .s (.p (.l 0) 0), .s (.p (.l 1) 0), .s (.p (.l 2) 0), .s .u, .s .u, .s .u, .s .u,
 .s (.fn 160 [(.g n,0),(.g (n + 1),0)]), .s .u, .s .u, .s .u, .s .u, .s .u, .s .u, .s .u, .s .u, .s .u]
noncomputable def TLi : Tab:=addT 100 firstG (addT 99 behG (noT))
theorem TLi_snd : TLi.Snd Tryz.prog:=addT_snd ok100 first_snd (addT_snd ok99 beh_snd ((noT_snd _)))
section
variable {asg body : DC} {a n : Nat} {s : Slot} {l : List Int} {c : Nat} {x : Int} {h : List Blk}
theorem lis_r0 (hab : findRf df33.body = some (asg,body)) : RM (rndOf TLi.Γ [10,11] asg body) [.s (.i .i64 0), .agg slotZ.cl] (lT a n,lLS .ns (.i .i64 0) l c) h fun p u' h' => p = some .ret ∧ u' = (lT a n,lLS .ns (.i .i64 110) l c) ∧ h' = h:=by
 intro K' hK
 cases hab
 refine rnd_rule2 (Tab.ok_Γ _) 60 0 ?_
 cases l with
 | nil =>
  simp (maxSteps:=9999999) only [EV0,zy,zx,zw,zv,zu,zq,zp,zj,zk,leT,zg,rvC,zZ,zY,zX,zW,↓zV,↓zU,reduceCtorEq,zQ,yz,yY,yy,yx,yw,yv,yu,yq,yX,yj,yk,yg,yW,yV,yU,yZ,yQ,xz,TLi,lT,lLS,bindT,slotZ,capZ,Slot.cl,Cap.cl,put,fillP,sub,EVt]
  refine run_sound (Tab.ok_Γ _) 60 _ _ _ _ ?_
  simp (maxSteps:=9999999) only [EV0,zy,zx,zw,zv,zu,zq,zp,zj,zk,leT,zg,rvC,zZ,zY,zX,zW,↓zV,↓zU,reduceCtorEq,zQ,yz,yY,yy,yx,yw,yv,yu,yq,yX,yj,yk,yg,yW,yV,yU,yZ,yQ,xz,TLi,put,fillP,sub,EVt]
  exact rndE_mk ⟨lT a n,lLS .ns (.i .i64 110) [] c,h⟩ (Wk.keep 3 rfl rfl (by simp (maxSteps:=9999999) only [EV0,zy,zx,zw,zv,zu,zq,zp,zj,zk,leT,zg,rvC,zZ,zY,zX,zW,↓zV,↓zU,reduceCtorEq,zQ,yz,yY,yy,yx,yw,yv,yu,yq,yX,yj,yk,yg,yW,yV,yU,yZ,yQ,xz,lT]) (by rfl) (by rfl)) rfl (hK _ _ _ ⟨rfl,rfl,rfl⟩)
 | cons y l =>
  have hb:=(intsB_is (y :: l)).be
  simp (maxSteps:=9999999) only [EV0,zy,zx,zw,zv,zu,zq,zp,zj,zk,leT,zg,rvC,zZ,zY,zX,zW,↓zV,↓zU,reduceCtorEq,zQ,yz,yY,yy,yx,yw,yv,yu,yq,yX,yj,yk,yg,yW,yV,yU,yZ,yQ,xz,TLi,lT,lLS,bindT,slotZ,capZ,Slot.cl,Cap.cl,put,fillP,sub,EVt]
  refine run_sound (Tab.ok_Γ _) 60 _ _ _ _ ?_
  simp (maxSteps:=9999999) only [EV0,zy,zx,zw,zv,zu,zq,zp,zj,zk,leT,zg,rvC,zZ,zY,zX,zW,↓zV,↓zU,reduceCtorEq,zQ,yz,yY,yy,yx,yw,yv,yu,yq,yX,yj,yk,yg,yW,yV,yU,yZ,yQ,xz,TLi,put,fillP,sub,EVt]
  exact ⟨⟨lT a n,lLS .ns (.i .i64 110) (y :: l) c,h⟩,Wk.keep 4 rfl rfl (by simp (maxSteps:=9999999) only [EV0,zy,zx,zw,zv,zu,zq,zp,zj,zk,leT,zg,rvC,zZ,zY,zX,zW,↓zV,↓zU,reduceCtorEq,zQ,yz,yY,yy,yx,yw,yv,yu,yq,yX,yj,yk,yg,yW,yV,yU,yZ,yQ,xz,lT]) (by rfl) (by simp [lLS,S.below,R.below,hb]),rfl,hK _ _ _ ⟨rfl,rfl,rfl⟩⟩
theorem lis_r2 (hab : findRf df33.body = some (asg,body)) (hc : clean h.length h = true) (h0 : x ≠ 0) (hl : l.length ≤ 1000000000000) (han : a < h.length ∧ n < h.length ∧ n + 1 < h.length) : RM (rndOf TLi.Γ [10,11] asg body) [.s (.i .i64 x), .agg s.cl] (lT a n,lLS .ns (.i .i64 0) l c) h fun p u' h' => p = none ∧ (∃ c',l.length + 1 ≤ c' ∧ u' = (lT a n,lLS .ns (.i .i64 0) (l ++ [x]) c')) ∧ h' = h:=by
 intro K' hK
 cases hab
 refine rnd_rule2 (Tab.ok_Γ _) 60 0 ?_
 obtain ⟨⟨d0,d1,d2,d3,d4,d5,d6,d7,d8,d9,d10⟩,p1,q1,r1⟩:=s
 have h0' : (x == 0) = false:=by simpa using h0
 have hnq : h.length ≤ h.length:=Nat.le_refl _
 have hcq:=hc
 cases l with
 | nil =>
  simp (maxSteps:=9999999) only [EV0,zy,zx,zw,zv,zu,zq,zp,zj,zk,leT,zg,rvC,zZ,zY,zX,zW,↓zV,↓zU,reduceCtorEq,zQ,yz,yY,yy,yx,yw,yv,yu,yq,yX,yj,yk,yg,yW,yV,yU,yZ,yQ,xz,TLi,lT,lLS,bindT,Slot.cl,Cap.cl,h0,h0',put,fillP,sub,EVt]
  refine run_sound (Tab.ok_Γ _) 60 _ _ _ _ ?_
  simp (maxSteps:=9999999) only [EV0,zy,zx,zw,zv,zu,zq,zp,zj,zk,leT,zg,rvC,zZ,zY,zX,zW,↓zV,↓zU,reduceCtorEq,zQ,yz,yY,yy,yx,yw,yv,yu,yq,yX,yj,yk,yg,yW,yV,yU,yZ,yQ,xz,TLi,h0,h0',put,fillP,sub,EVt]
  intro c1 hle1
  have hw1 : (1 : Nat) ≤ 1:=Nat.le_refl _
  refine rndE_mk ⟨lT a n,lLS .ns (.i .i64 0) [x] c1,h⟩ ?_ rfl (hK _ _ _ ⟨rfl,⟨c1,by simpa using hle1,rfl⟩,rfl⟩)
  simp only [lT,lLS,intsB,List.map_cons,List.map_nil,List.length_nil,Nat.zero_add,Nat.mul_one]
  refine Wk.sel [0,1,2,4] (by decide) hnq ?_ ?_ ?_ ?_ hcq (clean_pick hcq _)
  ·simp (maxSteps:=9999999) only [EV0,zy,zx,zw,zv,zu,zq,zp,zj,zk,leT,zg,rvC,zZ,zY,zX,zW,↓zV,↓zU,reduceCtorEq,zQ,yz,yY,yy,yx,yw,yv,yu,yq,yX,yj,yk,yg,yW,yV,yU,yZ,yQ,xz,List.nil_append,Blk.ren,V.ren,C.ren,S_ren,wc_ren,R.pick_g,R.pick_0,R.pick_s,List.map_append,wc_cons,wc_snoc,wc_nil,Nat.mul_one,han]
  ·simp (maxSteps:=9999999) only [EV0,zy,zx,zw,zv,zu,zq,zp,zj,zk,leT,zg,rvC,zZ,zY,zX,zW,↓zV,↓zU,reduceCtorEq,zQ,yz,yY,yy,yx,yw,yv,yu,yq,yX,yj,yk,yg,yW,yV,yU,yZ,yQ,xz,List.nil_append,Blk.ren,V.ren,C.ren,S_ren,wc_ren,R.pick_g,R.pick_0,R.pick_s,Nat.mul_one,han]
  ·simp (maxSteps:=9999999) only [EV0,zy,zx,zw,zv,zu,zq,zp,zj,zk,leT,zg,rvC,zZ,zY,zX,zW,↓zV,↓zU,reduceCtorEq,zQ,yz,yY,yy,yx,yw,yv,yu,yq,yX,yj,yk,yg,yW,yV,yU,yZ,yQ,xz,List.nil_append,app_len,nlt0,nltn,reduceLT,Nat.le_add_right,Nat.mul_one,han]
  ·simp (maxSteps:=9999999) only [EV0,zy,zx,zw,zv,zu,zq,zp,zj,zk,leT,zg,rvC,zZ,zY,zX,zW,↓zV,↓zU,reduceCtorEq,zQ,yz,yY,yy,yx,yw,yv,yu,yq,yX,yj,yk,yg,yW,yV,yU,yZ,yQ,xz,List.nil_append,app_len,nlt0,nltn,reduceLT,Nat.le_add_right,vals_cons,vals_nil,wc_val,wc_vals,Nat.mul_one,han]
 | cons y l =>
  obtain ⟨B,hB⟩ : ∃ B,intsB (y :: l) = B:=⟨_,rfl⟩
  obtain ⟨b1,b2,b3,b4,b5,b6⟩:=intsB_is (y :: l)
  rw [hB] at b1 b2 b3 b4 b5 b6
  simp (maxSteps:=9999999) only [EV0,zy,zx,zw,zv,zu,zq,zp,zj,zk,leT,zg,rvC,zZ,zY,zX,zW,↓zV,↓zU,reduceCtorEq,zQ,yz,yY,yy,yx,yw,yv,yu,yq,yX,yj,yk,yg,yW,yV,yU,yZ,yQ,xz,TLi,lT,lLS,hB,bindT,Slot.cl,Cap.cl,h0,h0',put,fillP,sub,EVt]
  refine run_sound (Tab.ok_Γ _) 60 _ _ _ _ ?_
  simp (maxSteps:=9999999) only [EV0,zy,zx,zw,zv,zu,zq,zp,zj,zk,leT,zg,rvC,zZ,zY,zX,zW,↓zV,↓zU,reduceCtorEq,zQ,yz,yY,yy,yx,yw,yv,yu,yq,yX,yj,yk,yg,yW,yV,yU,yZ,yQ,xz,TLi,h0,h0',b1,b2,b3,b4,put,fillP,sub,EVt]
  refine ⟨by simp only [List.length_cons] at hl; omega,fun c1 hle1 => ?_⟩
  refine rndE_mk ⟨lT a n,lLS .ns (.i .i64 0) (y :: l ++ [x]) c1,h⟩ ?_ rfl (hK _ _ _ ⟨rfl,⟨c1,by simp only [List.length_cons] at hle1 ⊢; omega,rfl⟩,rfl⟩)
  have hB2 : intsB (y :: (l ++ [x])) = B ++ [.i .i64 x]:=by rw [← hB,intsB_app]; rfl
  have hl2 : (l ++ [x]).length + 1 = l.length + 1 + 1:=by simp
  simp only [lT,lLS,List.cons_append,hB2,hl2,Nat.mul_one]
  have hb3 : ∀ a b,B.all (S.val a b) = true:=fun u v => by have:=b3 u v; simpa only [vals] using this
  refine Wk.sel [0,1,2,5] (by decide) hnq ?_ ?_ ?_ ?_ hcq (clean_pick hcq _)
  ·simp (maxSteps:=9999999) only [EV0,zy,zx,zw,zv,zu,zq,zp,zj,zk,leT,zg,rvC,zZ,zY,zX,zW,↓zV,↓zU,reduceCtorEq,zQ,yz,yY,yy,yx,yw,yv,yu,yq,yX,yj,yk,yg,yW,yV,yU,yZ,yQ,xz,List.nil_append,Blk.ren,V.ren,C.ren,S_ren,wc_ren,R.pick_g,R.pick_0,R.pick_s,List.map_append,wc_cons,wc_snoc,wc_nil,Nat.mul_one,han,hb3,b5,List.map_append,List.map_cons,List.map_nil,vals,List.all_append]
  ·simp (maxSteps:=9999999) only [EV0,zy,zx,zw,zv,zu,zq,zp,zj,zk,leT,zg,rvC,zZ,zY,zX,zW,↓zV,↓zU,reduceCtorEq,zQ,yz,yY,yy,yx,yw,yv,yu,yq,yX,yj,yk,yg,yW,yV,yU,yZ,yQ,xz,List.nil_append,Blk.ren,V.ren,C.ren,S_ren,wc_ren,R.pick_g,R.pick_0,R.pick_s,Nat.mul_one,han,hb3,b5,List.map_append,List.map_cons,List.map_nil,vals,List.all_append]
  ·simp (maxSteps:=9999999) only [EV0,zy,zx,zw,zv,zu,zq,zp,zj,zk,leT,zg,rvC,zZ,zY,zX,zW,↓zV,↓zU,reduceCtorEq,zQ,yz,yY,yy,yx,yw,yv,yu,yq,yX,yj,yk,yg,yW,yV,yU,yZ,yQ,xz,List.nil_append,app_len,nlt0,nltn,reduceLT,Nat.le_add_right,Nat.mul_one,han,hb3,b5,List.map_append,List.map_cons,List.map_nil,vals,List.all_append]
  ·simp (maxSteps:=9999999) only [EV0,zy,zx,zw,zv,zu,zq,zp,zj,zk,leT,zg,rvC,zZ,zY,zX,zW,↓zV,↓zU,reduceCtorEq,zQ,yz,yY,yy,yx,yw,yv,yu,yq,yX,yj,yk,yg,yW,yV,yU,yZ,yQ,xz,List.nil_append,app_len,nlt0,nltn,reduceLT,Nat.le_add_right,vals_cons,vals_nil,wc_val,wc_vals,Nat.mul_one,han,hb3,b5,List.map_append,List.map_cons,List.map_nil,vals,List.all_append]
end
theorem gV_dep (m : M) (x : Int) : ¬ (m.gV x).depth ≤ -1:=by
 have h3:=(slotRB_iff (m.gV_u x)).2.2.2
 omega
theorem lis_bw {asg body : DC} {a b : Nat} {h : List Blk} {m0 : M} {K : Option Ex → U → List Blk → Prop} (hab : findRf df33.body = some (asg,body)) (H : IsMem h a b m0) (hc : clean h.length h = true) (hb : b < h.length) :
  ∀ (k : Nat) (x : Int) (m : M) (l : List Int) (c : Nat),l.length + k ≤ 1000000000000 → l.length ≤ c →
   (∀ l' m2 p c' x',dsW (-1) k x m l = (some l',m2) → l'.length ≤ c' → (p = none ∨ p = some (.ext 0)) → K p (lT a h.length,lLS .ns (.i .i64 0) l' c') (bhH h a b m2 x')) →
   (∀ m2 l' c' x',dsW (-1) k x m l = (none,m2) → K (some .ret) (lT a h.length,lLS .ns (.i .i64 110) l' c') (bhH h a b m2 x')) →
   bw (bhH h a b) (rndOf TLi.Γ [10,11] asg body) K k x m (lT a h.length,lLS .ns (.i .i64 0) l c)
 | 0,x,m,l,c,_,hlc,k1,k2 => by
  simp only [dsW,bw] at k1 k2 ⊢
  by_cases h0 : x = 0
  ·rw [if_pos h0] at k1 ⊢
   exact k1 _ _ _ _ _ rfl hlc (.inl rfl)
  ·rw [if_neg h0] at k2 ⊢
   intro K' hK
   refine lis_r0 hab _ fun p u' h' hh => ?_
   obtain ⟨rfl,rfl,rfl⟩:=hh
   exact hK _ _ _ (k2 _ _ _ _ rfl)
 | k + 1,x,m,l,c,hl,hlc,k1,k2 => by
  simp only [dsW,bw] at k1 k2 ⊢
  by_cases h0 : x = 0
  ·rw [if_pos h0] at k1 ⊢
   exact k1 _ _ _ _ _ rfl hlc (.inl rfl)
  ·rw [if_neg h0] at k1 k2 ⊢
   by_cases hf : m.fE x = 0
   ·rw [if_pos hf] at k1 k2 ⊢
    rw [if_neg (gV_dep m x)] at k1 k2
    intro K' hK
    have hln:=bhH_len (h:=h) (a:=a) (b:=b) (m.gX x) x
    have ha:=H.lta
    refine lis_r2 hab (bhH_clean H hc hb _ _) h0 (by omega) ⟨by omega,by omega,by omega⟩ _ fun p u' h' hh => ?_
    obtain ⟨rfl,⟨c',hc',rfl⟩,rfl⟩:=hh
    refine hK _ _ _ ⟨rfl, ?_⟩
    exact lis_bw hab H hc hb k _ _ _ _ (by simp only [List.length_append,List.length_cons,List.length_nil]; omega) (by simp only [List.length_append,List.length_cons,List.length_nil]; omega) k1 k2
   ·rw [if_neg hf] at k1 k2 ⊢
    intro K' hK
    refine lis_r0 hab _ fun p u' h' hh => ?_
    obtain ⟨rfl,rfl,rfl⟩:=hh
    exact hK _ _ _ (k2 _ _ _ _ rfl)
theorem lis_snd : Snd Tryz.prog 33 (FSpec.of lisG):=(fwp_sound (Tab.snd_Γ TLi_snd) mixed Tryz.func33 dc33).weaken fun args h K hc hS => by
 refine fwp_runW (Tab.ok_Γ _) 200 ?_
 obtain ⟨a,b,m,rest,rfl,H,hS1⟩:=memF_spec (f:=lisM) hS
 clear hS
 have hS:=hS1
 clear hS1
 unfold lisM at hS
 split at hS
 ·simp (maxSteps:=9999999) only [EV0,zy,zx,zw,zv,zu,zq,zp,zj,zk,leT,zg,rvC,zZ,zY,zX,zW,↓zV,↓zU,reduceCtorEq,zQ,yz,yY,yy,yx,yw,yv,yu,yq,yX,yj,yk,yg,yW,yV,yU,yZ,yQ,xz,df33,TLi,firstG,firstM,memF_eq H,memF_set H,behG,setM_len,put,fillP,sub,EVt]
  refine more_wk (t':=lT a h.length) (ls':=lLS .ns (.i .i64 0) [] 0) (h':=bhH h a b m.fstX m.fst) (Wk.same (by rfl) (by rfl) (by simp (maxSteps:=9999999) only [EV0,zy,zx,zw,zv,zu,zq,zp,zj,zk,leT,zg,rvC,zZ,zY,zX,zW,↓zV,↓zU,reduceCtorEq,zQ,yz,yY,yy,yx,yw,yv,yu,yq,yX,yj,yk,yg,yW,yV,yU,yZ,yQ,xz,lT])) ?_
  refine rf_rule (cs:=[(.g h.length,0),(.g (h.length + 1),0)]) rfl rfl rfl rfl ?_
  refine behind1_is (m:=m.fstX) H ?_
  have hl0 : m.fstX.w.length / 4 = m.w.length / 4:=by first | rfl | (unfold M.fstX; split <;> rfl)
  rw [hl0]
  have hml:=m.l
  obtain ⟨N,hN⟩ : ∃ N,m.w.length / 4 = N:=⟨_,rfl⟩
  rw [hN] at hS ⊢
  have key : ∀ l' m2 c' x',dsW (-1) N m.fst m.fstX [] = (some l',m2) → l'.length ≤ c' → swp TLi.Γ h.length (fin h.length [.c 2 none, .c 3 none] K) [.c (.seq (.reg [⟨some 18, .ld (.t 4) none,none⟩,⟨none, .st (.t 2) (.t 18) 1,none⟩,⟨none, .st (.t 3) (.k (.s (.i .i64 0))) 1,none⟩]) .ret)] ⟨lT a h.length,lLS .ns (.i .i64 0) l' c',bhH h a b m2 x'⟩:=fun l' m2 c' x' e hlc => by
   rw [e] at hS
   refine run_sound (Tab.ok_Γ _) 60 _ _ _ _ ?_
   have hcb:=bhH_clean H hc H.ltb m2 x'
   have hcm : clean h.length (setM h a b m2) = true:=setM_clean H hc H.ltb
   have hnb : h.length ≤ (bhH h a b m2 x').length:=by rw [bhH_len]; omega
   have hlm : (setM h a b m2).length = h.length:=setM_len
   cases l' with
   | nil =>
    simp only [dscR,spec_ok] at hS
    simp (maxSteps:=9999999) only [EV0,zy,zx,zw,zv,zu,zq,zp,zj,zk,leT,zg,rvC,zZ,zY,zX,zW,↓zV,↓zU,reduceCtorEq,zQ,yz,yY,yy,yx,yw,yv,yu,yq,yX,yj,yk,yg,yW,yV,yU,yZ,yQ,xz,lT,lLS,put,fillP,sub,EVt]
    refine fin_of (v:=.tup [.s .ns, .s (.i .i64 0)]) (ls:=[]) (h:=setM h a b m2) rfl (.trans (Wk.keep 0 (ls:=[]) (t':=[.tup [.s .ns, .s (.i .i64 0)]]) rfl rfl (by simp (maxSteps:=9999999) only [EV0,zy,zx,zw,zv,zu,zq,zp,zj,zk,leT,zg,rvC,zZ,zY,zX,zW,↓zV,↓zU,reduceCtorEq,zQ,yz,yY,yy,yx,yw,yv,yu,yq,yX,yj,yk,yg,yW,yV,yU,yZ,yQ,xz]) (by rfl) (by rfl)) (Wk.keepH h.length (by unfold bhH; rw [← hlm,List.take_left']; rfl) (Nat.le_of_eq hlm.symm) (by simp (maxSteps:=9999999) only [EV0,zy,zx,zw,zv,zu,zq,zp,zj,zk,leT,zg,rvC,zZ,zY,zX,zW,↓zV,↓zU,reduceCtorEq,zQ,yz,yY,yy,yx,yw,yv,yu,yq,yX,yj,yk,yg,yW,yV,yU,yZ,yQ,xz]) (by rfl) (by rw [hlm]; exact hcm) (by rfl))) ?_
    simp (maxSteps:=9999999) only [EV0,zy,zx,zw,zv,zu,zq,zp,zj,zk,leT,zg,rvC,zZ,zY,zX,zW,↓zV,↓zU,reduceCtorEq,zQ,yz,yY,yy,yx,yw,yv,yu,yq,yX,yj,yk,yg,yW,yV,yU,yZ,yQ,xz]
    exact hS
   | cons y l' =>
    simp only [dscR,spec_all] at hS
    obtain ⟨B,hB⟩ : ∃ B,intsB (y :: l') = B:=⟨_,rfl⟩
    obtain ⟨b1,b2,b3,b4,b5,b6⟩:=intsB_is (y :: l')
    rw [hB] at b1 b2 b3 b4 b5 b6 hS
    have hb3 : ∀ a b,B.all (S.val a b) = true:=fun u v => by have:=b3 u v; simpa only [vals] using this
    have hcq:=hcb
    have hnq:=hnb
    simp (maxSteps:=9999999) only [EV0,zy,zx,zw,zv,zu,zq,zp,zj,zk,leT,zg,rvC,zZ,zY,zX,zW,↓zV,↓zU,reduceCtorEq,zQ,yz,yY,yy,yx,yw,yv,yu,yq,yX,yj,yk,yg,yW,yV,yU,yZ,yQ,xz,lT,lLS,hB,put,fillP,sub,EVt]
    refine fin_of (v:=.tup [.s (.sl (.l 0) 0 (l'.length + 1) c'), .s (.i .i64 0)]) (ls:=[⟨.rw,B,c'⟩]) (h:=setM h a b m2) rfl (.trans (s1:=⟨[.tup [.s (.sl (.l 0) 0 (l'.length + 1) c'), .s (.i .i64 0)]],[⟨.rw,B,c'⟩],bhH h a b m2 x'⟩) ?_ (Wk.keepH h.length (by unfold bhH; rw [← hlm,List.take_left']; rfl) (Nat.le_of_eq hlm.symm) (by simp (maxSteps:=9999999) only [EV0,zy,zx,zw,zv,zu,zq,zp,zj,zk,leT,zg,rvC,zZ,zY,zX,zW,↓zV,↓zU,reduceCtorEq,zQ,yz,yY,yy,yx,yw,yv,yu,yq,yX,yj,yk,yg,yW,yV,yU,yZ,yQ,xz]) (by rfl) (by rw [hlm]; exact hcm) (by simp (maxSteps:=9999999) only [EV0,zy,zx,zw,zv,zu,zq,zp,zj,zk,leT,zg,rvC,zZ,zY,zX,zW,↓zV,↓zU,reduceCtorEq,zQ,yz,yY,yy,yx,yw,yv,yu,yq,yX,yj,yk,yg,yW,yV,yU,yZ,yQ,xz,hb3]))) ?_
    ·refine Wk.sel [3] (by decide) hnq ?_ ?_ ?_ ?_ hcq (clean_pick hcq _)
     ·simp (maxSteps:=9999999) only [EV0,zy,zx,zw,zv,zu,zq,zp,zj,zk,leT,zg,rvC,zZ,zY,zX,zW,↓zV,↓zU,reduceCtorEq,zQ,yz,yY,yy,yx,yw,yv,yu,yq,yX,yj,yk,yg,yW,yV,yU,yZ,yQ,xz,List.nil_append,Blk.ren,V.ren,C.ren,S_ren,wc_ren,R.pick_g,R.pick_0,R.pick_s,List.map_append,wc_cons,wc_snoc,wc_nil,hb3,b5,result]
     ·simp (maxSteps:=9999999) only [EV0,zy,zx,zw,zv,zu,zq,zp,zj,zk,leT,zg,rvC,zZ,zY,zX,zW,↓zV,↓zU,reduceCtorEq,zQ,yz,yY,yy,yx,yw,yv,yu,yq,yX,yj,yk,yg,yW,yV,yU,yZ,yQ,xz,List.nil_append,Blk.ren,V.ren,C.ren,S_ren,wc_ren,R.pick_g,R.pick_0,R.pick_s,hb3,b5,result]
     ·simp (maxSteps:=9999999) only [EV0,zy,zx,zw,zv,zu,zq,zp,zj,zk,leT,zg,rvC,zZ,zY,zX,zW,↓zV,↓zU,reduceCtorEq,zQ,yz,yY,yy,yx,yw,yv,yu,yq,yX,yj,yk,yg,yW,yV,yU,yZ,yQ,xz,List.nil_append,app_len,nlt0,nltn,reduceLT,Nat.le_add_right,hb3,b5,result]
     ·simp (maxSteps:=9999999) only [EV0,zy,zx,zw,zv,zu,zq,zp,zj,zk,leT,zg,rvC,zZ,zY,zX,zW,↓zV,↓zU,reduceCtorEq,zQ,yz,yY,yy,yx,yw,yv,yu,yq,yX,yj,yk,yg,yW,yV,yU,yZ,yQ,xz,List.nil_append,app_len,nlt0,nltn,reduceLT,Nat.le_add_right,vals_cons,vals_nil,wc_val,wc_vals,hb3,b5,result]
    ·simp (maxSteps:=9999999) only [EV0,zy,zx,zw,zv,zu,zq,zp,zj,zk,leT,zg,rvC,zZ,zY,zX,zW,↓zV,↓zU,reduceCtorEq,zQ,yz,yY,yy,yx,yw,yv,yu,yq,yX,yj,yk,yg,yW,yV,yU,yZ,yQ,xz]
     refine ⟨[0],by simp,rfl, ?_⟩
     simp only [getAll,List.getElem?_cons_zero]
     refine ⟨?_, ?_⟩
     ·have hk:=intsB_kept [0] (y :: l')
      rw [hB] at hk
      simp only [List.all_cons,List.all_nil,hk,decide_true,Bool.and_true]
     ·refine cast ?_ (hS c' (by simpa using hlc))
      simp only [V.ren,C.ren,S.ren,R.prom,List.map_cons,List.map_nil,Blk.ren,b5,spec_ok,hlm,List.idxOf,List.findIdx,List.findIdx.go,beq_self_eq_true,cond_true,Nat.add_zero,setM_len]
  refine lis_bw rfl H hc H.ltb _ _ _ _ 0 (by simp only [List.length_nil]; omega) (Nat.le_refl _) ?_ ?_
  ·intro l' m2 p c' x' e hlc hp
   rcases hp with rfl | rfl
   ·simp only [Option.getD_none]
    unfold swp
    exact key _ _ _ _ e hlc
   ·simp only [Option.getD_some,swx,if_true]
    exact key _ _ _ _ e hlc
  ·intro m2 l' c' x' e
   simp only [Option.getD_some]
   rw [e] at hS
   simp only [dscR,spec_ok] at hS
   have hcm : clean h.length (setM h a b m2) = true:=setM_clean H hc H.ltb
   have hlm : (setM h a b m2).length = h.length:=setM_len
   cases l'
   all_goals
    refine fin_of (v:=.tup [.s .ns, .s (.i .i64 110)]) (ls:=[]) (h:=setM h a b m2) rfl (.trans (Wk.keep 0 (ls:=[]) (t':=[.tup [.s .ns, .s (.i .i64 110)]]) rfl rfl (by simp (maxSteps:=9999999) only [EV0,zy,zx,zw,zv,zu,zq,zp,zj,zk,leT,zg,rvC,zZ,zY,zX,zW,↓zV,↓zU,reduceCtorEq,zQ,yz,yY,yy,yx,yw,yv,yu,yq,yX,yj,yk,yg,yW,yV,yU,yZ,yQ,xz]) (by rfl) (by rfl)) (Wk.keepH h.length (by unfold bhH; rw [← hlm,List.take_left']; rfl) (Nat.le_of_eq hlm.symm) (by simp (maxSteps:=9999999) only [EV0,zy,zx,zw,zv,zu,zq,zp,zj,zk,leT,zg,rvC,zZ,zY,zX,zW,↓zV,↓zU,reduceCtorEq,zQ,yz,yY,yy,yx,yw,yv,yu,yq,yX,yj,yk,yg,yW,yV,yU,yZ,yQ,xz]) (by rfl) (by rw [hlm]; exact hcm) (by rfl))) ?_
    simp (maxSteps:=9999999) only [EV0,zy,zx,zw,zv,zu,zq,zp,zj,zk,leT,zg,rvC,zZ,zY,zX,zW,↓zV,↓zU,reduceCtorEq,zQ,yz,yY,yy,yx,yw,yv,yu,yq,yX,yj,yk,yg,yW,yV,yU,yZ,yQ,xz]
    exact hS
 ·exact hS.elim
end Go.Proofs.YtcdfofeolgbnbaaGreat

