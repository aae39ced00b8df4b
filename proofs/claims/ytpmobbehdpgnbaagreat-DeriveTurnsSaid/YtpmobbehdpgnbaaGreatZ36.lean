/- DeriveTurns: for every input the law's Go function answers true,and its arguments read behind the call as before. No conditions. -/
import Derived.Test.YtpmobbehdpgnbaaGreatZ13
import Derived.Test.YtpmobbehdpgnbaaGreatZ35
import Derived.Test.YtpmobbehdpgnbaaGreatZ31
import Derived.Test.YtpmobbehdpgnbaaGreatZ34
/- Package cdt: Descendants,the walk. -/
namespace Go.Proofs.YtpmobbehdpgnbaaGreat
open Go.D
open Nat (reduceAdd reducePow reduceMul reduceSub reduceLeDiff reduceLT reduceEqDiff)
open Int (reduceNeg reduceLE reduceEq reduceNe reduceToNat)
open Go.D renaming istep → zy,pickR → zx,bin1R → zw,un1R → zv,eqS → zu,eq1 → zq,cmpS → zp,cmp1 → zj,isNil → zk,shows → zg,result → zZ,q_cond_t → zV,q_cond_f → zU
open List renaming set → zY,replicate → zX
open Option renaming map → zW
open Nat renaming reduceAdd → zQ,reducePow → yz,reduceMul → yy,reduceSub → yx,reduceLeDiff → yw,reduceLT → yv,reduceEqDiff → yu
open Int renaming reduceNeg → yq,reduceLE → yj,reduceEq → yk,reduceNe → yg,reduceToNat → yZ,reducePow → yY,reduceLT → yX,reduceAdd → yW,reduceSub → yV,reduceMul → yU,reduceBEq → yQ,reduceBNe → xz
set_option linter.all false
set_option maxRecDepth 100000
set_option maxHeartbeats 8000000

theorem bhH_clean {h : List Blk} {a b : Nat} {m0 : M} (H : IsMem h a b m0) (hc : clean h.length h = true) (hb : b < h.length) (m : M) (x : Int) : clean (bhH h a b m x).length (bhH h a b m x) = true:=by
  have ha : a < h.length + 2:=bh_lt H
  rw [bhH_len]
  unfold bhH
  refine clean_app (setM_clean H hc hb) (by omega) ?_
  simp [clean,vals,S.val,R.val,ha]
theorem dsc_bw {asg body : DC} {a b : Nat} {own : Slot} {h : List Blk} {m0 : M} {K : Option Ex → U → List Blk → Prop} (hab : findRf df26.body = some (asg,body)) (H : IsMem h a b m0) (hc : clean h.length h = true) (hb : b < h.length) :
    ∀ (k : Nat) (x : Int) (m : M) (l : List Int) (c : Nat),l.length + k ≤ 1000000000000 → l.length ≤ c →
      (∀ l' m2 p c' x',dsW own.depth k x m l = (some l',m2) → l'.length ≤ c' → (p = none ∨ p = some (.ext 0)) → K p (dT a h.length,dLS .ns (.i .i64 0) own l' c') (bhH h a b m2 x')) →
      (∀ m2 l' c' x',dsW own.depth k x m l = (none,m2) → K (some .ret) (dT a h.length,dLS .ns (.i .i64 110) own l' c') (bhH h a b m2 x')) →
      bw (bhH h a b) (rndOf TDs.Γ [24,25] asg body) K k x m (dT a h.length,dLS .ns (.i .i64 0) own l c)
  | 0,x,m,l,c,_,hlc,k1,k2 => by
    simp only [dsW,bw] at k1 k2 ⊢
    by_cases h0 : x = 0
    · rw [if_pos h0] at k1 ⊢
      exact k1 _ _ _ _ _ rfl hlc (.inl rfl)
    · rw [if_neg h0] at k2 ⊢
      intro K' hK
      refine dsc_r0 hab _ fun p u' h' hh => ?_
      obtain ⟨rfl,rfl,rfl⟩:=hh
      exact hK _ _ _ (k2 _ _ _ _ rfl)
  | k + 1,x,m,l,c,hl,hlc,k1,k2 => by
    simp only [dsW,bw] at k1 k2 ⊢
    by_cases h0 : x = 0
    · rw [if_pos h0] at k1 ⊢
      exact k1 _ _ _ _ _ rfl hlc (.inl rfl)
    · rw [if_neg h0] at k1 k2 ⊢
      by_cases hf : m.fE x = 0
      · rw [if_pos hf] at k1 k2 ⊢
        by_cases hd : (m.gV x).depth ≤ own.depth
        · rw [if_pos hd] at k1 k2
          intro K' hK
          refine dsc_r1 hab h0 hd _ fun p u' h' hh => ?_
          obtain ⟨rfl,rfl,rfl⟩:=hh
          exact hK _ _ _ ⟨rfl,k1 _ _ _ _ _ rfl hlc (.inr rfl)⟩
        · rw [if_neg hd] at k1 k2
          intro K' hK
          have hln:=bhH_len (h:=h) (a:=a) (b:=b) (m.gX x) x
          have ha:=H.lta
          refine dsc_r2 hab (bhH_clean H hc hb _ _) h0 hd (by omega) ⟨by omega,by omega,by omega⟩ _ fun p u' h' hh => ?_
          obtain ⟨rfl,⟨c',hc',rfl⟩,rfl⟩:=hh
          refine hK _ _ _ ⟨rfl, ?_⟩
          exact dsc_bw hab H hc hb k _ _ _ _ (by simp only [List.length_append,List.length_cons,List.length_nil]; omega) (by simp only [List.length_append,List.length_cons,List.length_nil]; omega) k1 k2
      · rw [if_neg hf] at k1 k2 ⊢
        intro K' hK
        refine dsc_r0 hab _ fun p u' h' hh => ?_
        obtain ⟨rfl,rfl,rfl⟩:=hh
        exact hK _ _ _ (k2 _ _ _ _ rfl)
theorem dsc_snd : Snd Tryz.prog 26 (FSpec.of dscG):=(fwp_sound (Tab.snd_Γ TDs_snd) mixed Tryz.func26 dc26).weaken fun args h K hc hS => by
  refine fwp_runW (Tab.ok_Γ _) 200 ?_
  obtain ⟨a,b,m,rest,rfl,H,hS1⟩:=memF_spec (f:=dscM) hS
  clear hS
  have hS:=hS1
  clear hS1
  unfold dscM at hS
  split at hS
  · rename_i x
    simp only [spec_br] at hS
    obtain ⟨⟨⟨c0,c1,c2,c3,c4,c5,c6,c7,c8,c9,c10⟩,p0,q0,r0⟩,hs⟩ : ∃ s,m.gV x = s:=⟨_,rfl⟩
    by_cases hf : m.fE x = 0
    · have hS:=hS.1 (by simpa using hf)
      rw [hs] at hS
      simp only at hS
      simp (maxSteps:=9999999) only [EV0,zy,zx,zw,zv,zu,zq,zp,zj,zk,leT,zg,rvC,zZ,zY,zX,zW,↓zV,↓zU,reduceCtorEq,zQ,yz,yY,yy,yx,yw,yv,yu,yq,yX,yj,yk,yg,yW,yV,yU,yZ,yQ,xz,df26,TDs,fullG,memF_eq H,memF_set H,fullM,hs,hf,behG,setM_len,Slot.cl,Cap.cl,put,fillP,sub,EVt]
      refine more_wk (t':=dT a h.length) (ls':=dLS .ns (.i .i64 0) ⟨⟨c0,c1,c2,c3,c4,c5,c6,c7,c8,c9,c10⟩,p0,q0,r0⟩ [] 0) (h':=bhH h a b (m.gX x) q0) (Wk.same (by rfl) (by rfl) (by simp (maxSteps:=9999999) only [EV0,zy,zx,zw,zv,zu,zq,zp,zj,zk,leT,zg,rvC,zZ,zY,zX,zW,↓zV,↓zU,reduceCtorEq,zQ,yz,yY,yy,yx,yw,yv,yu,yq,yX,yj,yk,yg,yW,yV,yU,yZ,yQ,xz,dT])) ?_
      refine rf_rule (cs:=[(.g h.length,0),(.g (h.length + 1),0)]) rfl rfl rfl rfl ?_
      refine behind1_is (m:=m.gX x) H ?_
      have hl0 : (m.gX x).w.length / 4 = m.w.length / 4:=by unfold M.gX; split <;> rfl
      rw [hl0]
      have hml:=m.l
      obtain ⟨N,hN⟩ : ∃ N,m.w.length / 4 = N:=⟨_,rfl⟩
      rw [hN] at hS ⊢
      have key : ∀ l' m2 c' x',dsW r0 N q0 (m.gX x) [] = (some l',m2) → l'.length ≤ c' → swp TDs.Γ h.length (fin h.length [.c 4 none, .c 5 none] K) [.c (.seq (.reg [⟨some 37, .ld (.t 8) none,none⟩,⟨none, .st (.t 4) (.t 37) 1,none⟩,⟨none, .st (.t 5) (.k (.s (.i .i64 0))) 1,none⟩]) .ret)] ⟨dT a h.length,dLS .ns (.i .i64 0) ⟨⟨c0,c1,c2,c3,c4,c5,c6,c7,c8,c9,c10⟩,p0,q0,r0⟩ l' c',bhH h a b m2 x'⟩:=fun l' m2 c' x' e hlc => by
        rw [e] at hS
        refine run_sound (Tab.ok_Γ _) 60 _ _ _ _ ?_
        have hcb:=bhH_clean H hc H.ltb m2 x'
        have hcm : clean h.length (setM h a b m2) = true:=setM_clean H hc H.ltb
        have hnb : h.length ≤ (bhH h a b m2 x').length:=by rw [bhH_len]; omega
        have hlm : (setM h a b m2).length = h.length:=setM_len
        cases l' with
        | nil =>
          simp only [dscR,spec_ok] at hS
          simp (maxSteps:=9999999) only [EV0,zy,zx,zw,zv,zu,zq,zp,zj,zk,leT,zg,rvC,zZ,zY,zX,zW,↓zV,↓zU,reduceCtorEq,zQ,yz,yY,yy,yx,yw,yv,yu,yq,yX,yj,yk,yg,yW,yV,yU,yZ,yQ,xz,dT,dLS,Slot.cl,Cap.cl,put,fillP,sub,EVt]
          refine fin_of (v:=.tup [.s .ns, .s (.i .i64 0)]) (ls:=[]) (h:=setM h a b m2) rfl (.trans (Wk.keep 0 (ls:=[]) (t':=[.tup [.s .ns, .s (.i .i64 0)]]) rfl rfl (by simp (maxSteps:=9999999) only [EV0,zy,zx,zw,zv,zu,zq,zp,zj,zk,leT,zg,rvC,zZ,zY,zX,zW,↓zV,↓zU,reduceCtorEq,zQ,yz,yY,yy,yx,yw,yv,yu,yq,yX,yj,yk,yg,yW,yV,yU,yZ,yQ,xz]) (by rfl) (by rfl)) (Wk.keepH h.length (by unfold bhH; rw [← hlm,List.take_left']; rfl) (Nat.le_of_eq hlm.symm) (by simp (maxSteps:=9999999) only [EV0,zy,zx,zw,zv,zu,zq,zp,zj,zk,leT,zg,rvC,zZ,zY,zX,zW,↓zV,↓zU,reduceCtorEq,zQ,yz,yY,yy,yx,yw,yv,yu,yq,yX,yj,yk,yg,yW,yV,yU,yZ,yQ,xz]) (by rfl) (by rw [hlm]; exact hcm) (by rfl))) ?_
          simp (maxSteps:=9999999) only [EV0,zy,zx,zw,zv,zu,zq,zp,zj,zk,leT,zg,rvC,zZ,zY,zX,zW,↓zV,↓zU,reduceCtorEq,zQ,yz,yY,yy,yx,yw,yv,yu,yq,yX,yj,yk,yg,yW,yV,yU,yZ,yQ,xz]
          exact hS
        | cons y l' =>
          simp only [dscR,spec_all] at hS
          obtain ⟨B,hB⟩ : ∃ B,intsB (y :: l') = B:=⟨_,rfl⟩
          obtain ⟨b1,b2,b3,b4,b5,b6⟩:=intsB_is (y :: l')
          rw [hB] at b1 b2 b3 b4 b5 b6 hS
          have hb3 : ∀ a b,B.all (S.val a b) = true:=fun u v => by have:=b3 u v; simpa only [vals] using this
          have hcq:=hcb
          have hnq:=hnb
          simp (maxSteps:=9999999) only [EV0,zy,zx,zw,zv,zu,zq,zp,zj,zk,leT,zg,rvC,zZ,zY,zX,zW,↓zV,↓zU,reduceCtorEq,zQ,yz,yY,yy,yx,yw,yv,yu,yq,yX,yj,yk,yg,yW,yV,yU,yZ,yQ,xz,dT,dLS,hB,Slot.cl,Cap.cl,put,fillP,sub,EVt]
          refine fin_of (v:=.tup [.s (.sl (.l 0) 0 (l'.length + 1) c'), .s (.i .i64 0)]) (ls:=[⟨.rw,B,c'⟩]) (h:=setM h a b m2) rfl (.trans (s1:=⟨[.tup [.s (.sl (.l 0) 0 (l'.length + 1) c'), .s (.i .i64 0)]],[⟨.rw,B,c'⟩],bhH h a b m2 x'⟩) ?_ (Wk.keepH h.length (by unfold bhH; rw [← hlm,List.take_left']; rfl) (Nat.le_of_eq hlm.symm) (by simp (maxSteps:=9999999) only [EV0,zy,zx,zw,zv,zu,zq,zp,zj,zk,leT,zg,rvC,zZ,zY,zX,zW,↓zV,↓zU,reduceCtorEq,zQ,yz,yY,yy,yx,yw,yv,yu,yq,yX,yj,yk,yg,yW,yV,yU,yZ,yQ,xz]) (by rfl) (by rw [hlm]; exact hcm) (by simp (maxSteps:=9999999) only [EV0,zy,zx,zw,zv,zu,zq,zp,zj,zk,leT,zg,rvC,zZ,zY,zX,zW,↓zV,↓zU,reduceCtorEq,zQ,yz,yY,yy,yx,yw,yv,yu,yq,yX,yj,yk,yg,yW,yV,yU,yZ,yQ,xz,hb3]))) ?_
          · refine Wk.sel [4] (by decide) hnq ?_ ?_ ?_ ?_ hcq (clean_pick hcq _)
            · simp (maxSteps:=9999999) only [EV0,zy,zx,zw,zv,zu,zq,zp,zj,zk,leT,zg,rvC,zZ,zY,zX,zW,↓zV,↓zU,reduceCtorEq,zQ,yz,yY,yy,yx,yw,yv,yu,yq,yX,yj,yk,yg,yW,yV,yU,yZ,yQ,xz,List.nil_append,Blk.ren,V.ren,C.ren,S_ren,wc_ren,R.pick_g,R.pick_0,R.pick_s,List.map_append,wc_cons,wc_snoc,wc_nil,hb3,b5,result]
            · simp (maxSteps:=9999999) only [EV0,zy,zx,zw,zv,zu,zq,zp,zj,zk,leT,zg,rvC,zZ,zY,zX,zW,↓zV,↓zU,reduceCtorEq,zQ,yz,yY,yy,yx,yw,yv,yu,yq,yX,yj,yk,yg,yW,yV,yU,yZ,yQ,xz,List.nil_append,Blk.ren,V.ren,C.ren,S_ren,wc_ren,R.pick_g,R.pick_0,R.pick_s,hb3,b5,result]
            · simp (maxSteps:=9999999) only [EV0,zy,zx,zw,zv,zu,zq,zp,zj,zk,leT,zg,rvC,zZ,zY,zX,zW,↓zV,↓zU,reduceCtorEq,zQ,yz,yY,yy,yx,yw,yv,yu,yq,yX,yj,yk,yg,yW,yV,yU,yZ,yQ,xz,List.nil_append,app_len,nlt0,nltn,reduceLT,Nat.le_add_right,hb3,b5,result]
            · simp (maxSteps:=9999999) only [EV0,zy,zx,zw,zv,zu,zq,zp,zj,zk,leT,zg,rvC,zZ,zY,zX,zW,↓zV,↓zU,reduceCtorEq,zQ,yz,yY,yy,yx,yw,yv,yu,yq,yX,yj,yk,yg,yW,yV,yU,yZ,yQ,xz,List.nil_append,app_len,nlt0,nltn,reduceLT,Nat.le_add_right,vals_cons,vals_nil,wc_val,wc_vals,hb3,b5,result]
          · simp (maxSteps:=9999999) only [EV0,zy,zx,zw,zv,zu,zq,zp,zj,zk,leT,zg,rvC,zZ,zY,zX,zW,↓zV,↓zU,reduceCtorEq,zQ,yz,yY,yy,yx,yw,yv,yu,yq,yX,yj,yk,yg,yW,yV,yU,yZ,yQ,xz]
            refine ⟨[0],by simp,rfl, ?_⟩
            simp only [getAll,List.getElem?_cons_zero]
            refine ⟨?_, ?_⟩
            · have hk:=intsB_kept [0] (y :: l')
              rw [hB] at hk
              simp only [List.all_cons,List.all_nil,hk,decide_true,Bool.and_true]
            · refine cast ?_ (hS c' (by simpa using hlc))
              simp only [V.ren,C.ren,S.ren,R.prom,List.map_cons,List.map_nil,Blk.ren,b5,spec_ok,hlm,List.idxOf,List.findIdx,List.findIdx.go,beq_self_eq_true,cond_true,Nat.add_zero,setM_len]
      refine dsc_bw rfl H hc H.ltb _ _ _ _ 0 (by simp only [List.length_nil]; omega) (Nat.le_refl _) ?_ ?_
      · intro l' m2 p c' x' e hlc hp
        rcases hp with rfl | rfl
        · simp only [Option.getD_none]
          unfold swp
          exact key _ _ _ _ e hlc
        · simp only [Option.getD_some,swx,if_true]
          exact key _ _ _ _ e hlc
      · intro m2 l' c' x' e
        simp only [Option.getD_some]
        rw [e] at hS
        simp only [dscR,spec_ok] at hS
        have hcm : clean h.length (setM h a b m2) = true:=setM_clean H hc H.ltb
        have hlm : (setM h a b m2).length = h.length:=setM_len
        cases l'
        all_goals
          refine fin_of (v:=.tup [.s .ns, .s (.i .i64 110)]) (ls:=[]) (h:=setM h a b m2) rfl (.trans (Wk.keep 0 (ls:=[]) (t':=[.tup [.s .ns, .s (.i .i64 110)]]) rfl rfl (by simp (maxSteps:=9999999) only [EV0,zy,zx,zw,zv,zu,zq,zp,zj,zk,leT,zg,rvC,zZ,zY,zX,zW,↓zV,↓zU,reduceCtorEq,zQ,yz,yY,yy,yx,yw,yv,yu,yq,yX,yj,yk,yg,yW,yV,yU,yZ,yQ,xz]) (by rfl) (by rfl)) (Wk.keepH h.length (by unfold bhH; rw [← hlm,List.take_left']; rfl) (Nat.le_of_eq hlm.symm) (by simp (maxSteps:=9999999) only [EV0,zy,zx,zw,zv,zu,zq,zp,zj,zk,leT,zg,rvC,zZ,zY,zX,zW,↓zV,↓zU,reduceCtorEq,zQ,yz,yY,yy,yx,yw,yv,yu,yq,yX,yj,yk,yg,yW,yV,yU,yZ,yQ,xz]) (by rfl) (by rw [hlm]; exact hcm) (by rfl))) ?_
          simp (maxSteps:=9999999) only [EV0,zy,zx,zw,zv,zu,zq,zp,zj,zk,leT,zg,rvC,zZ,zY,zX,zW,↓zV,↓zU,reduceCtorEq,zQ,yz,yY,yy,yx,yw,yv,yu,yq,yX,yj,yk,yg,yW,yV,yU,yZ,yQ,xz]
          exact hS
    · have hS:=hS.2 (by simpa using hf)
      have hf' : (m.fE x == 0) = false:=by simpa using hf
      simp only [spec_ok] at hS
      simp (maxSteps:=9999999) only [EV0,zy,zx,zw,zv,zu,zq,zp,zj,zk,leT,zg,rvC,zZ,zY,zX,zW,↓zV,↓zU,reduceCtorEq,zQ,yz,yY,yy,yx,yw,yv,yu,yq,yX,yj,yk,yg,yW,yV,yU,yZ,yQ,xz,df26,TDs,fullG,memF_eq H,memF_set H,fullM,hs,hf,hf',bne,Slot.cl,Cap.cl,put,fillP,sub,EVt]
      refine fin_of (v:=.tup [.s .ns, .s (.i .i64 (m.fE x))]) (ls:=[]) (h:=setM h a b (m.gX x)) rfl (Wk.keep 0 rfl rfl (by simp (maxSteps:=9999999) only [EV0,zy,zx,zw,zv,zu,zq,zp,zj,zk,leT,zg,rvC,zZ,zY,zX,zW,↓zV,↓zU,reduceCtorEq,zQ,yz,yY,yy,yx,yw,yv,yu,yq,yX,yj,yk,yg,yW,yV,yU,yZ,yQ,xz]) (by rfl) (by rfl)) ?_
      simp (maxSteps:=9999999) only [EV0,zy,zx,zw,zv,zu,zq,zp,zj,zk,leT,zg,rvC,zZ,zY,zX,zW,↓zV,↓zU,reduceCtorEq,zQ,yz,yY,yy,yx,yw,yv,yu,yq,yX,yj,yk,yg,yW,yV,yU,yZ,yQ,xz]
      exact hS
  · exact hS.elim
end Go.Proofs.YtpmobbehdpgnbaaGreat

/- Law 12: a move and back,two exchanges: what they leave. -/
namespace Go.Proofs.YtpmobbehdpgnbaaGreat
open Go.D
set_option linter.all false
set_option maxRecDepth 100000
set_option maxHeartbeats 4000000

section
variable {m : M} {L : List Int}
end

def deep (V : Int → Slot) (d : Int) (L : List Int) : List Int:=L.takeWhile fun y => decide (d < (V y).depth)
theorem dsW_chain {m : M} {d : Int} : ∀ (L : List Int) (k : Nat) (m' : M) (pr : Int) (acc : List Int),m'.w = m.w → (∀ x,x ∈ L → m.fE x = 0) → chain m.gV 0 pr L → L.length ≤ k →
    ∃ m2,dsW d k (L.headD 0) m' acc = (some (acc ++ deep m.gV d L),m2) ∧ m2.w = m.w
  | [],k,m',pr,acc,hw,_,_,_ => by
    refine ⟨m', ?_,hw⟩
    cases k <;> simp [dsW,deep]
  | y :: L,0,m',pr,acc,_,_,_,hk => by simp at hk
  | y :: L,k + 1,m',pr,acc,hw,hf,hc,hk => by
    obtain ⟨h1,h2,h3⟩:=hc
    have hy:=hf y List.mem_cons_self
    have y0 : y ≠ 0:=there_ne0 (fE_there hy)
    have hf' : m'.fE y = 0:=by rw [fE_w hw]; exact hy
    have hg : m'.gV y = m.gV y:=gV_w hw y
    have hw' : (m'.gX y).w = m.w:=(gX_w m' y).trans hw
    simp only [List.headD_cons,dsW,y0,if_false,hf',if_true,hg]
    by_cases hd : (m.gV y).depth ≤ d
    · refine ⟨m'.gX y, ?_,hw'⟩
      rw [if_pos hd]
      have : ¬ d < (m.gV y).depth:=by omega
      simp [deep,this]
    · rw [if_neg hd,h2]
      obtain ⟨m2,e,e2⟩:=dsW_chain L k (m'.gX y) y (acc ++ [y]) hw' (fun x hx => hf x (List.mem_cons_of_mem _ hx)) h3 (by simpa using hk)
      refine ⟨m2, ?_,e2⟩
      rw [e]
      have : d < (m.gV y).depth:=by omega
      simp [deep,this]
section
variable {m : M} {L : List Int}
theorem DI.split (D : DI m L) {a : Int} {L1 L2 : List Int} (e : L = L1 ++ a :: L2) : ∃ m2,dsW (m.gV a).depth (m.w.length / 4) (m.gV a).next (m.gX a) [] = (some (deep m.gV (m.gV a).depth L2),m2) ∧ m2.w = m.w:=by
  have hc:=D.inv.ch
  rw [e] at hc
  obtain ⟨_,hc⟩:=chain_app.1 hc
  obtain ⟨_,h2,h3⟩:=hc
  have hl : L2.length ≤ 52:=by
    have h1:=len_sub D.inv.nd D.sub
    have h4 : PB.length = 52:=by decide
    rw [e] at h1
    simp at h1
    omega
  obtain ⟨m2,e1,e2⟩:=dsW_chain (m:=m) (d:=(m.gV a).depth) L2 (m.w.length / 4) (m.gX a) a [] (gX_w m a) (fun x hx => D.inv.full x (by rw [e]; exact List.mem_append_right _ (List.mem_cons_of_mem _ hx))) h3 (by rw [D.len]; omega)
  rw [← h2] at e1
  exact ⟨m2,by simpa using e1,e2⟩
theorem DI.fE_in (D : DI m L) {a : Int} (h : a ∈ L) : m.fE a = 0:=D.inv.full a h
theorem DI.fE_out (D : DI m L) {a : Int} (hP : a ∈ PB) (h : a ∉ L) : m.fE a = 121:=by
  unfold M.fE
  rw [if_pos ⟨D.gE hP,by rw [D.z a hP h]; rfl⟩]
theorem DI.turns (D : DI m L) {a b : Int} (ha : a ∈ L) (hb : b ∈ L) (hne : a ≠ b) {s : M} (hs : s.w = (m.swp b a).2.w) :
    ∃ (P Q P' Q' : List Int),(∀ m' : M,m'.w = m.w → ∃ m2,dsW (m'.gV a).depth (m'.w.length / 4) (m'.gV a).next (m'.gX a) [] = (some P,m2) ∧ m2.w = m.w) ∧ (∀ m' : M,m'.w = m.w → ∃ m2,dsW (m'.gV b).depth (m'.w.length / 4) (m'.gV b).next (m'.gX b) [] = (some Q,m2) ∧ m2.w = m.w) ∧
      (∀ m' : M,m'.w = s.w → ∃ m2,dsW (m'.gV a).depth (m'.w.length / 4) (m'.gV a).next (m'.gX a) [] = (some Q',m2) ∧ m2.w = s.w) ∧ (∀ m' : M,m'.w = s.w → ∃ m2,dsW (m'.gV b).depth (m'.w.length / 4) (m'.gV b).next (m'.gX b) [] = (some P',m2) ∧ m2.w = s.w) ∧
      P'.length = P.length ∧ Q'.length = Q.length ∧ s.fE a = 0 ∧ s.fE b = 0:=by
  have hba : b ≠ a:=Ne.symm hne
  obtain ⟨_,_,_,T,D1,_⟩:=D.swp rfl hb ha hba
  have Ds:=D1.of_w hs
  have Ts:=T.of_w hs
  have hdep : ∀ x,x ∈ L → (s.gV (oth b a x)).depth = (m.gV x).depth:=fun x hx => by
    have r0 : oth b a x ≠ 0:=by
      by_cases h1 : x = b
      · rw [h1,oth_of_a]; exact D.n0 (D.sub a ha)
      · by_cases h2 : x = a
        · rw [h2,oth_of_b hba]; exact D.n0 (D.sub b hb)
        · rw [oth_of h1 h2]; exact D.n0 (D.sub x hx)
    rw [Ts.V _ r0]
    unfold M.swV
    by_cases h1 : x = b
    · rw [h1,oth_of_a,if_neg hne,if_pos rfl]; rfl
    · by_cases h2 : x = a
      · rw [h2,oth_of_b hba,if_pos rfl]; rfl
      · rw [oth_of h1 h2,if_neg h1,if_neg h2]
  have key : ∀ x,x ∈ L → ∃ X X' : List Int,(∀ m' : M,m'.w = m.w → ∃ m2,dsW (m'.gV x).depth (m'.w.length / 4) (m'.gV x).next (m'.gX x) [] = (some X,m2) ∧ m2.w = m.w) ∧ (∀ m' : M,m'.w = s.w → ∃ m2,dsW (m'.gV (oth b a x)).depth (m'.w.length / 4) (m'.gV (oth b a x)).next (m'.gX (oth b a x)) [] = (some X',m2) ∧ m2.w = s.w) ∧ X'.length = X.length:=fun x hx => by
    obtain ⟨L1,L2,e⟩:=List.append_of_mem hx
    have e' : L.map (oth b a) = L1.map (oth b a) ++ oth b a x :: L2.map (oth b a):=by rw [e]; simp
    refine ⟨deep m.gV (m.gV x).depth L2,deep s.gV (s.gV (oth b a x)).depth (L2.map (oth b a)),fun m' hw => ?_,fun m' hw => ?_, ?_⟩
    · obtain ⟨m2,q1,q2⟩:=(D.of_w hw).split e
      exact ⟨m2,by rw [q1,gV_fun hw],q2.trans hw⟩
    · obtain ⟨m2,q1,q2⟩:=(Ds.of_w hw).split e'
      exact ⟨m2,by rw [q1,gV_fun hw],q2.trans hw⟩
    · rw [hdep x hx]
      have hsub : ∀ y,y ∈ L2 → y ∈ L:=fun y hy => by rw [e]; exact List.mem_append_right _ (List.mem_cons_of_mem _ hy)
      clear e'
      revert hsub
      clear e
      induction L2 with
      | nil => intro _; rfl
      | cons y L2 ih =>
        intro hsub
        simp only [deep,List.map_cons,List.takeWhile_cons]
        rw [hdep y (hsub y List.mem_cons_self)]
        split
        · simp only [List.length_cons]
          have:=ih fun z hz => hsub z (List.mem_cons_of_mem _ hz)
          unfold deep at this
          rw [this]
        · rfl
  obtain ⟨P,P',p1,p2,p3⟩:=key a ha
  obtain ⟨Q,Q',q1,q2,q3⟩:=key b hb
  rw [oth_of_b hba] at p2
  rw [oth_of_a] at q2
  exact ⟨P,Q,P',Q',p1,q1,q2,p2,p3,q3,Ds.fE_in (List.mem_map.2 ⟨b,hb,oth_of_a⟩),Ds.fE_in (List.mem_map.2 ⟨a,ha,oth_of_b hba⟩)⟩
end
end Go.Proofs.YtpmobbehdpgnbaaGreat

/- Law 12: DeriveTurns: the walk. -/
namespace Go.Proofs.YtpmobbehdpgnbaaGreat
open Go.D
open Nat (reduceAdd reducePow reduceMul reduceSub reduceLeDiff reduceLT reduceEqDiff)
open Int (reduceNeg reduceLE reduceEq reduceNe reduceToNat)
open Go.D renaming istep → zy,pickR → zx,bin1R → zw,un1R → zv,eqS → zu,eq1 → zq,cmpS → zp,cmp1 → zj,isNil → zk,shows → zg,result → zZ,q_cond_t → zV,q_cond_f → zU
open List renaming set → zY,replicate → zX
open Option renaming map → zW
open Nat renaming reduceAdd → zQ,reducePow → yz,reduceMul → yy,reduceSub → yx,reduceLeDiff → yw,reduceLT → yv,reduceEqDiff → yu
open Int renaming reduceNeg → yq,reduceLE → yj,reduceEq → yk,reduceNe → yg,reduceToNat → yZ,reducePow → yY,reduceLT → yX,reduceAdd → yW,reduceSub → yV,reduceMul → yU,reduceBEq → yQ,reduceBNe → xz
set_option linter.all false
set_option maxRecDepth 100000
set_option maxHeartbeats 8000000

theorem list_alike : ∀ (P P' : List Int),P'.length = P.length → (P = [] ∧ P' = []) ∨ ∃ x l x' l',P = x :: l ∧ P' = x' :: l' ∧ l'.length = l.length
  | [],[],_ => .inl ⟨rfl,rfl⟩
  | x :: l,x' :: l',h => .inr ⟨x,l,x',l',rfl,rfl,by simpa using h⟩
  | [],_ :: _,h => by simp at h
  | _ :: _,[],h => by simp at h
def deriveTurnsS : FSpec:=fun args h K => ∃ (s : S) (L : List Act) (p q : Int),args = [.s s, .s (.i .i64 p), .s (.i .i64 q)] ∧ IsArr Act.cl h s L ∧ (∀ x,x ∈ L → x.u) ∧ L.length ≤ 9223372036854775807 ∧ i64b p ∧ i64b q ∧ ∀ h',K (.s (.b true)) h'
noncomputable def TPt : Tab:=addT 18 plcG (addT 26 dscG (addT 24 ro9G (TPl)))
theorem TPt_snd : TPt.Snd Tryz.prog:=addT_snd ok18 plc_snd (addT_snd ok26 dsc_snd (addT_snd ok24 ro9_snd (TPl_snd)))
theorem deriveTurns_snd : Snd Tryz.prog 9 deriveTurnsS:=(fwp_sound (Tab.snd_Γ TPt_snd) mixed Tryz.func9 dc9).weaken fun args h K hc hS => by
  obtain ⟨s,L,p,q,rfl,Hs,hu,l1,up,uq,hK⟩:=hS
  refine fwp_run (Tab.ok_Γ _) 400 ?_
  have hlen:=fun ls h' => Hs.sl.len (ls:=ls) (h:=h')
  have hkn:=Hs.sl.known
  have hnl:=Hs.sl.noL
  simp (maxSteps:=9999999) only [EV0,zy,zx,zw,zv,zu,zq,zp,zj,zk,leT,zg,rvC,zZ,zY,zX,zW,↓zV,↓zU,reduceCtorEq,zQ,yz,yY,yy,yx,yw,yv,yu,yq,yX,yj,yk,yg,yW,yV,yU,yZ,yQ,xz,df9,TPt,TPl,awake12G,basedG,↓hlen,↓hkn,↓hnl]
  refine loop_rule (α:=Nat × M × M) [9,25,26,27,28,29,30,31,32,33,34,35,36,37,38,39,40] (fun x => [(9, .s (.i .i64 (x.1 : Int)))]) (fun _ => []) (fun x => wH h x.2.1 x.2.2 []) (fun x => x.1 ≤ L.length ∧ x.2.2.w = x.2.1.w ∧ (∃ Q,DI x.2.1 Q)) (fun x => L.length - x.1) (0,baseC,baseM) ⟨Nat.zero_le _,baseC_w.symm,DI_base⟩ ?_ ?_
  · refine Wk.same rfl rfl ?_
    simp (maxSteps:=9999999) only [EV0,zy,zx,zw,zv,zu,zq,zp,zj,zk,leT,zg,rvC,zZ,zY,zX,zW,↓zV,↓zU,reduceCtorEq,zQ,yz,yY,yy,yx,yw,yv,yu,yq,yX,yj,yk,yg,yW,yV,yU,yZ,yQ,xz,Int.natCast_zero]
  · rintro X ⟨i,m,r⟩ ⟨hi,hw,⟨Q,D⟩⟩ IH
    simp only at hi hw D ⊢
    by_cases h2 : i < L.length ∧ i < 60
    · obtain ⟨h1,h100⟩:=h2
      obtain ⟨d1,d2,d3,d4⟩:=idx h1 l1
      have c100 : (i : Int) < 60:=by omega
      obtain ⟨j,cc,st,room,hse,hj,hd⟩:=Hs.at h1
      obtain ⟨x,hx⟩ : ∃ x,nth actZ L i = x:=⟨_,rfl⟩
      have hxu : x.u:=by rw [← hx]; exact hu _ (nth_mem h1)
      have hs : sub (arr Act.cl L) (i * 8) 8 = x.cl:=by rw [← hx,nth_eq h1]; exact arr_sub Act.cl_len h1
      have hle : i * 8 + 8 ≤ (arr Act.cl L).length:=by rw [arr_length Act.cl_len]; omega
      simp only [Act.cl] at hs
      obtain ⟨e1,Cf,hD,hF⟩:=D.act hw hxu
      have hob : ∀ m r,(wH h m r [])[j]? = _:=fun m r => wH_old hj m r []
      subst hse
      refine run_sound (Tab.ok_Γ _) 300 _ _ _ _ ?_
      simp (maxSteps:=9999999) only [EV0,zy,zx,zw,zv,zu,zq,zp,zj,zk,leT,zg,rvC,zZ,zY,zX,zW,↓zV,↓zU,reduceCtorEq,zQ,yz,yY,yy,yx,yw,yv,yu,yq,yX,yj,yk,yg,yW,yV,yU,yZ,yQ,xz,TPt,TPl,doesG,doesM,actF,act_eta,wldF_eq,↓hlen,↓hkn,↓hnl,d1,d2,d3,d4,c100,hob,hd,hs,hle,Int.toNat_natCast]
      exact IH (i + 1,(m.act x).2,(r.ract x).2) _ (by simp only; omega) ⟨by simp only; omega,hD.w,hD.L⟩ (Wk.same rfl rfl (by simp (maxSteps:=9999999) only [EV0,zy,zx,zw,zv,zu,zq,zp,zj,zk,leT,zg,rvC,zZ,zY,zX,zW,↓zV,↓zU,reduceCtorEq,zQ,yz,yY,yy,yx,yw,yv,yu,yq,yX,yj,yk,yg,yW,yV,yU,yZ,yQ,xz]))
    · have hex:=exit2 h2
      clear IH h2
      simp only [show ((60 : Nat) : Int) = 60 from rfl] at hex
      have hB : ∀ (m' : M) (Y : List Blk),(wH h m' r Y)[h.length + 4]? = some ⟨.rw,[.p (.g (h.length + 2)) 0, .p (.g h.length) 0],2⟩:=fun m' Y => wH_at h m' r Y
      have hpP:=plc_PL up
      have hqP:=plc_PL uq
      obtain ⟨a,hae⟩ : ∃ a,plcV p = a:=⟨_,rfl⟩
      obtain ⟨b,hbe⟩ : ∃ b,plcV q = b:=⟨_,rfl⟩
      rw [hae] at hpP
      rw [hbe] at hqP
      clear hi
      have ds : ∀ (m' : M) (x : Int),m'.w = m.w → x ∈ PL → ∃ m2 : M,m2.w = m.w ∧ ((m'.fE x = 121 ∧ m'.gX x = m2) ∨ (m'.fE x = 0 ∧ dsW (m'.gV x).depth (m'.w.length / 4) (m'.gV x).next (m'.gX x) [] = (some [],m2)) ∨ (m'.fE x = 0 ∧ ∃ y l,dsW (m'.gV x).depth (m'.w.length / 4) (m'.gV x).next (m'.gX x) [] = (some (y :: l),m2))):=fun m' x hw' hx => by
        by_cases hq : x ∈ Q
        · obtain ⟨L1,L2,e⟩:=List.append_of_mem hq
          obtain ⟨m2,q1,q2⟩:=(D.of_w hw').split e
          refine ⟨m2,q2.trans hw', .inr ?_⟩
          cases hP : deep m'.gV (m'.gV x).depth L2 with
          | nil => exact .inl ⟨(D.of_w hw').fE_in hq,by rw [q1,hP]⟩
          | cons y l => exact .inr ⟨(D.of_w hw').fE_in hq,y,l,by rw [q1,hP]⟩
        · exact ⟨_,(gX_w _ _).trans hw', .inl ⟨(D.of_w hw').fE_out (PL_PB hx) hq,rfl⟩⟩
      by_cases hg : m.roE a b a = 0
      · obtain ⟨k1,k2,k3,_⟩:=roE_is hg
        have ha : a ∈ Q:=(D.emf (PL_PB hpP)).1 k3
        have hb : b ∈ Q:=(D.emf (PL_PB hqP)).1 k2
        have hne : a ≠ b:=fun e => k1 (.inl e.symm)
        have dq : ∀ (m' : M) (x : Int),m'.w = m.w → x ∈ Q → ∃ (m2 : M) (P : List Int),m2.w = m.w ∧ m'.fE x = 0 ∧ dsW (m'.gV x).depth (m'.w.length / 4) (m'.gV x).next (m'.gX x) [] = (some P,m2):=fun m' x hw' hq => by
          obtain ⟨L1,L2,e⟩:=List.append_of_mem hq
          obtain ⟨m2,q1,q2⟩:=(D.of_w hw').split e
          exact ⟨m2,_,q2.trans hw',(D.of_w hw').fE_in hq,q1⟩
        obtain ⟨m2,P,w2,fa,da⟩:=dq m a rfl ha
        obtain ⟨m3,Q0,w3,fb,db⟩:=dq m2 b w2 hb
        have hro : m3.roE a b a = 0:=by rw [roE_w w3]; exact hg
        obtain ⟨s0,hs0,es0⟩:=(roX_is m3 a b a).1 hro
        obtain ⟨S0,hS0⟩ : ∃ S0,m3.roX a b a = S0:=⟨_,rfl⟩
        rw [hS0] at es0
        have ws : S0.w = (s0.swp b a).2.w:=by rw [es0]; simp only [M.roA,if_true]
        have w30 : s0.w = m.w:=hs0.trans w3
        obtain ⟨P1,Q1,P2,Q2,t1,t2,t3,t4,l2,l3,fa2,fb2⟩:=(D.of_w w30).turns ha hb hne ws
        obtain ⟨_,u1,_⟩:=t1 m w30.symm
        obtain ⟨_,u2,_⟩:=t2 m2 (w2.trans w30.symm)
        rw [da] at u1
        rw [db] at u2
        simp only [Prod.mk.injEq,Option.some.injEq] at u1 u2
        obtain ⟨rfl,_⟩:=u1
        obtain ⟨rfl,_⟩:=u2
        obtain ⟨S2,da2,v2⟩:=t3 S0 rfl
        obtain ⟨S3,db2,v3⟩:=t4 S2 v2
        rw [← fE_w v2] at fb2
        clear t1 t2 t3 t4 ds dq
        rcases hex with ⟨f1,f2⟩ | ⟨f1,f2⟩
        all_goals
          rcases list_alike _ _ l2 with ⟨rfl,rfl⟩ | ⟨x1,y1,x2,y2,rfl,rfl,ll1⟩
          all_goals
            rcases list_alike _ _ l3 with ⟨rfl,rfl⟩ | ⟨x3,y3,x4,y4,rfl,rfl,ll2⟩
            all_goals
              refine run_sound (Tab.ok_Γ _) 300 _ _ _ _ ?_
              simp (maxSteps:=9999999) only [EV0,zy,zx,zw,zv,zu,zq,zp,zj,zk,leT,zg,rvC,zZ,zY,zX,zW,↓zV,↓zU,reduceCtorEq,zQ,yz,yY,yy,yx,yw,yv,yu,yq,yX,yj,yk,yg,yW,yV,yU,yZ,yQ,xz,TPt,TPl,↓hlen,↓hkn,↓hnl,f1,f2,plcG,dscG,dscM,dscR,ro9G,ro9M,hB,wH_m,wH_app,wH_len,hae,hbe,fa,da,fb,db,hro,hS0,fa2,da2,fb2,db2,bne,Int.toNat_natCast,put,fillP,EVt]
              intros
              first | exact hK _ | (simp only [ll1,beq_self_eq_true]; exact hK _) | (simp only [ll2,beq_self_eq_true]; exact hK _) | (simp only [ll1,ll2,beq_self_eq_true,Bool.and_self]; exact hK _)
      · obtain ⟨m2,w2,hA⟩:=ds m a rfl hpP
        obtain ⟨m3,w3,hB3⟩:=ds m2 b w2 hqP
        have hro : (m3.roE a b a == 0) = false:=by rw [roE_w w3]; simpa using hg
        rcases hex with ⟨f1,f2⟩ | ⟨f1,f2⟩
        all_goals
          rcases hA with ⟨fa,da⟩ | ⟨fa,da⟩ | ⟨fa,y,l,da⟩
          all_goals
            rcases hB3 with ⟨fb,db⟩ | ⟨fb,db⟩ | ⟨fb,y',l',db⟩
            all_goals
              refine run_sound (Tab.ok_Γ _) 300 _ _ _ _ ?_
              simp (maxSteps:=9999999) only [EV0,zy,zx,zw,zv,zu,zq,zp,zj,zk,leT,zg,rvC,zZ,zY,zX,zW,↓zV,↓zU,reduceCtorEq,zQ,yz,yY,yy,yx,yw,yv,yu,yq,yX,yj,yk,yg,yW,yV,yU,yZ,yQ,xz,TPt,TPl,↓hlen,↓hkn,↓hnl,f1,f2,plcG,dscG,dscM,dscR,ro9G,ro9M,hB,wH_m,wH_app,wH_len,hae,hbe,fa,da,fb,db,hro,bne,Int.toNat_natCast,put,fillP,EVt]
              intros
              exact hK _
end Go.Proofs.YtpmobbehdpgnbaaGreat

/- DeriveTurns: for every input the law's Go function answers true,and its arguments read behind the call as before. No conditions. -/
namespace Go.Proofs.YtpmobbehdpgnbaaGreat
open Go.D
set_option linter.all false
set_option maxRecDepth 100000

theorem deriveTurns_law : Law deriveTurnsS [(false,[.slice ActT]),(false,[.int .i64]),(false,[.int .i64])]:=by
  intro h us H hc
  obtain ⟨_,_,rfl,H1,H⟩:=lawC H
  obtain ⟨_,_,rfl,H2,H⟩:=lawC H
  obtain ⟨_,_,rfl,H3,H⟩:=lawC H
  obtain rfl:=lawN H
  obtain ⟨s,L,rfl,e1,e2,e3⟩:=hasV_slice (c:=Act.cl) (p:=Act.u) (fun ss h => hasTs_act h) H1
  obtain ⟨p,rfl,up⟩:=hasV_int H2
  obtain ⟨q,rfl,uq⟩:=hasV_int H3
  exact ⟨s,L,p,q,rfl,e1,e2,by omega,i64_b up,i64_b uq,fun _ => rfl⟩
theorem deriveTurns_row : RowOk Tryz.prog 9 Tryz.f9 Rows.deriveTurnsSpec [(false,[.slice ActT]),(false,[.int .i64]),(false,[.int .i64])] where
  own:=own
  noTabs:=rfl
  noInit:=by kernel_rfl
  isf:=Tryz.func9
  laid:=laid
  rowed:=rowed
  full:=full
  params:=by kernel_rfl
  vars:=rfl
  ret:=⟨_,rfl,by kernel_rfl⟩
  spec:=fun H ds e => by
    match ds,e with
    | [_,_,_],_ => rfl
  tys:=⟨20,by kernel_rfl⟩
theorem deriveTurns_holds : Rows.DeriveTurnsSaid :=
  OpenClaim.holds_of_wide 9 Tryz.f9 rfl rfl rfl rfl rfl rfl rfl ⟨rfl,rfl,rfl,rfl,rfl⟩ rfl rfl rfl rfl rfl (by kernel_rfl) Tryz.func9 (by kernel_rfl)
    (of_decide_eq_true (by kernel_rfl)) (by unfold Func.isWrapper; first | (rw [if_pos (by decide +kernel)]; kernel_rfl) | (rw [if_neg (by decide +kernel)]; exact ⟨rfl,rfl⟩))
    (fun os started H enc _ => deriveTurns_row.lifted (C:=Tryz.checked) deriveTurns_snd deriveTurns_law started (ChangeSpec.witness6 (enc:=enc) (C:=Tryz.checked) false ⟨#[], #[.slice none 0 0, .int .i64 0, .int .i64 0],[]⟩ 8 (by kernel_rfl) (by kernel_rfl) (by kernel_rfl) (by kernel_rfl)))
end Go.Proofs.YtpmobbehdpgnbaaGreat

