/- The document's Descendants and List. -/
import Derived.Test.YtcdfofeolgbnbaaGreatZ13
import Derived.Test.YtcdfofeolgbnbaaGreatZ24
import Derived.Test.YtcdfofeolgbnbaaGreatZ26
/- The document's Descendants and List. -/
namespace Go.Proofs.YtcdfofeolgbnbaaGreat
open Go.D
open Nat (reduceAdd reducePow reduceMul reduceSub reduceLeDiff reduceLT reduceEqDiff)
open Int (reduceNeg reduceLE reduceEq reduceNe reduceToNat)
open Go.D renaming istep → zy,pickR → zx,bin1R → zw,un1R → zv,eqS → zu,eq1 → zq,cmpS → zp,cmp1 → zj,isNil → zk,shows → zg,result → zZ,q_cond_t → zV,q_cond_f → zU
open List renaming set → zY,replicate → zX
open Option renaming map → zW
open Nat renaming reduceAdd → zQ,reducePow → yz,reduceMul → yy,reduceSub → yx,reduceLeDiff → yw,reduceLT → yv,reduceEqDiff → yu
open Int renaming reduceNeg → yq,reduceLE → yj,reduceEq → yk,reduceNe → yg,reduceToNat → yZ,reducePow → yY,reduceLT → yX,reduceAdd → yW,reduceSub → yV,reduceMul → yU,reduceBEq → yQ,reduceBNe → xz
set_option linter.all false
set_option maxRecDepth 100000
set_option maxHeartbeats 8000000

def rdW (d : Int) (N : Nat) : Nat → Int → M → List Int → Option (List Int) × M
 | 0,x,m,l => (none,m)
 | k + 1,x,m,l => if x = 0 then (some l,m) else if m.fE x = 0 ∧ l.length ≤ N then
   (if (m.gV x).depth ≤ d then (some l,m.gX x) else rdW d N k (m.gV x).next (m.gX x) (l ++ [x])) else (none,m.gX x)
def rdscM (b : Nat) (m : M) (st : M → List Blk) : List V → Res
 | [.s (.i .i64 x)] => .br (decide (m.fE x = 0)) (dscR st (rdW (m.gV x).depth (m.w.length / 4) (m.w.length / 4 + 2) (m.gV x).next (m.gX x) [])) (.ok (.tup [.s .ns, .s (.i .i64 (m.fE x))]) [] (st (m.gX x)))
 | _ => .bad
noncomputable def rdscG:=memF rdscM
def rlisM (b : Nat) (m : M) (st : M → List Blk) : List V → Res
 | [] => dscR st (rdW (-1) (m.w.length / 4) (m.w.length / 4 + 2) m.fst m.fstX [])
 | _ => .bad
noncomputable def rlisG:=memF rlisM
def rSl (i : Nat) (l : List Int) (c : Nat) : S:=match l with
 | [] => .ns
 | _ :: l => .sl (.l i) 0 (l.length + 1) c
def rLS (own : List Blk) (l : List Int) (c : Nat) : List Blk:=match l with
 | [] => own
 | x :: l => own ++ [⟨.rw,intsB (x :: l),c⟩]
noncomputable def TDr : Tab:=addT 98 fullG (addT 122 firstG (noT))
theorem TDr_snd : TDr.Snd Tryz.prog:=addT_snd ok98 rfull_snd (addT_snd ok122 rfirst_snd ((noT_snd _)))
theorem rdsc_snd : Snd Tryz.prog 129 (FSpec.of rdscG):=(fwp_sound (Tab.snd_Γ TDr_snd) mixed Tryz.func129 dc129).weaken fun args h K hc hS => by
 refine fwp_runW (Tab.ok_Γ _) 200 ?_
 obtain ⟨a,b,m,rest,rfl,H,hS1⟩:=memF_spec (f:=rdscM) hS
 clear hS
 have hS:=hS1
 clear hS1
 unfold rdscM at hS
 split at hS
 ·rename_i x
  simp only [spec_br] at hS
  obtain ⟨⟨⟨c0,c1,c2,c3,c4,c5,c6,c7,c8,c9,c10⟩,p0,q0,r0⟩,hs⟩ : ∃ s,m.gV x = s:=⟨_,rfl⟩
  by_cases hf : m.fE x = 0
  rotate_left
  ·have hS:=hS.2 (by simpa using hf)
   have hf' : (m.fE x == 0) = false:=by simpa using hf
   simp only [spec_ok] at hS
   simp (maxSteps:=9999999) only [EV0,zy,zx,zw,zv,zu,zq,zp,zj,zk,leT,zg,rvC,zZ,zY,zX,zW,↓zV,↓zU,reduceCtorEq,zQ,yz,yY,yy,yx,yw,yv,yu,yq,yX,yj,yk,yg,yW,yV,yU,yZ,yQ,xz,df129,TDr,fullG,memF_eq H,memF_set H,fullM,hs,hf,hf',bne,Slot.cl,Cap.cl,put,fillP,sub,EVt]
   refine fin_of (v:=.tup [.s .ns, .s (.i .i64 (m.fE x))]) (ls:=[]) (h:=setM h a b (m.gX x)) rfl ?_ ?_
   ·exact Wk.keep 0 rfl rfl (by simp (maxSteps:=9999999) only [EV0,zy,zx,zw,zv,zu,zq,zp,zj,zk,leT,zg,rvC,zZ,zY,zX,zW,↓zV,↓zU,reduceCtorEq,zQ,yz,yY,yy,yx,yw,yv,yu,yq,yX,yj,yk,yg,yW,yV,yU,yZ,yQ,xz]) (by rfl) (by rfl)
   ·simp (maxSteps:=9999999) only [EV0,zy,zx,zw,zv,zu,zq,zp,zj,zk,leT,zg,rvC,zZ,zY,zX,zW,↓zV,↓zU,reduceCtorEq,zQ,yz,yY,yy,yx,yw,yv,yu,yq,yX,yj,yk,yg,yW,yV,yU,yZ,yQ,xz]
    exact hS
  have hS:=hS.1 (by simpa using hf)
  rw [hs] at hS
  simp only at hS
  obtain ⟨m0,hm0⟩ : ∃ m0,m.gX x = m0:=⟨_,rfl⟩
  have hw0 : m0.w.length = m.w.length:=by rw [← hm0,gX_w]
  simp (maxSteps:=9999999) only [EV0,zy,zx,zw,zv,zu,zq,zp,zj,zk,leT,zg,rvC,zZ,zY,zX,zW,↓zV,↓zU,reduceCtorEq,zQ,yz,yY,yy,yx,yw,yv,yu,yq,yX,yj,yk,yg,yW,yV,yU,yZ,yQ,xz,df129,TDr,fullG,memF_eq H,memF_set H,fullM,hs,hf,hm0,Slot.cl,Cap.cl,put,fillP,sub,EVt]
  rw [hm0] at hS
  clear hf hs hm0
  have hlm : ∀ m2,(setM h a b m2).length = h.length:=fun _ => setM_len
  have hcm : ∀ m2,clean (setM h a b m2).length (setM h a b m2) = true:=fun _ => by rw [setM_len]; exact setM_clean H hc H.ltb
  have ha1 : ∀ m2,(setM h a b m2)[a]? = some (MB b m2):=fun m2 => (H.set m2).ha
  have hal : ∀ m2,a < (setM h a b m2).length:=fun m2 => by rw [setM_len]; exact H.lta
  have hml:=m.l
  have hq : IntKind.i64.wrap ((m.w.length : Int).tdiv 4) = ((m.w.length / 4 : Nat) : Int):=by
   rw [Int.tdiv_eq_ediv_of_nonneg (by omega),wrap64] <;> omega
  obtain ⟨N,hN⟩ : ∃ N,m.w.length / 4 = N:=⟨_,rfl⟩
  rw [hN] at hS hq
  obtain ⟨o,ho⟩ : ∃ o,rdW r0 N (N + 2) q0 m0 [] = o:=⟨_,rfl⟩
  rw [ho] at hS
  refine loop_rule (α:=List Int × Nat × Int × M) [4,5,8,9,10,11,23,24,25,26,27,28,29,30,31,32,33,34,35,36,37,38,39,40,41,42,43,44,45,46,47,48,49,50,51,52,53,54] (fun z => [(8, .s (rSl 1 z.1 z.2.1)),(9, .s (.i .i64 z.2.2.1))]) (fun z => rLS [⟨.rw,(⟨⟨c0,c1,c2,c3,c4,c5,c6,c7,c8,c9,c10⟩,p0,q0,r0⟩ : Slot).cl,14⟩] z.1 z.2.1) (fun z => setM h a b z.2.2.2) (fun z => z.1.length ≤ N + 1 ∧ z.1.length ≤ z.2.1 ∧ z.2.2.2.w.length = m.w.length ∧ rdW r0 N (N + 2 - z.1.length) z.2.2.1 z.2.2.2 z.1 = o) (fun z => N + 2 - z.1.length) ([],0,q0,m0) ⟨Nat.zero_le _,Nat.zero_le _,hw0,ho⟩ ?_ ?_
  ·refine Wk.same (by rfl) rfl ?_
   simp (maxSteps:=9999999) only [EV0,zy,zx,zw,zv,zu,zq,zp,zj,zk,leT,zg,rvC,zZ,zY,zX,zW,↓zV,↓zU,reduceCtorEq,zQ,yz,yY,yy,yx,yw,yv,yu,yq,yX,yj,yk,yg,yW,yV,yU,yZ,yQ,xz,rSl]
  ·rintro X ⟨l,c,y,m'⟩ ⟨hk,hlc,hw,ht⟩ IH
   simp only at hk hlc hw ht ⊢
   obtain ⟨k,hkk⟩ : ∃ k,N + 2 - l.length = k + 1:=⟨N + 1 - l.length,by omega⟩
   rw [hkk] at ht
   simp only [rdW] at ht
   clear ho
   have hNl : N ≤ 16384:=by omega
   have hwl : (m'.gX y).w.length = m.w.length:=by rw [gX_w]; exact hw
   simp only [Slot.cl,Cap.cl]
   by_cases hy0 : y = 0
   ·rw [if_pos hy0] at ht
    have hy : (y == 0) = true:=by simpa using hy0
    rw [← ht] at hS
    cases l with
    | nil =>
     simp only [dscR,spec_ok] at hS
     simp only [rSl,rLS]
     refine run_sound (Tab.ok_Γ _) 100 _ _ _ _ ?_
     simp (maxSteps:=9999999) only [EV0,zy,zx,zw,zv,zu,zq,zp,zj,zk,leT,zg,rvC,zZ,zY,zX,zW,↓zV,↓zU,reduceCtorEq,zQ,yz,yY,yy,yx,yw,yv,yu,yq,yX,yj,yk,yg,yW,yV,yU,yZ,yQ,xz,TDr,hy,bne]
     refine fin_of (v:=.tup [.s .ns, .s (.i .i64 0)]) (ls:=[]) (h:=setM h a b m') rfl ?_ ?_
     ·exact Wk.keep 0 rfl rfl (by simp (maxSteps:=9999999) only [EV0,zy,zx,zw,zv,zu,zq,zp,zj,zk,leT,zg,rvC,zZ,zY,zX,zW,↓zV,↓zU,reduceCtorEq,zQ,yz,yY,yy,yx,yw,yv,yu,yq,yX,yj,yk,yg,yW,yV,yU,yZ,yQ,xz]) (by rfl) (by rfl)
     ·simp (maxSteps:=9999999) only [EV0,zy,zx,zw,zv,zu,zq,zp,zj,zk,leT,zg,rvC,zZ,zY,zX,zW,↓zV,↓zU,reduceCtorEq,zQ,yz,yY,yy,yx,yw,yv,yu,yq,yX,yj,yk,yg,yW,yV,yU,yZ,yQ,xz]
      exact hS
    | cons y l' =>
     simp only [dscR,spec_all] at hS
     obtain ⟨B,hB⟩ : ∃ B,intsB (y :: l') = B:=⟨_,rfl⟩
     obtain ⟨b1,b2,b3,b4,b5,b6⟩:=intsB_is (y :: l')
     rw [hB] at b1 b2 b3 b4 b5 b6 hS
     have hb3 : ∀ a b,B.all (S.val a b) = true:=fun u v => by have:=b3 u v; simpa only [vals] using this
     simp only [rSl,rLS,hB,List.cons_append,List.nil_append]
     refine run_sound (Tab.ok_Γ _) 100 _ _ _ _ ?_
     simp (maxSteps:=9999999) only [EV0,zy,zx,zw,zv,zu,zq,zp,zj,zk,leT,zg,rvC,zZ,zY,zX,zW,↓zV,↓zU,reduceCtorEq,zQ,yz,yY,yy,yx,yw,yv,yu,yq,yX,yj,yk,yg,yW,yV,yU,yZ,yQ,xz,TDr,hy,bne]
     have hcq:=hcm m'
     have hnq : h.length ≤ (setM h a b m').length:=Nat.le_of_eq (hlm _).symm
     refine fin_of (v:=.tup [.s (.sl (.l 0) 0 (l'.length + 1) c), .s (.i .i64 0)]) (ls:=[⟨.rw,B,c⟩]) (h:=setM h a b m') rfl ?_ ?_
     ·refine Wk.sel [1] (by decide) hnq ?_ ?_ ?_ ?_ hcq (clean_pick hcq _)
      ·simp (maxSteps:=9999999) only [EV0,zy,zx,zw,zv,zu,zq,zp,zj,zk,leT,zg,rvC,zZ,zY,zX,zW,↓zV,↓zU,reduceCtorEq,zQ,yz,yY,yy,yx,yw,yv,yu,yq,yX,yj,yk,yg,yW,yV,yU,yZ,yQ,xz,List.nil_append,Blk.ren,V.ren,C.ren,S_ren,wc_ren,R.pick_g,R.pick_0,R.pick_s,List.map_append,wc_cons,wc_snoc,wc_nil,hb3,b5,result]
      ·simp (maxSteps:=9999999) only [EV0,zy,zx,zw,zv,zu,zq,zp,zj,zk,leT,zg,rvC,zZ,zY,zX,zW,↓zV,↓zU,reduceCtorEq,zQ,yz,yY,yy,yx,yw,yv,yu,yq,yX,yj,yk,yg,yW,yV,yU,yZ,yQ,xz,List.nil_append,Blk.ren,V.ren,C.ren,S_ren,wc_ren,R.pick_g,R.pick_0,R.pick_s,hb3,b5,result]
      ·simp (maxSteps:=9999999) only [EV0,zy,zx,zw,zv,zu,zq,zp,zj,zk,leT,zg,rvC,zZ,zY,zX,zW,↓zV,↓zU,reduceCtorEq,zQ,yz,yY,yy,yx,yw,yv,yu,yq,yX,yj,yk,yg,yW,yV,yU,yZ,yQ,xz,List.nil_append,app_len,nlt0,nltn,reduceLT,Nat.le_add_right,hb3,b5,result]
      ·simp (maxSteps:=9999999) only [EV0,zy,zx,zw,zv,zu,zq,zp,zj,zk,leT,zg,rvC,zZ,zY,zX,zW,↓zV,↓zU,reduceCtorEq,zQ,yz,yY,yy,yx,yw,yv,yu,yq,yX,yj,yk,yg,yW,yV,yU,yZ,yQ,xz,List.nil_append,app_len,nlt0,nltn,reduceLT,Nat.le_add_right,vals_cons,vals_nil,wc_val,wc_vals,hb3,b5,result]
     ·simp (maxSteps:=9999999) only [EV0,zy,zx,zw,zv,zu,zq,zp,zj,zk,leT,zg,rvC,zZ,zY,zX,zW,↓zV,↓zU,reduceCtorEq,zQ,yz,yY,yy,yx,yw,yv,yu,yq,yX,yj,yk,yg,yW,yV,yU,yZ,yQ,xz]
      refine ⟨[0],by simp,rfl, ?_⟩
      simp only [getAll,List.getElem?_cons_zero]
      refine ⟨?_, ?_⟩
      ·have hk:=intsB_kept [0] (y :: l')
       rw [hB] at hk
       simp only [List.all_cons,List.all_nil,hk,decide_true,Bool.and_true]
      ·refine cast ?_ (hS c (by simpa using hlc))
       simp only [V.ren,C.ren,S.ren,R.prom,List.map_cons,List.map_nil,Blk.ren,b5,spec_ok,hlm,List.idxOf,List.findIdx,List.findIdx.go,beq_self_eq_true,cond_true,Nat.add_zero,setM_len]
   ·rw [if_neg hy0] at ht
    have hy : (y == 0) = false:=by simpa using hy0
    obtain ⟨⟨⟨d0,d1,d2,d3,d4,d5,d6,d7,d8,d9,d10⟩,p1,q1,r1⟩,hs1⟩ : ∃ s,m'.gV y = s:=⟨_,rfl⟩
    rw [hs1] at ht
    simp only at ht
    by_cases hf : m'.fE y = 0
    ·by_cases hNN : l.length ≤ N
     ·rw [if_pos ⟨hf,hNN⟩] at ht
      have hgt : ¬ ((N : Int) < (l.length : Int)):=by omega
      by_cases hd : r1 ≤ r0
      ·rw [if_pos hd] at ht
       rw [← ht] at hS
       cases l with
       | nil =>
        have hgt0 : ¬ ((N : Int) < 0):=by omega
        simp only [dscR,spec_ok] at hS
        simp only [rSl,rLS]
        refine run_sound (Tab.ok_Γ _) 100 _ _ _ _ ?_
        simp (maxSteps:=9999999) only [EV0,zy,zx,zw,zv,zu,zq,zp,zj,zk,leT,zg,rvC,zZ,zY,zX,zW,↓zV,↓zU,reduceCtorEq,zQ,yz,yY,yy,yx,yw,yv,yu,yq,yX,yj,yk,yg,yW,yV,yU,yZ,yQ,xz,TDr,fullG,memF_set H,setM_fun H,fullM,ha1,MB,hs1,hf,hy,Slot.cl,Cap.cl,bne,hq,hwl,put,fillP,sub,EVt,hd,hgt0]
        refine fin_of (v:=.tup [.s .ns, .s (.i .i64 0)]) (ls:=[]) (h:=setM h a b (m'.gX y)) rfl ?_ ?_
        ·exact Wk.keep 0 rfl rfl (by simp (maxSteps:=9999999) only [EV0,zy,zx,zw,zv,zu,zq,zp,zj,zk,leT,zg,rvC,zZ,zY,zX,zW,↓zV,↓zU,reduceCtorEq,zQ,yz,yY,yy,yx,yw,yv,yu,yq,yX,yj,yk,yg,yW,yV,yU,yZ,yQ,xz]) (by rfl) (by rfl)
        ·simp (maxSteps:=9999999) only [EV0,zy,zx,zw,zv,zu,zq,zp,zj,zk,leT,zg,rvC,zZ,zY,zX,zW,↓zV,↓zU,reduceCtorEq,zQ,yz,yY,yy,yx,yw,yv,yu,yq,yX,yj,yk,yg,yW,yV,yU,yZ,yQ,xz]
         exact hS
       | cons z l' =>
        have hgt0:=hgt
        simp only [List.length_cons] at hgt0
        simp only [dscR,spec_all] at hS
        obtain ⟨B,hB⟩ : ∃ B,intsB (z :: l') = B:=⟨_,rfl⟩
        obtain ⟨b1,b2,b3,b4,b5,b6⟩:=intsB_is (z :: l')
        rw [hB] at b1 b2 b3 b4 b5 b6 hS
        have hb3 : ∀ a b,B.all (S.val a b) = true:=fun u v => by have:=b3 u v; simpa only [vals] using this
        simp only [rSl,rLS,hB,List.cons_append,List.nil_append]
        refine run_sound (Tab.ok_Γ _) 100 _ _ _ _ ?_
        simp (maxSteps:=9999999) only [EV0,zy,zx,zw,zv,zu,zq,zp,zj,zk,leT,zg,rvC,zZ,zY,zX,zW,↓zV,↓zU,reduceCtorEq,zQ,yz,yY,yy,yx,yw,yv,yu,yq,yX,yj,yk,yg,yW,yV,yU,yZ,yQ,xz,TDr,fullG,memF_set H,setM_fun H,fullM,ha1,MB,hs1,hf,hy,Slot.cl,Cap.cl,bne,hq,hwl,put,fillP,sub,EVt,hd,hgt0]
        have hcq:=hcm (m'.gX y)
        have hnq : h.length ≤ (setM h a b (m'.gX y)).length:=Nat.le_of_eq (hlm _).symm
        refine fin_of (v:=.tup [.s (.sl (.l 0) 0 (l'.length + 1) c), .s (.i .i64 0)]) (ls:=[⟨.rw,B,c⟩]) (h:=setM h a b (m'.gX y)) rfl ?_ ?_
        ·refine Wk.sel [1] (by decide) hnq ?_ ?_ ?_ ?_ hcq (clean_pick hcq _)
         ·simp (maxSteps:=9999999) only [EV0,zy,zx,zw,zv,zu,zq,zp,zj,zk,leT,zg,rvC,zZ,zY,zX,zW,↓zV,↓zU,reduceCtorEq,zQ,yz,yY,yy,yx,yw,yv,yu,yq,yX,yj,yk,yg,yW,yV,yU,yZ,yQ,xz,List.nil_append,Blk.ren,V.ren,C.ren,S_ren,wc_ren,R.pick_g,R.pick_0,R.pick_s,List.map_append,wc_cons,wc_snoc,wc_nil,hb3,b5,result]
         ·simp (maxSteps:=9999999) only [EV0,zy,zx,zw,zv,zu,zq,zp,zj,zk,leT,zg,rvC,zZ,zY,zX,zW,↓zV,↓zU,reduceCtorEq,zQ,yz,yY,yy,yx,yw,yv,yu,yq,yX,yj,yk,yg,yW,yV,yU,yZ,yQ,xz,List.nil_append,Blk.ren,V.ren,C.ren,S_ren,wc_ren,R.pick_g,R.pick_0,R.pick_s,hb3,b5,result]
         ·simp (maxSteps:=9999999) only [EV0,zy,zx,zw,zv,zu,zq,zp,zj,zk,leT,zg,rvC,zZ,zY,zX,zW,↓zV,↓zU,reduceCtorEq,zQ,yz,yY,yy,yx,yw,yv,yu,yq,yX,yj,yk,yg,yW,yV,yU,yZ,yQ,xz,List.nil_append,app_len,nlt0,nltn,reduceLT,Nat.le_add_right,hb3,b5,result]
         ·simp (maxSteps:=9999999) only [EV0,zy,zx,zw,zv,zu,zq,zp,zj,zk,leT,zg,rvC,zZ,zY,zX,zW,↓zV,↓zU,reduceCtorEq,zQ,yz,yY,yy,yx,yw,yv,yu,yq,yX,yj,yk,yg,yW,yV,yU,yZ,yQ,xz,List.nil_append,app_len,nlt0,nltn,reduceLT,Nat.le_add_right,vals_cons,vals_nil,wc_val,wc_vals,hb3,b5,result]
        ·simp (maxSteps:=9999999) only [EV0,zy,zx,zw,zv,zu,zq,zp,zj,zk,leT,zg,rvC,zZ,zY,zX,zW,↓zV,↓zU,reduceCtorEq,zQ,yz,yY,yy,yx,yw,yv,yu,yq,yX,yj,yk,yg,yW,yV,yU,yZ,yQ,xz]
         refine ⟨[0],by simp,rfl, ?_⟩
         simp only [getAll,List.getElem?_cons_zero]
         refine ⟨?_, ?_⟩
         ·have hk:=intsB_kept [0] (z :: l')
          rw [hB] at hk
          simp only [List.all_cons,List.all_nil,hk,decide_true,Bool.and_true]
         ·refine cast ?_ (hS c (by simpa using hlc))
          simp only [V.ren,C.ren,S.ren,R.prom,List.map_cons,List.map_nil,Blk.ren,b5,spec_ok,hlm,List.idxOf,List.findIdx,List.findIdx.go,beq_self_eq_true,cond_true,Nat.add_zero,setM_len]
      ·rw [if_neg hd] at ht
       have hcq:=hcm (m'.gX y)
       have hnq : h.length ≤ (setM h a b (m'.gX y)).length:=Nat.le_of_eq (hlm _).symm
       have hal1:=hal (m'.gX y)
       cases l with
       | nil =>
        have hgt0 : ¬ ((N : Int) < 0):=by omega
        simp only [rSl,rLS]
        refine run_sound (Tab.ok_Γ _) 100 _ _ _ _ ?_
        simp (maxSteps:=9999999) only [EV0,zy,zx,zw,zv,zu,zq,zp,zj,zk,leT,zg,rvC,zZ,zY,zX,zW,↓zV,↓zU,reduceCtorEq,zQ,yz,yY,yy,yx,yw,yv,yu,yq,yX,yj,yk,yg,yW,yV,yU,yZ,yQ,xz,TDr,fullG,memF_set H,setM_fun H,fullM,ha1,MB,hs1,hf,hy,Slot.cl,Cap.cl,bne,hq,hwl,put,fillP,sub,EVt,hd,hgt0]
        intro c1 hle1
        refine IH ([y],c1,q1,m'.gX y) _ (by simp only [List.length_cons,List.length_nil] at hk hkk ⊢; omega) ⟨by simp,by simpa using hle1,hwl, ?_⟩ ?_
        ·simp only [List.length_cons,List.length_nil] at hkk ⊢
         rw [show N + 2 - (0 + 1) = k by omega]
         exact ht
        ·simp only [rSl,rLS,intsB,List.map_cons,List.map_nil,List.length_nil,Nat.zero_add,Nat.mul_one,List.cons_append,List.nil_append,Slot.cl,Cap.cl]
         refine Wk.sel [0,3] (by decide) hnq ?_ ?_ ?_ ?_ hcq (clean_pick hcq _)
         ·simp (maxSteps:=9999999) only [EV0,zy,zx,zw,zv,zu,zq,zp,zj,zk,leT,zg,rvC,zZ,zY,zX,zW,↓zV,↓zU,reduceCtorEq,zQ,yz,yY,yy,yx,yw,yv,yu,yq,yX,yj,yk,yg,yW,yV,yU,yZ,yQ,xz,List.nil_append,Blk.ren,V.ren,C.ren,S_ren,wc_ren,R.pick_g,R.pick_0,R.pick_s,List.map_append,wc_cons,wc_snoc,wc_nil,Nat.mul_one,hal1]
         ·simp (maxSteps:=9999999) only [EV0,zy,zx,zw,zv,zu,zq,zp,zj,zk,leT,zg,rvC,zZ,zY,zX,zW,↓zV,↓zU,reduceCtorEq,zQ,yz,yY,yy,yx,yw,yv,yu,yq,yX,yj,yk,yg,yW,yV,yU,yZ,yQ,xz,List.nil_append,Blk.ren,V.ren,C.ren,S_ren,wc_ren,R.pick_g,R.pick_0,R.pick_s,Nat.mul_one,hal1]
         ·simp (maxSteps:=9999999) only [EV0,zy,zx,zw,zv,zu,zq,zp,zj,zk,leT,zg,rvC,zZ,zY,zX,zW,↓zV,↓zU,reduceCtorEq,zQ,yz,yY,yy,yx,yw,yv,yu,yq,yX,yj,yk,yg,yW,yV,yU,yZ,yQ,xz,List.nil_append,app_len,nlt0,nltn,reduceLT,Nat.le_add_right,Nat.mul_one,hal1]
         ·simp (maxSteps:=9999999) only [EV0,zy,zx,zw,zv,zu,zq,zp,zj,zk,leT,zg,rvC,zZ,zY,zX,zW,↓zV,↓zU,reduceCtorEq,zQ,yz,yY,yy,yx,yw,yv,yu,yq,yX,yj,yk,yg,yW,yV,yU,yZ,yQ,xz,List.nil_append,app_len,nlt0,nltn,reduceLT,Nat.le_add_right,vals_cons,vals_nil,wc_val,wc_vals,Nat.mul_one,hal1]
       | cons z l' =>
        obtain ⟨B,hB⟩ : ∃ B,intsB (z :: l') = B:=⟨_,rfl⟩
        obtain ⟨b1,b2,b3,b4,b5,b6⟩:=intsB_is (z :: l')
        rw [hB] at b1 b2 b3 b4 b5 b6
        have hb3 : ∀ a b,B.all (S.val a b) = true:=fun u v => by have:=b3 u v; simpa only [vals] using this
        have hgt0:=hgt
        simp only [List.length_cons] at hgt0
        simp only [rSl,rLS,hB,List.cons_append,List.nil_append]
        refine run_sound (Tab.ok_Γ _) 100 _ _ _ _ ?_
        simp (maxSteps:=9999999) only [EV0,zy,zx,zw,zv,zu,zq,zp,zj,zk,leT,zg,rvC,zZ,zY,zX,zW,↓zV,↓zU,reduceCtorEq,zQ,yz,yY,yy,yx,yw,yv,yu,yq,yX,yj,yk,yg,yW,yV,yU,yZ,yQ,xz,TDr,fullG,memF_set H,setM_fun H,fullM,ha1,MB,hs1,hf,hy,Slot.cl,Cap.cl,bne,hq,hwl,put,fillP,sub,EVt,hd,hgt0,b1,b2,b3,b4]
        refine ⟨by simp only [List.length_cons] at hk; omega,fun c1 hle1 => ?_⟩
        refine IH (z :: l' ++ [y],c1,q1,m'.gX y) _ (by simp only [List.length_append,List.length_cons,List.length_nil] at hk hkk ⊢; omega) ⟨by simp only [List.length_append,List.length_cons,List.length_nil] at hNN ⊢; omega,by simp only [List.length_append,List.length_cons,List.length_nil] at hle1 ⊢; omega,hwl, ?_⟩ ?_
        ·simp only [List.length_append,List.length_cons,List.length_nil] at hkk ⊢
         rw [show N + 2 - (l'.length + 1 + (0 + 1)) = k by omega]
         exact ht
        ·have hB2 : intsB (z :: (l' ++ [y])) = B ++ [.i .i64 y]:=by rw [← hB,intsB_app]; rfl
         have hl2 : (l' ++ [y]).length + 1 = l'.length + 1 + 1:=by simp
         simp only [rSl,rLS,List.cons_append,List.nil_append,hB2,hl2,Nat.mul_one,Slot.cl,Cap.cl]
         refine Wk.sel [0,1] (by decide) hnq ?_ ?_ ?_ ?_ hcq (clean_pick hcq _)
         ·simp (maxSteps:=9999999) only [EV0,zy,zx,zw,zv,zu,zq,zp,zj,zk,leT,zg,rvC,zZ,zY,zX,zW,↓zV,↓zU,reduceCtorEq,zQ,yz,yY,yy,yx,yw,yv,yu,yq,yX,yj,yk,yg,yW,yV,yU,yZ,yQ,xz,List.nil_append,Blk.ren,V.ren,C.ren,S_ren,wc_ren,R.pick_g,R.pick_0,R.pick_s,List.map_append,wc_cons,wc_snoc,wc_nil,Nat.mul_one,hal1,hb3,b5,List.map_append,List.map_cons,List.map_nil,vals,List.all_append]
         ·simp (maxSteps:=9999999) only [EV0,zy,zx,zw,zv,zu,zq,zp,zj,zk,leT,zg,rvC,zZ,zY,zX,zW,↓zV,↓zU,reduceCtorEq,zQ,yz,yY,yy,yx,yw,yv,yu,yq,yX,yj,yk,yg,yW,yV,yU,yZ,yQ,xz,List.nil_append,Blk.ren,V.ren,C.ren,S_ren,wc_ren,R.pick_g,R.pick_0,R.pick_s,Nat.mul_one,hal1,hb3,b5,List.map_append,List.map_cons,List.map_nil,vals,List.all_append]
         ·simp (maxSteps:=9999999) only [EV0,zy,zx,zw,zv,zu,zq,zp,zj,zk,leT,zg,rvC,zZ,zY,zX,zW,↓zV,↓zU,reduceCtorEq,zQ,yz,yY,yy,yx,yw,yv,yu,yq,yX,yj,yk,yg,yW,yV,yU,yZ,yQ,xz,List.nil_append,app_len,nlt0,nltn,reduceLT,Nat.le_add_right,Nat.mul_one,hal1,hb3,b5,List.map_append,List.map_cons,List.map_nil,vals,List.all_append]
         ·simp (maxSteps:=9999999) only [EV0,zy,zx,zw,zv,zu,zq,zp,zj,zk,leT,zg,rvC,zZ,zY,zX,zW,↓zV,↓zU,reduceCtorEq,zQ,yz,yY,yy,yx,yw,yv,yu,yq,yX,yj,yk,yg,yW,yV,yU,yZ,yQ,xz,List.nil_append,app_len,nlt0,nltn,reduceLT,Nat.le_add_right,vals_cons,vals_nil,wc_val,wc_vals,Nat.mul_one,hal1,hb3,b5,List.map_append,List.map_cons,List.map_nil,vals,List.all_append]
     ·rw [if_neg fun h => hNN h.2] at ht
      have hgt : (N : Int) < (l.length : Int):=by omega
      rw [← ht] at hS
      simp only [dscR,spec_ok] at hS
      cases l with
      | nil =>
       have hgt0 : (N : Int) < 0:=by simpa using hgt
       simp only [rSl,rLS]
       refine run_sound (Tab.ok_Γ _) 100 _ _ _ _ ?_
       simp (maxSteps:=9999999) only [EV0,zy,zx,zw,zv,zu,zq,zp,zj,zk,leT,zg,rvC,zZ,zY,zX,zW,↓zV,↓zU,reduceCtorEq,zQ,yz,yY,yy,yx,yw,yv,yu,yq,yX,yj,yk,yg,yW,yV,yU,yZ,yQ,xz,TDr,fullG,memF_set H,setM_fun H,fullM,ha1,MB,hs1,hf,hy,Slot.cl,Cap.cl,bne,hq,hwl,put,fillP,sub,EVt,hgt0,List.length_nil]
       refine fin_of (v:=.tup [.s .ns, .s (.i .i64 110)]) (ls:=[]) (h:=setM h a b (m'.gX y)) rfl ?_ ?_
       ·exact Wk.keep 0 rfl rfl (by simp (maxSteps:=9999999) only [EV0,zy,zx,zw,zv,zu,zq,zp,zj,zk,leT,zg,rvC,zZ,zY,zX,zW,↓zV,↓zU,reduceCtorEq,zQ,yz,yY,yy,yx,yw,yv,yu,yq,yX,yj,yk,yg,yW,yV,yU,yZ,yQ,xz]) (by rfl) (by rfl)
       ·simp (maxSteps:=9999999) only [EV0,zy,zx,zw,zv,zu,zq,zp,zj,zk,leT,zg,rvC,zZ,zY,zX,zW,↓zV,↓zU,reduceCtorEq,zQ,yz,yY,yy,yx,yw,yv,yu,yq,yX,yj,yk,yg,yW,yV,yU,yZ,yQ,xz]
        exact hS
      | cons z l' =>
       have hgt0:=hgt
       simp only [List.length_cons] at hgt0
       simp only [rSl,rLS,List.cons_append,List.nil_append]
       refine run_sound (Tab.ok_Γ _) 100 _ _ _ _ ?_
       simp (maxSteps:=9999999) only [EV0,zy,zx,zw,zv,zu,zq,zp,zj,zk,leT,zg,rvC,zZ,zY,zX,zW,↓zV,↓zU,reduceCtorEq,zQ,yz,yY,yy,yx,yw,yv,yu,yq,yX,yj,yk,yg,yW,yV,yU,yZ,yQ,xz,TDr,fullG,memF_set H,setM_fun H,fullM,ha1,MB,hs1,hf,hy,Slot.cl,Cap.cl,bne,hq,hwl,put,fillP,sub,EVt,hgt0,List.length_cons]
       refine fin_of (v:=.tup [.s .ns, .s (.i .i64 110)]) (ls:=[]) (h:=setM h a b (m'.gX y)) rfl ?_ ?_
       ·exact Wk.keep 0 rfl rfl (by simp (maxSteps:=9999999) only [EV0,zy,zx,zw,zv,zu,zq,zp,zj,zk,leT,zg,rvC,zZ,zY,zX,zW,↓zV,↓zU,reduceCtorEq,zQ,yz,yY,yy,yx,yw,yv,yu,yq,yX,yj,yk,yg,yW,yV,yU,yZ,yQ,xz]) (by rfl) (by rfl)
       ·simp (maxSteps:=9999999) only [EV0,zy,zx,zw,zv,zu,zq,zp,zj,zk,leT,zg,rvC,zZ,zY,zX,zW,↓zV,↓zU,reduceCtorEq,zQ,yz,yY,yy,yx,yw,yv,yu,yq,yX,yj,yk,yg,yW,yV,yU,yZ,yQ,xz]
        exact hS
    ·rw [if_neg fun h => hf h.1] at ht
     have hf' : (m'.fE y == 0) = false:=by simpa using hf
     rw [← ht] at hS
     simp only [dscR,spec_ok] at hS
     cases l with
     | nil =>
      simp only [rSl,rLS]
      refine run_sound (Tab.ok_Γ _) 100 _ _ _ _ ?_
      simp (maxSteps:=9999999) only [EV0,zy,zx,zw,zv,zu,zq,zp,zj,zk,leT,zg,rvC,zZ,zY,zX,zW,↓zV,↓zU,reduceCtorEq,zQ,yz,yY,yy,yx,yw,yv,yu,yq,yX,yj,yk,yg,yW,yV,yU,yZ,yQ,xz,TDr,fullG,memF_set H,setM_fun H,fullM,ha1,MB,hs1,hf,hy,Slot.cl,Cap.cl,bne,hq,hwl,put,fillP,sub,EVt,hf',List.length_nil]
      refine fin_of (v:=.tup [.s .ns, .s (.i .i64 110)]) (ls:=[]) (h:=setM h a b (m'.gX y)) rfl ?_ ?_
      ·exact Wk.keep 0 rfl rfl (by simp (maxSteps:=9999999) only [EV0,zy,zx,zw,zv,zu,zq,zp,zj,zk,leT,zg,rvC,zZ,zY,zX,zW,↓zV,↓zU,reduceCtorEq,zQ,yz,yY,yy,yx,yw,yv,yu,yq,yX,yj,yk,yg,yW,yV,yU,yZ,yQ,xz]) (by rfl) (by rfl)
      ·simp (maxSteps:=9999999) only [EV0,zy,zx,zw,zv,zu,zq,zp,zj,zk,leT,zg,rvC,zZ,zY,zX,zW,↓zV,↓zU,reduceCtorEq,zQ,yz,yY,yy,yx,yw,yv,yu,yq,yX,yj,yk,yg,yW,yV,yU,yZ,yQ,xz]
       exact hS
     | cons z l' =>
      simp only [rSl,rLS,List.cons_append,List.nil_append]
      refine run_sound (Tab.ok_Γ _) 100 _ _ _ _ ?_
      simp (maxSteps:=9999999) only [EV0,zy,zx,zw,zv,zu,zq,zp,zj,zk,leT,zg,rvC,zZ,zY,zX,zW,↓zV,↓zU,reduceCtorEq,zQ,yz,yY,yy,yx,yw,yv,yu,yq,yX,yj,yk,yg,yW,yV,yU,yZ,yQ,xz,TDr,fullG,memF_set H,setM_fun H,fullM,ha1,MB,hs1,hf,hy,Slot.cl,Cap.cl,bne,hq,hwl,put,fillP,sub,EVt,hf',List.length_cons]
      refine fin_of (v:=.tup [.s .ns, .s (.i .i64 110)]) (ls:=[]) (h:=setM h a b (m'.gX y)) rfl ?_ ?_
      ·exact Wk.keep 0 rfl rfl (by simp (maxSteps:=9999999) only [EV0,zy,zx,zw,zv,zu,zq,zp,zj,zk,leT,zg,rvC,zZ,zY,zX,zW,↓zV,↓zU,reduceCtorEq,zQ,yz,yY,yy,yx,yw,yv,yu,yq,yX,yj,yk,yg,yW,yV,yU,yZ,yQ,xz]) (by rfl) (by rfl)
      ·simp (maxSteps:=9999999) only [EV0,zy,zx,zw,zv,zu,zq,zp,zj,zk,leT,zg,rvC,zZ,zY,zX,zW,↓zV,↓zU,reduceCtorEq,zQ,yz,yY,yy,yx,yw,yv,yu,yq,yX,yj,yk,yg,yW,yV,yU,yZ,yQ,xz]
       exact hS
 ·exact hS.elim
theorem rlis_snd : Snd Tryz.prog 120 (FSpec.of rlisG):=(fwp_sound (Tab.snd_Γ TDr_snd) mixed Tryz.func120 dc120).weaken fun args h K hc hS => by
 refine fwp_runW (Tab.ok_Γ _) 200 ?_
 obtain ⟨a,b,m,rest,rfl,H,hS1⟩:=memF_spec (f:=rlisM) hS
 clear hS
 have hS:=hS1
 clear hS1
 unfold rlisM at hS
 split at hS
 ·obtain ⟨m0,hm0⟩ : ∃ m0,m.fstX = m0:=⟨_,rfl⟩
  obtain ⟨q0,hq0⟩ : ∃ q0,m.fst = q0:=⟨_,rfl⟩
  have hw0 : m0.w.length = m.w.length:=by rw [← hm0]; unfold M.fstX; split <;> rfl
  rw [hm0,hq0] at hS
  simp (maxSteps:=9999999) only [EV0,zy,zx,zw,zv,zu,zq,zp,zj,zk,leT,zg,rvC,zZ,zY,zX,zW,↓zV,↓zU,reduceCtorEq,zQ,yz,yY,yy,yx,yw,yv,yu,yq,yX,yj,yk,yg,yW,yV,yU,yZ,yQ,xz,df120,TDr,firstG,firstM,memF_eq H,memF_set H,hm0,hq0,put,fillP,sub,EVt]
  clear hm0 hq0
  have hlm : ∀ m2,(setM h a b m2).length = h.length:=fun _ => setM_len
  have hcm : ∀ m2,clean (setM h a b m2).length (setM h a b m2) = true:=fun _ => by rw [setM_len]; exact setM_clean H hc H.ltb
  have ha1 : ∀ m2,(setM h a b m2)[a]? = some (MB b m2):=fun m2 => (H.set m2).ha
  have hal : ∀ m2,a < (setM h a b m2).length:=fun m2 => by rw [setM_len]; exact H.lta
  have hml:=m.l
  have hq : IntKind.i64.wrap ((m.w.length : Int).tdiv 4) = ((m.w.length / 4 : Nat) : Int):=by
   rw [Int.tdiv_eq_ediv_of_nonneg (by omega),wrap64] <;> omega
  obtain ⟨N,hN⟩ : ∃ N,m.w.length / 4 = N:=⟨_,rfl⟩
  rw [hN] at hS hq
  obtain ⟨o,ho⟩ : ∃ o,rdW (-1) N (N + 2) q0 m0 [] = o:=⟨_,rfl⟩
  rw [ho] at hS
  refine loop_rule (α:=List Int × Nat × Int × M) [2,3,4,5,6,7,10,11,12,13,14,15,16,17,18,19,20,21,22,23,24,25,26,27,28,29,30,31,32,33,34,35,36] (fun z => [(4, .s (rSl 0 z.1 z.2.1)),(5, .s (.i .i64 z.2.2.1))]) (fun z => rLS [] z.1 z.2.1) (fun z => setM h a b z.2.2.2) (fun z => z.1.length ≤ N + 1 ∧ z.1.length ≤ z.2.1 ∧ z.2.2.2.w.length = m.w.length ∧ rdW (-1) N (N + 2 - z.1.length) z.2.2.1 z.2.2.2 z.1 = o) (fun z => N + 2 - z.1.length) ([],0,q0,m0) ⟨Nat.zero_le _,Nat.zero_le _,hw0,ho⟩ ?_ ?_
  ·refine Wk.same (by rfl) rfl ?_
   simp (maxSteps:=9999999) only [EV0,zy,zx,zw,zv,zu,zq,zp,zj,zk,leT,zg,rvC,zZ,zY,zX,zW,↓zV,↓zU,reduceCtorEq,zQ,yz,yY,yy,yx,yw,yv,yu,yq,yX,yj,yk,yg,yW,yV,yU,yZ,yQ,xz,rSl]
  ·rintro X ⟨l,c,y,m'⟩ ⟨hk,hlc,hw,ht⟩ IH
   simp only at hk hlc hw ht ⊢
   obtain ⟨k,hkk⟩ : ∃ k,N + 2 - l.length = k + 1:=⟨N + 1 - l.length,by omega⟩
   rw [hkk] at ht
   simp only [rdW] at ht
   clear ho
   have hNl : N ≤ 16384:=by omega
   have hwl : (m'.gX y).w.length = m.w.length:=by rw [gX_w]; exact hw
   by_cases hy0 : y = 0
   ·rw [if_pos hy0] at ht
    have hy : (y == 0) = true:=by simpa using hy0
    rw [← ht] at hS
    cases l with
    | nil =>
     simp only [dscR,spec_ok] at hS
     simp only [rSl,rLS]
     refine run_sound (Tab.ok_Γ _) 100 _ _ _ _ ?_
     simp (maxSteps:=9999999) only [EV0,zy,zx,zw,zv,zu,zq,zp,zj,zk,leT,zg,rvC,zZ,zY,zX,zW,↓zV,↓zU,reduceCtorEq,zQ,yz,yY,yy,yx,yw,yv,yu,yq,yX,yj,yk,yg,yW,yV,yU,yZ,yQ,xz,TDr,hy,bne]
     refine fin_of (v:=.tup [.s .ns, .s (.i .i64 0)]) (ls:=[]) (h:=setM h a b m') rfl ?_ ?_
     ·exact Wk.keep 0 rfl rfl (by simp (maxSteps:=9999999) only [EV0,zy,zx,zw,zv,zu,zq,zp,zj,zk,leT,zg,rvC,zZ,zY,zX,zW,↓zV,↓zU,reduceCtorEq,zQ,yz,yY,yy,yx,yw,yv,yu,yq,yX,yj,yk,yg,yW,yV,yU,yZ,yQ,xz]) (by rfl) (by rfl)
     ·simp (maxSteps:=9999999) only [EV0,zy,zx,zw,zv,zu,zq,zp,zj,zk,leT,zg,rvC,zZ,zY,zX,zW,↓zV,↓zU,reduceCtorEq,zQ,yz,yY,yy,yx,yw,yv,yu,yq,yX,yj,yk,yg,yW,yV,yU,yZ,yQ,xz]
      exact hS
    | cons y l' =>
     simp only [dscR,spec_all] at hS
     obtain ⟨B,hB⟩ : ∃ B,intsB (y :: l') = B:=⟨_,rfl⟩
     obtain ⟨b1,b2,b3,b4,b5,b6⟩:=intsB_is (y :: l')
     rw [hB] at b1 b2 b3 b4 b5 b6 hS
     have hb3 : ∀ a b,B.all (S.val a b) = true:=fun u v => by have:=b3 u v; simpa only [vals] using this
     simp only [rSl,rLS,hB,List.cons_append,List.nil_append]
     refine run_sound (Tab.ok_Γ _) 100 _ _ _ _ ?_
     simp (maxSteps:=9999999) only [EV0,zy,zx,zw,zv,zu,zq,zp,zj,zk,leT,zg,rvC,zZ,zY,zX,zW,↓zV,↓zU,reduceCtorEq,zQ,yz,yY,yy,yx,yw,yv,yu,yq,yX,yj,yk,yg,yW,yV,yU,yZ,yQ,xz,TDr,hy,bne]
     have hcq:=hcm m'
     have hnq : h.length ≤ (setM h a b m').length:=Nat.le_of_eq (hlm _).symm
     refine fin_of (v:=.tup [.s (.sl (.l 0) 0 (l'.length + 1) c), .s (.i .i64 0)]) (ls:=[⟨.rw,B,c⟩]) (h:=setM h a b m') rfl ?_ ?_
     ·refine Wk.sel [0] (by decide) hnq ?_ ?_ ?_ ?_ hcq (clean_pick hcq _)
      ·simp (maxSteps:=9999999) only [EV0,zy,zx,zw,zv,zu,zq,zp,zj,zk,leT,zg,rvC,zZ,zY,zX,zW,↓zV,↓zU,reduceCtorEq,zQ,yz,yY,yy,yx,yw,yv,yu,yq,yX,yj,yk,yg,yW,yV,yU,yZ,yQ,xz,List.nil_append,Blk.ren,V.ren,C.ren,S_ren,wc_ren,R.pick_g,R.pick_0,R.pick_s,List.map_append,wc_cons,wc_snoc,wc_nil,hb3,b5,result]
      ·simp (maxSteps:=9999999) only [EV0,zy,zx,zw,zv,zu,zq,zp,zj,zk,leT,zg,rvC,zZ,zY,zX,zW,↓zV,↓zU,reduceCtorEq,zQ,yz,yY,yy,yx,yw,yv,yu,yq,yX,yj,yk,yg,yW,yV,yU,yZ,yQ,xz,List.nil_append,Blk.ren,V.ren,C.ren,S_ren,wc_ren,R.pick_g,R.pick_0,R.pick_s,hb3,b5,result]
      ·simp (maxSteps:=9999999) only [EV0,zy,zx,zw,zv,zu,zq,zp,zj,zk,leT,zg,rvC,zZ,zY,zX,zW,↓zV,↓zU,reduceCtorEq,zQ,yz,yY,yy,yx,yw,yv,yu,yq,yX,yj,yk,yg,yW,yV,yU,yZ,yQ,xz,List.nil_append,app_len,nlt0,nltn,reduceLT,Nat.le_add_right,hb3,b5,result]
      ·simp (maxSteps:=9999999) only [EV0,zy,zx,zw,zv,zu,zq,zp,zj,zk,leT,zg,rvC,zZ,zY,zX,zW,↓zV,↓zU,reduceCtorEq,zQ,yz,yY,yy,yx,yw,yv,yu,yq,yX,yj,yk,yg,yW,yV,yU,yZ,yQ,xz,List.nil_append,app_len,nlt0,nltn,reduceLT,Nat.le_add_right,vals_cons,vals_nil,wc_val,wc_vals,hb3,b5,result]
     ·simp (maxSteps:=9999999) only [EV0,zy,zx,zw,zv,zu,zq,zp,zj,zk,leT,zg,rvC,zZ,zY,zX,zW,↓zV,↓zU,reduceCtorEq,zQ,yz,yY,yy,yx,yw,yv,yu,yq,yX,yj,yk,yg,yW,yV,yU,yZ,yQ,xz]
      refine ⟨[0],by simp,rfl, ?_⟩
      simp only [getAll,List.getElem?_cons_zero]
      refine ⟨?_, ?_⟩
      ·have hk:=intsB_kept [0] (y :: l')
       rw [hB] at hk
       simp only [List.all_cons,List.all_nil,hk,decide_true,Bool.and_true]
      ·refine cast ?_ (hS c (by simpa using hlc))
       simp only [V.ren,C.ren,S.ren,R.prom,List.map_cons,List.map_nil,Blk.ren,b5,spec_ok,hlm,List.idxOf,List.findIdx,List.findIdx.go,beq_self_eq_true,cond_true,Nat.add_zero,setM_len]
   ·rw [if_neg hy0] at ht
    have hy : (y == 0) = false:=by simpa using hy0
    obtain ⟨⟨⟨d0,d1,d2,d3,d4,d5,d6,d7,d8,d9,d10⟩,p1,q1,r1⟩,hs1⟩ : ∃ s,m'.gV y = s:=⟨_,rfl⟩
    rw [hs1] at ht
    simp only at ht
    by_cases hf : m'.fE y = 0
    ·by_cases hNN : l.length ≤ N
     ·rw [if_pos ⟨hf,hNN⟩] at ht
      have hgt : ¬ ((N : Int) < (l.length : Int)):=by omega
      rw [if_neg (show ¬ r1 ≤ -1 by have:=gV_dep m' y; rw [hs1] at this; exact this)] at ht
      have hcq:=hcm (m'.gX y)
      have hnq : h.length ≤ (setM h a b (m'.gX y)).length:=Nat.le_of_eq (hlm _).symm
      have hal1:=hal (m'.gX y)
      cases l with
      | nil =>
       have hgt0 : ¬ ((N : Int) < 0):=by omega
       simp only [rSl,rLS]
       refine run_sound (Tab.ok_Γ _) 100 _ _ _ _ ?_
       simp (maxSteps:=9999999) only [EV0,zy,zx,zw,zv,zu,zq,zp,zj,zk,leT,zg,rvC,zZ,zY,zX,zW,↓zV,↓zU,reduceCtorEq,zQ,yz,yY,yy,yx,yw,yv,yu,yq,yX,yj,yk,yg,yW,yV,yU,yZ,yQ,xz,TDr,fullG,memF_set H,setM_fun H,fullM,ha1,MB,hs1,hf,hy,Slot.cl,Cap.cl,bne,hq,hwl,put,fillP,sub,EVt,hgt0]
       intro c1 hle1
       refine IH ([y],c1,q1,m'.gX y) _ (by simp only [List.length_cons,List.length_nil] at hk hkk ⊢; omega) ⟨by simp,by simpa using hle1,hwl, ?_⟩ ?_
       ·simp only [List.length_cons,List.length_nil] at hkk ⊢
        rw [show N + 2 - (0 + 1) = k by omega]
        exact ht
       ·simp only [rSl,rLS,intsB,List.map_cons,List.map_nil,List.length_nil,Nat.zero_add,Nat.mul_one,List.cons_append,List.nil_append,Slot.cl,Cap.cl]
        refine Wk.sel [2] (by decide) hnq ?_ ?_ ?_ ?_ hcq (clean_pick hcq _)
        ·simp (maxSteps:=9999999) only [EV0,zy,zx,zw,zv,zu,zq,zp,zj,zk,leT,zg,rvC,zZ,zY,zX,zW,↓zV,↓zU,reduceCtorEq,zQ,yz,yY,yy,yx,yw,yv,yu,yq,yX,yj,yk,yg,yW,yV,yU,yZ,yQ,xz,List.nil_append,Blk.ren,V.ren,C.ren,S_ren,wc_ren,R.pick_g,R.pick_0,R.pick_s,List.map_append,wc_cons,wc_snoc,wc_nil,Nat.mul_one,hal1]
        ·simp (maxSteps:=9999999) only [EV0,zy,zx,zw,zv,zu,zq,zp,zj,zk,leT,zg,rvC,zZ,zY,zX,zW,↓zV,↓zU,reduceCtorEq,zQ,yz,yY,yy,yx,yw,yv,yu,yq,yX,yj,yk,yg,yW,yV,yU,yZ,yQ,xz,List.nil_append,Blk.ren,V.ren,C.ren,S_ren,wc_ren,R.pick_g,R.pick_0,R.pick_s,Nat.mul_one,hal1]
        ·simp (maxSteps:=9999999) only [EV0,zy,zx,zw,zv,zu,zq,zp,zj,zk,leT,zg,rvC,zZ,zY,zX,zW,↓zV,↓zU,reduceCtorEq,zQ,yz,yY,yy,yx,yw,yv,yu,yq,yX,yj,yk,yg,yW,yV,yU,yZ,yQ,xz,List.nil_append,app_len,nlt0,nltn,reduceLT,Nat.le_add_right,Nat.mul_one,hal1]
        ·simp (maxSteps:=9999999) only [EV0,zy,zx,zw,zv,zu,zq,zp,zj,zk,leT,zg,rvC,zZ,zY,zX,zW,↓zV,↓zU,reduceCtorEq,zQ,yz,yY,yy,yx,yw,yv,yu,yq,yX,yj,yk,yg,yW,yV,yU,yZ,yQ,xz,List.nil_append,app_len,nlt0,nltn,reduceLT,Nat.le_add_right,vals_cons,vals_nil,wc_val,wc_vals,Nat.mul_one,hal1]
      | cons z l' =>
       obtain ⟨B,hB⟩ : ∃ B,intsB (z :: l') = B:=⟨_,rfl⟩
       obtain ⟨b1,b2,b3,b4,b5,b6⟩:=intsB_is (z :: l')
       rw [hB] at b1 b2 b3 b4 b5 b6
       have hb3 : ∀ a b,B.all (S.val a b) = true:=fun u v => by have:=b3 u v; simpa only [vals] using this
       have hgt0:=hgt
       simp only [List.length_cons] at hgt0
       simp only [rSl,rLS,hB,List.cons_append,List.nil_append]
       refine run_sound (Tab.ok_Γ _) 100 _ _ _ _ ?_
       simp (maxSteps:=9999999) only [EV0,zy,zx,zw,zv,zu,zq,zp,zj,zk,leT,zg,rvC,zZ,zY,zX,zW,↓zV,↓zU,reduceCtorEq,zQ,yz,yY,yy,yx,yw,yv,yu,yq,yX,yj,yk,yg,yW,yV,yU,yZ,yQ,xz,TDr,fullG,memF_set H,setM_fun H,fullM,ha1,MB,hs1,hf,hy,Slot.cl,Cap.cl,bne,hq,hwl,put,fillP,sub,EVt,hgt0,b1,b2,b3,b4]
       refine ⟨by simp only [List.length_cons] at hk; omega,fun c1 hle1 => ?_⟩
       refine IH (z :: l' ++ [y],c1,q1,m'.gX y) _ (by simp only [List.length_append,List.length_cons,List.length_nil] at hk hkk ⊢; omega) ⟨by simp only [List.length_append,List.length_cons,List.length_nil] at hNN ⊢; omega,by simp only [List.length_append,List.length_cons,List.length_nil] at hle1 ⊢; omega,hwl, ?_⟩ ?_
       ·simp only [List.length_append,List.length_cons,List.length_nil] at hkk ⊢
        rw [show N + 2 - (l'.length + 1 + (0 + 1)) = k by omega]
        exact ht
       ·have hB2 : intsB (z :: (l' ++ [y])) = B ++ [.i .i64 y]:=by rw [← hB,intsB_app]; rfl
        have hl2 : (l' ++ [y]).length + 1 = l'.length + 1 + 1:=by simp
        simp only [rSl,rLS,List.cons_append,List.nil_append,hB2,hl2,Nat.mul_one,Slot.cl,Cap.cl]
        refine Wk.sel [0] (by decide) hnq ?_ ?_ ?_ ?_ hcq (clean_pick hcq _)
        ·simp (maxSteps:=9999999) only [EV0,zy,zx,zw,zv,zu,zq,zp,zj,zk,leT,zg,rvC,zZ,zY,zX,zW,↓zV,↓zU,reduceCtorEq,zQ,yz,yY,yy,yx,yw,yv,yu,yq,yX,yj,yk,yg,yW,yV,yU,yZ,yQ,xz,List.nil_append,Blk.ren,V.ren,C.ren,S_ren,wc_ren,R.pick_g,R.pick_0,R.pick_s,List.map_append,wc_cons,wc_snoc,wc_nil,Nat.mul_one,hal1,hb3,b5,List.map_append,List.map_cons,List.map_nil,vals,List.all_append]
        ·simp (maxSteps:=9999999) only [EV0,zy,zx,zw,zv,zu,zq,zp,zj,zk,leT,zg,rvC,zZ,zY,zX,zW,↓zV,↓zU,reduceCtorEq,zQ,yz,yY,yy,yx,yw,yv,yu,yq,yX,yj,yk,yg,yW,yV,yU,yZ,yQ,xz,List.nil_append,Blk.ren,V.ren,C.ren,S_ren,wc_ren,R.pick_g,R.pick_0,R.pick_s,Nat.mul_one,hal1,hb3,b5,List.map_append,List.map_cons,List.map_nil,vals,List.all_append]
        ·simp (maxSteps:=9999999) only [EV0,zy,zx,zw,zv,zu,zq,zp,zj,zk,leT,zg,rvC,zZ,zY,zX,zW,↓zV,↓zU,reduceCtorEq,zQ,yz,yY,yy,yx,yw,yv,yu,yq,yX,yj,yk,yg,yW,yV,yU,yZ,yQ,xz,List.nil_append,app_len,nlt0,nltn,reduceLT,Nat.le_add_right,Nat.mul_one,hal1,hb3,b5,List.map_append,List.map_cons,List.map_nil,vals,List.all_append]
        ·simp (maxSteps:=9999999) only [EV0,zy,zx,zw,zv,zu,zq,zp,zj,zk,leT,zg,rvC,zZ,zY,zX,zW,↓zV,↓zU,reduceCtorEq,zQ,yz,yY,yy,yx,yw,yv,yu,yq,yX,yj,yk,yg,yW,yV,yU,yZ,yQ,xz,List.nil_append,app_len,nlt0,nltn,reduceLT,Nat.le_add_right,vals_cons,vals_nil,wc_val,wc_vals,Nat.mul_one,hal1,hb3,b5,List.map_append,List.map_cons,List.map_nil,vals,List.all_append]
     ·rw [if_neg fun h => hNN h.2] at ht
      have hgt : (N : Int) < (l.length : Int):=by omega
      rw [← ht] at hS
      simp only [dscR,spec_ok] at hS
      cases l with
      | nil =>
       have hgt0 : (N : Int) < 0:=by simpa using hgt
       simp only [rSl,rLS]
       refine run_sound (Tab.ok_Γ _) 100 _ _ _ _ ?_
       simp (maxSteps:=9999999) only [EV0,zy,zx,zw,zv,zu,zq,zp,zj,zk,leT,zg,rvC,zZ,zY,zX,zW,↓zV,↓zU,reduceCtorEq,zQ,yz,yY,yy,yx,yw,yv,yu,yq,yX,yj,yk,yg,yW,yV,yU,yZ,yQ,xz,TDr,fullG,memF_set H,setM_fun H,fullM,ha1,MB,hs1,hf,hy,Slot.cl,Cap.cl,bne,hq,hwl,put,fillP,sub,EVt,hgt0,List.length_nil]
       refine fin_of (v:=.tup [.s .ns, .s (.i .i64 110)]) (ls:=[]) (h:=setM h a b (m'.gX y)) rfl ?_ ?_
       ·exact Wk.keep 0 rfl rfl (by simp (maxSteps:=9999999) only [EV0,zy,zx,zw,zv,zu,zq,zp,zj,zk,leT,zg,rvC,zZ,zY,zX,zW,↓zV,↓zU,reduceCtorEq,zQ,yz,yY,yy,yx,yw,yv,yu,yq,yX,yj,yk,yg,yW,yV,yU,yZ,yQ,xz]) (by rfl) (by rfl)
       ·simp (maxSteps:=9999999) only [EV0,zy,zx,zw,zv,zu,zq,zp,zj,zk,leT,zg,rvC,zZ,zY,zX,zW,↓zV,↓zU,reduceCtorEq,zQ,yz,yY,yy,yx,yw,yv,yu,yq,yX,yj,yk,yg,yW,yV,yU,yZ,yQ,xz]
        exact hS
      | cons z l' =>
       have hgt0:=hgt
       simp only [List.length_cons] at hgt0
       simp only [rSl,rLS,List.cons_append,List.nil_append]
       refine run_sound (Tab.ok_Γ _) 100 _ _ _ _ ?_
       simp (maxSteps:=9999999) only [EV0,zy,zx,zw,zv,zu,zq,zp,zj,zk,leT,zg,rvC,zZ,zY,zX,zW,↓zV,↓zU,reduceCtorEq,zQ,yz,yY,yy,yx,yw,yv,yu,yq,yX,yj,yk,yg,yW,yV,yU,yZ,yQ,xz,TDr,fullG,memF_set H,setM_fun H,fullM,ha1,MB,hs1,hf,hy,Slot.cl,Cap.cl,bne,hq,hwl,put,fillP,sub,EVt,hgt0,List.length_cons]
       refine fin_of (v:=.tup [.s .ns, .s (.i .i64 110)]) (ls:=[]) (h:=setM h a b (m'.gX y)) rfl ?_ ?_
       ·exact Wk.keep 0 rfl rfl (by simp (maxSteps:=9999999) only [EV0,zy,zx,zw,zv,zu,zq,zp,zj,zk,leT,zg,rvC,zZ,zY,zX,zW,↓zV,↓zU,reduceCtorEq,zQ,yz,yY,yy,yx,yw,yv,yu,yq,yX,yj,yk,yg,yW,yV,yU,yZ,yQ,xz]) (by rfl) (by rfl)
       ·simp (maxSteps:=9999999) only [EV0,zy,zx,zw,zv,zu,zq,zp,zj,zk,leT,zg,rvC,zZ,zY,zX,zW,↓zV,↓zU,reduceCtorEq,zQ,yz,yY,yy,yx,yw,yv,yu,yq,yX,yj,yk,yg,yW,yV,yU,yZ,yQ,xz]
        exact hS
    ·rw [if_neg fun h => hf h.1] at ht
     have hf' : (m'.fE y == 0) = false:=by simpa using hf
     rw [← ht] at hS
     simp only [dscR,spec_ok] at hS
     cases l with
     | nil =>
      simp only [rSl,rLS]
      refine run_sound (Tab.ok_Γ _) 100 _ _ _ _ ?_
      simp (maxSteps:=9999999) only [EV0,zy,zx,zw,zv,zu,zq,zp,zj,zk,leT,zg,rvC,zZ,zY,zX,zW,↓zV,↓zU,reduceCtorEq,zQ,yz,yY,yy,yx,yw,yv,yu,yq,yX,yj,yk,yg,yW,yV,yU,yZ,yQ,xz,TDr,fullG,memF_set H,setM_fun H,fullM,ha1,MB,hs1,hf,hy,Slot.cl,Cap.cl,bne,hq,hwl,put,fillP,sub,EVt,hf',List.length_nil]
      refine fin_of (v:=.tup [.s .ns, .s (.i .i64 110)]) (ls:=[]) (h:=setM h a b (m'.gX y)) rfl ?_ ?_
      ·exact Wk.keep 0 rfl rfl (by simp (maxSteps:=9999999) only [EV0,zy,zx,zw,zv,zu,zq,zp,zj,zk,leT,zg,rvC,zZ,zY,zX,zW,↓zV,↓zU,reduceCtorEq,zQ,yz,yY,yy,yx,yw,yv,yu,yq,yX,yj,yk,yg,yW,yV,yU,yZ,yQ,xz]) (by rfl) (by rfl)
      ·simp (maxSteps:=9999999) only [EV0,zy,zx,zw,zv,zu,zq,zp,zj,zk,leT,zg,rvC,zZ,zY,zX,zW,↓zV,↓zU,reduceCtorEq,zQ,yz,yY,yy,yx,yw,yv,yu,yq,yX,yj,yk,yg,yW,yV,yU,yZ,yQ,xz]
       exact hS
     | cons z l' =>
      simp only [rSl,rLS,List.cons_append,List.nil_append]
      refine run_sound (Tab.ok_Γ _) 100 _ _ _ _ ?_
      simp (maxSteps:=9999999) only [EV0,zy,zx,zw,zv,zu,zq,zp,zj,zk,leT,zg,rvC,zZ,zY,zX,zW,↓zV,↓zU,reduceCtorEq,zQ,yz,yY,yy,yx,yw,yv,yu,yq,yX,yj,yk,yg,yW,yV,yU,yZ,yQ,xz,TDr,fullG,memF_set H,setM_fun H,fullM,ha1,MB,hs1,hf,hy,Slot.cl,Cap.cl,bne,hq,hwl,put,fillP,sub,EVt,hf',List.length_cons]
      refine fin_of (v:=.tup [.s .ns, .s (.i .i64 110)]) (ls:=[]) (h:=setM h a b (m'.gX y)) rfl ?_ ?_
      ·exact Wk.keep 0 rfl rfl (by simp (maxSteps:=9999999) only [EV0,zy,zx,zw,zv,zu,zq,zp,zj,zk,leT,zg,rvC,zZ,zY,zX,zW,↓zV,↓zU,reduceCtorEq,zQ,yz,yY,yy,yx,yw,yv,yu,yq,yX,yj,yk,yg,yW,yV,yU,yZ,yQ,xz]) (by rfl) (by rfl)
      ·simp (maxSteps:=9999999) only [EV0,zy,zx,zw,zv,zu,zq,zp,zj,zk,leT,zg,rvC,zZ,zY,zX,zW,↓zV,↓zU,reduceCtorEq,zQ,yz,yY,yy,yx,yw,yv,yu,yq,yX,yj,yk,yg,yW,yV,yU,yZ,yQ,xz]
       exact hS
 ·exact hS.elim
end Go.Proofs.YtcdfofeolgbnbaaGreat

