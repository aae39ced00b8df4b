/- The document's Swap. -/
import Derived.Test.YtcdfofeolgbnbaaGreatZ13
import Derived.Test.YtcdfofeolgbnbaaGreatZ24
/- The document's Swap. -/
namespace Go.Proofs.YtcdfofeolgbnbaaGreat
open Go.D
open Nat (reduceAdd reducePow reduceMul reduceSub reduceLeDiff reduceLT reduceEqDiff)
open Int (reduceNeg reduceLE reduceEq reduceNe reduceToNat)
open Go.D renaming istep → zy,pickR → zx,bin1R → zw,un1R → zv,eqS → zu,eq1 → zq,cmpS → zp,cmp1 → zj,isNil → zk,shows → zg,result → zZ,q_cond_t → zV,q_cond_f → zU
open List renaming set → zY,replicate → zX
open Option renaming map → zW
open Nat renaming reduceAdd → zQ,reducePow → yz,reduceMul → yy,reduceSub → yx,reduceLeDiff → yw,reduceLT → yv,reduceEqDiff → yu
open Int renaming reduceNeg → yq,reduceLE → yj,reduceEq → yk,reduceNe → yg,reduceToNat → yZ,reducePow → yY,reduceLT → yX,reduceAdd → yW,reduceSub → yV,reduceMul → yU,reduceBEq → yQ,reduceBNe → xz
set_option linter.all false
set_option maxRecDepth 100000
set_option maxHeartbeats 8000000

def Slot.rt (a b : Int) (s : Slot) : Slot:=⟨s.cap,if s.prev = a then b else s.prev,if s.next = a then b else s.next,s.depth⟩
def M.r15 (m : M) (u v : Int) (x : Slot) : M:=if ¬ x.prev = 0 ∧ ¬ x.prev = v then m.nkX x.prev u else m
def M.r16 (m : M) (u v : Int) (x : Slot) : M:=if ¬ x.next = 0 ∧ ¬ x.next = v then m.bkX u x.next else m
def M.r19 (m : M) (f u v : Int) : M:=if f = u then m.sfX v else m
def M.rsw (m : M) (u v f : Int) (x y : Slot) : M:=(((((m.r15 u v x).r16 u v x).r15 v u y).r16 v u y).r19 f u v).r19 f v u
def M.rswp (m : M) (a b : Int) : Int × M :=
 if m.fE a = 0 then
  if (m.gX a).fE b = 0 then
   if a = b then (0,(m.gX a).gX b)
   else (0,((((m.gX a).gX b).fstX.pX a (((m.gX a).gV b).rt a b)).pX b ((m.gV a).rt b a)).rsw a b ((m.gX a).gX b).fst (((m.gX a).gV b).rt a b) ((m.gV a).rt b a))
  else ((m.gX a).fE b,(m.gX a).gX b)
 else (m.fE a,m.gX a)
def rswpM (b : Nat) (m : M) (st : M → List Blk) : List V → Res
 | [.s (.i .i64 f), .s (.i .i64 t)] => .ok (.s (.i .i64 (m.rswp f t).1)) [] (st (m.rswp f t).2)
 | _ => .bad
noncomputable def rswpG:=memF rswpM
def rsT (a : Nat) (u v f : Int) : List V:=setT [(0, .s (.p (.g a) 0)),(1, .s (.i .i64 u)),(2, .s (.i .i64 v)),(10, .s (.i .i64 f)),(11, .s (.p (.l 2) 0)),(12, .s (.p (.l 3) 0))] (List.replicate 164 (.s .u))
def rsL (s t x y : Slot) : List Blk:=[⟨.rw,s.cl,14⟩,⟨.rw,t.cl,14⟩,⟨.rw,x.cl,14⟩,⟨.rw,y.cl,14⟩]
theorem rs_end {h : List Blk} {a b : Nat} {m : M} {K : V → List Blk → Prop} (H : IsMem h a b m) (hc : clean h.length h = true) (u v f : Int) (s t x y : Slot) (hS : K (.s (.i .i64 0)) (setM h a b (m.rsw u v f x y))) :
  swp TRi.Γ h.length (finP df56.res K) [.c (DC.after 15 df56.body)] ⟨rsT a u v f,rsL s t x y,h⟩:=by
 obtain ⟨xc,xp,xn,xd⟩:=x
 obtain ⟨yc,yp,yn,yd⟩:=y
 have hcm : ∀ m',clean h.length (setM h a b m') = true:=fun m' => setM_clean H hc H.ltb
 have s20 : ∀ m',K (.s (.i .i64 0)) (setM h a b (m'.r19 f v u)) → swp TRi.Γ h.length (finP df56.res K) [.c (DC.after 20 df56.body)] ⟨rsT a u v f,rsL s t (⟨xc,xp,xn,xd⟩ : Slot) (⟨yc,yp,yn,yd⟩ : Slot),setM h a b m'⟩:=fun m' hk => by
  simp only [M.r19] at hk
  simp only [DC.after,df56]
  by_cases c1 : f = v
  ·simp only [c1,if_true] at hk
   refine run_sound (Tab.ok_Γ _) 60 _ _ _ _ ?_
   simp (maxSteps:=9999999) only [EV0,zy,zx,zw,zv,zu,zq,zp,zj,zk,leT,zg,rvC,zZ,zY,zX,zW,↓zV,↓zU,reduceCtorEq,zQ,yz,yY,yy,yx,yw,yv,yu,yq,yX,yj,yk,yg,yW,yV,yU,yZ,yQ,xz,TRi,Slot.cl,rsT,rsL,setT,get2G,get2M,put2G,put2M,backG,backM,setFirstG,setFirstM,memF_eq H,memF_set H,setM_fun H,slotF,slot_eta,cap_eta,put,fillP,sub,EVt,c1]
   exact hk
  ·simp only [c1,if_false] at hk
   refine run_sound (Tab.ok_Γ _) 60 _ _ _ _ ?_
   simp (maxSteps:=9999999) only [EV0,zy,zx,zw,zv,zu,zq,zp,zj,zk,leT,zg,rvC,zZ,zY,zX,zW,↓zV,↓zU,reduceCtorEq,zQ,yz,yY,yy,yx,yw,yv,yu,yq,yX,yj,yk,yg,yW,yV,yU,yZ,yQ,xz,TRi,Slot.cl,rsT,rsL,setT,get2G,get2M,put2G,put2M,backG,backM,setFirstG,setFirstM,memF_eq H,memF_set H,setM_fun H,slotF,slot_eta,cap_eta,put,fillP,sub,EVt,c1]
   exact hk
 have s19 : ∀ m',K (.s (.i .i64 0)) (setM h a b ((m'.r19 f u v).r19 f v u)) → swp TRi.Γ h.length (finP df56.res K) [.c (DC.after 19 df56.body)] ⟨rsT a u v f,rsL s t (⟨xc,xp,xn,xd⟩ : Slot) (⟨yc,yp,yn,yd⟩ : Slot),setM h a b m'⟩:=fun m' hk => by
  have key:=s20 _ hk
  clear hk
  revert key
  simp only [DC.after,df56,M.r19]
  intro key
  refine cut_at 1 ?_
  by_cases c1 : f = u
  ·skip
   simp only [c1,not_true_eq_false,not_false_eq_true,and_self,and_true,true_and,and_false,false_and,if_true,if_false] at key
   refine run_sound (Tab.ok_Γ _) 60 _ _ _ _ ?_
   simp (maxSteps:=9999999) only [EV0,zy,zx,zw,zv,zu,zq,zp,zj,zk,leT,zg,rvC,zZ,zY,zX,zW,↓zV,↓zU,reduceCtorEq,zQ,yz,yY,yy,yx,yw,yv,yu,yq,yX,yj,yk,yg,yW,yV,yU,yZ,yQ,xz,TRi,Slot.cl,rsT,rsL,setT,get2G,get2M,put2G,put2M,backG,backM,setFirstG,setFirstM,memF_eq H,memF_set H,setM_fun H,slotF,slot_eta,cap_eta,put,fillP,sub,EVt,c1]
   refine swp_weak (Wk.keep 4 rfl rfl ?_ ?_ ?_) key
   ·simp (maxSteps:=9999999) only [EV0,zy,zx,zw,zv,zu,zq,zp,zj,zk,leT,zg,rvC,zZ,zY,zX,zW,↓zV,↓zU,reduceCtorEq,zQ,yz,yY,yy,yx,yw,yv,yu,yq,yX,yj,yk,yg,yW,yV,yU,yZ,yQ,xz,rsT,rsL,setT,Slot.cl,List.take_succ_cons,List.take_zero]
   ·simp (maxSteps:=9999999) only [EV0,zy,zx,zw,zv,zu,zq,zp,zj,zk,leT,zg,rvC,zZ,zY,zX,zW,↓zV,↓zU,reduceCtorEq,zQ,yz,yY,yy,yx,yw,yv,yu,yq,yX,yj,yk,yg,yW,yV,yU,yZ,yQ,xz,rsT,rsL,setT,Slot.cl,List.take_succ_cons,List.take_zero,List.length_cons,List.length_nil,List.all_cons,List.all_nil]
   ·simp (maxSteps:=9999999) only [EV0,zy,zx,zw,zv,zu,zq,zp,zj,zk,leT,zg,rvC,zZ,zY,zX,zW,↓zV,↓zU,reduceCtorEq,zQ,yz,yY,yy,yx,yw,yv,yu,yq,yX,yj,yk,yg,yW,yV,yU,yZ,yQ,xz,rsL,Slot.cl,List.take_succ_cons,List.take_zero,List.length_cons,List.length_nil,List.all_cons,List.all_nil]
  ·skip
   simp only [c1,not_true_eq_false,not_false_eq_true,and_self,and_true,true_and,and_false,false_and,if_true,if_false] at key
   refine run_sound (Tab.ok_Γ _) 60 _ _ _ _ ?_
   simp (maxSteps:=9999999) only [EV0,zy,zx,zw,zv,zu,zq,zp,zj,zk,leT,zg,rvC,zZ,zY,zX,zW,↓zV,↓zU,reduceCtorEq,zQ,yz,yY,yy,yx,yw,yv,yu,yq,yX,yj,yk,yg,yW,yV,yU,yZ,yQ,xz,TRi,Slot.cl,rsT,rsL,setT,get2G,get2M,put2G,put2M,backG,backM,setFirstG,setFirstM,memF_eq H,memF_set H,setM_fun H,slotF,slot_eta,cap_eta,put,fillP,sub,EVt,c1]
   refine swp_weak (Wk.keep 4 rfl rfl ?_ ?_ ?_) key
   ·simp (maxSteps:=9999999) only [EV0,zy,zx,zw,zv,zu,zq,zp,zj,zk,leT,zg,rvC,zZ,zY,zX,zW,↓zV,↓zU,reduceCtorEq,zQ,yz,yY,yy,yx,yw,yv,yu,yq,yX,yj,yk,yg,yW,yV,yU,yZ,yQ,xz,rsT,rsL,setT,Slot.cl,List.take_succ_cons,List.take_zero]
   ·simp (maxSteps:=9999999) only [EV0,zy,zx,zw,zv,zu,zq,zp,zj,zk,leT,zg,rvC,zZ,zY,zX,zW,↓zV,↓zU,reduceCtorEq,zQ,yz,yY,yy,yx,yw,yv,yu,yq,yX,yj,yk,yg,yW,yV,yU,yZ,yQ,xz,rsT,rsL,setT,Slot.cl,List.take_succ_cons,List.take_zero,List.length_cons,List.length_nil,List.all_cons,List.all_nil]
   ·simp (maxSteps:=9999999) only [EV0,zy,zx,zw,zv,zu,zq,zp,zj,zk,leT,zg,rvC,zZ,zY,zX,zW,↓zV,↓zU,reduceCtorEq,zQ,yz,yY,yy,yx,yw,yv,yu,yq,yX,yj,yk,yg,yW,yV,yU,yZ,yQ,xz,rsL,Slot.cl,List.take_succ_cons,List.take_zero,List.length_cons,List.length_nil,List.all_cons,List.all_nil]
 have s18 : ∀ m',K (.s (.i .i64 0)) (setM h a b (((m'.r16 v u (⟨yc,yp,yn,yd⟩ : Slot)).r19 f u v).r19 f v u)) → swp TRi.Γ h.length (finP df56.res K) [.c (DC.after 18 df56.body)] ⟨rsT a u v f,rsL s t (⟨xc,xp,xn,xd⟩ : Slot) (⟨yc,yp,yn,yd⟩ : Slot),setM h a b m'⟩:=fun m' hk => by
  have key:=s19 _ hk
  clear hk
  revert key
  simp only [DC.after,df56,M.r16]
  intro key
  refine cut_at 1 ?_
  by_cases c1 : yn = 0
  ·subst c1
   simp only [not_true_eq_false,not_false_eq_true,and_self,and_true,true_and,and_false,false_and,if_true,if_false] at key
   refine run_sound (Tab.ok_Γ _) 60 _ _ _ _ ?_
   simp (maxSteps:=9999999) only [EV0,zy,zx,zw,zv,zu,zq,zp,zj,zk,leT,zg,rvC,zZ,zY,zX,zW,↓zV,↓zU,reduceCtorEq,zQ,yz,yY,yy,yx,yw,yv,yu,yq,yX,yj,yk,yg,yW,yV,yU,yZ,yQ,xz,TRi,Slot.cl,rsT,rsL,setT,get2G,get2M,put2G,put2M,backG,backM,setFirstG,setFirstM,memF_eq H,memF_set H,setM_fun H,slotF,slot_eta,cap_eta,put,fillP,sub,EVt]
   refine swp_weak (Wk.keep 4 rfl rfl ?_ ?_ ?_) key
   ·simp (maxSteps:=9999999) only [EV0,zy,zx,zw,zv,zu,zq,zp,zj,zk,leT,zg,rvC,zZ,zY,zX,zW,↓zV,↓zU,reduceCtorEq,zQ,yz,yY,yy,yx,yw,yv,yu,yq,yX,yj,yk,yg,yW,yV,yU,yZ,yQ,xz,rsT,rsL,setT,Slot.cl,List.take_succ_cons,List.take_zero]
   ·simp (maxSteps:=9999999) only [EV0,zy,zx,zw,zv,zu,zq,zp,zj,zk,leT,zg,rvC,zZ,zY,zX,zW,↓zV,↓zU,reduceCtorEq,zQ,yz,yY,yy,yx,yw,yv,yu,yq,yX,yj,yk,yg,yW,yV,yU,yZ,yQ,xz,rsT,rsL,setT,Slot.cl,List.take_succ_cons,List.take_zero,List.length_cons,List.length_nil,List.all_cons,List.all_nil]
   ·simp (maxSteps:=9999999) only [EV0,zy,zx,zw,zv,zu,zq,zp,zj,zk,leT,zg,rvC,zZ,zY,zX,zW,↓zV,↓zU,reduceCtorEq,zQ,yz,yY,yy,yx,yw,yv,yu,yq,yX,yj,yk,yg,yW,yV,yU,yZ,yQ,xz,rsL,Slot.cl,List.take_succ_cons,List.take_zero,List.length_cons,List.length_nil,List.all_cons,List.all_nil]
  ·by_cases c2 : yn = u
   ·subst c2
    simp only [c1,not_true_eq_false,not_false_eq_true,and_self,and_true,true_and,and_false,false_and,if_true,if_false] at key
    refine run_sound (Tab.ok_Γ _) 60 _ _ _ _ ?_
    simp (maxSteps:=9999999) only [EV0,zy,zx,zw,zv,zu,zq,zp,zj,zk,leT,zg,rvC,zZ,zY,zX,zW,↓zV,↓zU,reduceCtorEq,zQ,yz,yY,yy,yx,yw,yv,yu,yq,yX,yj,yk,yg,yW,yV,yU,yZ,yQ,xz,TRi,Slot.cl,rsT,rsL,setT,get2G,get2M,put2G,put2M,backG,backM,setFirstG,setFirstM,memF_eq H,memF_set H,setM_fun H,slotF,slot_eta,cap_eta,put,fillP,sub,EVt,c1]
    refine swp_weak (Wk.keep 4 rfl rfl ?_ ?_ ?_) key
    ·simp (maxSteps:=9999999) only [EV0,zy,zx,zw,zv,zu,zq,zp,zj,zk,leT,zg,rvC,zZ,zY,zX,zW,↓zV,↓zU,reduceCtorEq,zQ,yz,yY,yy,yx,yw,yv,yu,yq,yX,yj,yk,yg,yW,yV,yU,yZ,yQ,xz,rsT,rsL,setT,Slot.cl,List.take_succ_cons,List.take_zero]
    ·simp (maxSteps:=9999999) only [EV0,zy,zx,zw,zv,zu,zq,zp,zj,zk,leT,zg,rvC,zZ,zY,zX,zW,↓zV,↓zU,reduceCtorEq,zQ,yz,yY,yy,yx,yw,yv,yu,yq,yX,yj,yk,yg,yW,yV,yU,yZ,yQ,xz,rsT,rsL,setT,Slot.cl,List.take_succ_cons,List.take_zero,List.length_cons,List.length_nil,List.all_cons,List.all_nil]
    ·simp (maxSteps:=9999999) only [EV0,zy,zx,zw,zv,zu,zq,zp,zj,zk,leT,zg,rvC,zZ,zY,zX,zW,↓zV,↓zU,reduceCtorEq,zQ,yz,yY,yy,yx,yw,yv,yu,yq,yX,yj,yk,yg,yW,yV,yU,yZ,yQ,xz,rsL,Slot.cl,List.take_succ_cons,List.take_zero,List.length_cons,List.length_nil,List.all_cons,List.all_nil]
   ·skip
    simp only [c1,c2,not_true_eq_false,not_false_eq_true,and_self,and_true,true_and,and_false,false_and,if_true,if_false] at key
    refine run_sound (Tab.ok_Γ _) 60 _ _ _ _ ?_
    simp (maxSteps:=9999999) only [EV0,zy,zx,zw,zv,zu,zq,zp,zj,zk,leT,zg,rvC,zZ,zY,zX,zW,↓zV,↓zU,reduceCtorEq,zQ,yz,yY,yy,yx,yw,yv,yu,yq,yX,yj,yk,yg,yW,yV,yU,yZ,yQ,xz,TRi,Slot.cl,rsT,rsL,setT,get2G,get2M,put2G,put2M,backG,backM,setFirstG,setFirstM,memF_eq H,memF_set H,setM_fun H,slotF,slot_eta,cap_eta,put,fillP,sub,EVt,c1,c2]
    refine swp_weak (Wk.keep 4 rfl rfl ?_ ?_ ?_) key
    ·simp (maxSteps:=9999999) only [EV0,zy,zx,zw,zv,zu,zq,zp,zj,zk,leT,zg,rvC,zZ,zY,zX,zW,↓zV,↓zU,reduceCtorEq,zQ,yz,yY,yy,yx,yw,yv,yu,yq,yX,yj,yk,yg,yW,yV,yU,yZ,yQ,xz,rsT,rsL,setT,Slot.cl,List.take_succ_cons,List.take_zero]
    ·simp (maxSteps:=9999999) only [EV0,zy,zx,zw,zv,zu,zq,zp,zj,zk,leT,zg,rvC,zZ,zY,zX,zW,↓zV,↓zU,reduceCtorEq,zQ,yz,yY,yy,yx,yw,yv,yu,yq,yX,yj,yk,yg,yW,yV,yU,yZ,yQ,xz,rsT,rsL,setT,Slot.cl,List.take_succ_cons,List.take_zero,List.length_cons,List.length_nil,List.all_cons,List.all_nil]
    ·simp (maxSteps:=9999999) only [EV0,zy,zx,zw,zv,zu,zq,zp,zj,zk,leT,zg,rvC,zZ,zY,zX,zW,↓zV,↓zU,reduceCtorEq,zQ,yz,yY,yy,yx,yw,yv,yu,yq,yX,yj,yk,yg,yW,yV,yU,yZ,yQ,xz,rsL,Slot.cl,List.take_succ_cons,List.take_zero,List.length_cons,List.length_nil,List.all_cons,List.all_nil]
 have s17 : ∀ m',K (.s (.i .i64 0)) (setM h a b ((((m'.r15 v u (⟨yc,yp,yn,yd⟩ : Slot)).r16 v u (⟨yc,yp,yn,yd⟩ : Slot)).r19 f u v).r19 f v u)) → swp TRi.Γ h.length (finP df56.res K) [.c (DC.after 17 df56.body)] ⟨rsT a u v f,rsL s t (⟨xc,xp,xn,xd⟩ : Slot) (⟨yc,yp,yn,yd⟩ : Slot),setM h a b m'⟩:=fun m' hk => by
  have key:=s18 _ hk
  clear hk
  revert key
  simp only [DC.after,df56,M.r15,M.nkX]
  intro key
  refine cut_at 1 ?_
  by_cases c1 : yp = 0
  ·subst c1
   simp only [not_true_eq_false,not_false_eq_true,and_self,and_true,true_and,and_false,false_and,if_true,if_false] at key
   refine run_sound (Tab.ok_Γ _) 60 _ _ _ _ ?_
   simp (maxSteps:=9999999) only [EV0,zy,zx,zw,zv,zu,zq,zp,zj,zk,leT,zg,rvC,zZ,zY,zX,zW,↓zV,↓zU,reduceCtorEq,zQ,yz,yY,yy,yx,yw,yv,yu,yq,yX,yj,yk,yg,yW,yV,yU,yZ,yQ,xz,TRi,Slot.cl,rsT,rsL,setT,get2G,get2M,put2G,put2M,backG,backM,setFirstG,setFirstM,memF_eq H,memF_set H,setM_fun H,slotF,slot_eta,cap_eta,put,fillP,sub,EVt]
   refine swp_weak (Wk.keep 4 rfl rfl ?_ ?_ ?_) key
   ·simp (maxSteps:=9999999) only [EV0,zy,zx,zw,zv,zu,zq,zp,zj,zk,leT,zg,rvC,zZ,zY,zX,zW,↓zV,↓zU,reduceCtorEq,zQ,yz,yY,yy,yx,yw,yv,yu,yq,yX,yj,yk,yg,yW,yV,yU,yZ,yQ,xz,rsT,rsL,setT,Slot.cl,List.take_succ_cons,List.take_zero]
   ·simp (maxSteps:=9999999) only [EV0,zy,zx,zw,zv,zu,zq,zp,zj,zk,leT,zg,rvC,zZ,zY,zX,zW,↓zV,↓zU,reduceCtorEq,zQ,yz,yY,yy,yx,yw,yv,yu,yq,yX,yj,yk,yg,yW,yV,yU,yZ,yQ,xz,rsT,rsL,setT,Slot.cl,List.take_succ_cons,List.take_zero,List.length_cons,List.length_nil,List.all_cons,List.all_nil]
   ·simp (maxSteps:=9999999) only [EV0,zy,zx,zw,zv,zu,zq,zp,zj,zk,leT,zg,rvC,zZ,zY,zX,zW,↓zV,↓zU,reduceCtorEq,zQ,yz,yY,yy,yx,yw,yv,yu,yq,yX,yj,yk,yg,yW,yV,yU,yZ,yQ,xz,rsL,Slot.cl,List.take_succ_cons,List.take_zero,List.length_cons,List.length_nil,List.all_cons,List.all_nil]
  ·by_cases c2 : yp = u
   ·subst c2
    simp only [c1,not_true_eq_false,not_false_eq_true,and_self,and_true,true_and,and_false,false_and,if_true,if_false] at key
    refine run_sound (Tab.ok_Γ _) 60 _ _ _ _ ?_
    simp (maxSteps:=9999999) only [EV0,zy,zx,zw,zv,zu,zq,zp,zj,zk,leT,zg,rvC,zZ,zY,zX,zW,↓zV,↓zU,reduceCtorEq,zQ,yz,yY,yy,yx,yw,yv,yu,yq,yX,yj,yk,yg,yW,yV,yU,yZ,yQ,xz,TRi,Slot.cl,rsT,rsL,setT,get2G,get2M,put2G,put2M,backG,backM,setFirstG,setFirstM,memF_eq H,memF_set H,setM_fun H,slotF,slot_eta,cap_eta,put,fillP,sub,EVt,c1]
    refine swp_weak (Wk.keep 4 rfl rfl ?_ ?_ ?_) key
    ·simp (maxSteps:=9999999) only [EV0,zy,zx,zw,zv,zu,zq,zp,zj,zk,leT,zg,rvC,zZ,zY,zX,zW,↓zV,↓zU,reduceCtorEq,zQ,yz,yY,yy,yx,yw,yv,yu,yq,yX,yj,yk,yg,yW,yV,yU,yZ,yQ,xz,rsT,rsL,setT,Slot.cl,List.take_succ_cons,List.take_zero]
    ·simp (maxSteps:=9999999) only [EV0,zy,zx,zw,zv,zu,zq,zp,zj,zk,leT,zg,rvC,zZ,zY,zX,zW,↓zV,↓zU,reduceCtorEq,zQ,yz,yY,yy,yx,yw,yv,yu,yq,yX,yj,yk,yg,yW,yV,yU,yZ,yQ,xz,rsT,rsL,setT,Slot.cl,List.take_succ_cons,List.take_zero,List.length_cons,List.length_nil,List.all_cons,List.all_nil]
    ·simp (maxSteps:=9999999) only [EV0,zy,zx,zw,zv,zu,zq,zp,zj,zk,leT,zg,rvC,zZ,zY,zX,zW,↓zV,↓zU,reduceCtorEq,zQ,yz,yY,yy,yx,yw,yv,yu,yq,yX,yj,yk,yg,yW,yV,yU,yZ,yQ,xz,rsL,Slot.cl,List.take_succ_cons,List.take_zero,List.length_cons,List.length_nil,List.all_cons,List.all_nil]
   ·by_cases c3 : m'.gE yp = 0
    ·skip
     simp only [c1,c2,c3,not_true_eq_false,not_false_eq_true,and_self,and_true,true_and,and_false,false_and,if_true,if_false] at key
     refine run_sound (Tab.ok_Γ _) 60 _ _ _ _ ?_
     simp (maxSteps:=9999999) only [EV0,zy,zx,zw,zv,zu,zq,zp,zj,zk,leT,zg,rvC,zZ,zY,zX,zW,↓zV,↓zU,reduceCtorEq,zQ,yz,yY,yy,yx,yw,yv,yu,yq,yX,yj,yk,yg,yW,yV,yU,yZ,yQ,xz,TRi,Slot.cl,rsT,rsL,setT,get2G,get2M,put2G,put2M,backG,backM,setFirstG,setFirstM,memF_eq H,memF_set H,setM_fun H,slotF,slot_eta,cap_eta,put,fillP,sub,EVt,c1,c2,c3]
     refine swp_weak (Wk.keep 4 rfl rfl ?_ ?_ ?_) key
     ·simp (maxSteps:=9999999) only [EV0,zy,zx,zw,zv,zu,zq,zp,zj,zk,leT,zg,rvC,zZ,zY,zX,zW,↓zV,↓zU,reduceCtorEq,zQ,yz,yY,yy,yx,yw,yv,yu,yq,yX,yj,yk,yg,yW,yV,yU,yZ,yQ,xz,rsT,rsL,setT,Slot.cl,List.take_succ_cons,List.take_zero]
     ·simp (maxSteps:=9999999) only [EV0,zy,zx,zw,zv,zu,zq,zp,zj,zk,leT,zg,rvC,zZ,zY,zX,zW,↓zV,↓zU,reduceCtorEq,zQ,yz,yY,yy,yx,yw,yv,yu,yq,yX,yj,yk,yg,yW,yV,yU,yZ,yQ,xz,rsT,rsL,setT,Slot.cl,List.take_succ_cons,List.take_zero,List.length_cons,List.length_nil,List.all_cons,List.all_nil]
     ·simp (maxSteps:=9999999) only [EV0,zy,zx,zw,zv,zu,zq,zp,zj,zk,leT,zg,rvC,zZ,zY,zX,zW,↓zV,↓zU,reduceCtorEq,zQ,yz,yY,yy,yx,yw,yv,yu,yq,yX,yj,yk,yg,yW,yV,yU,yZ,yQ,xz,rsL,Slot.cl,List.take_succ_cons,List.take_zero,List.length_cons,List.length_nil,List.all_cons,List.all_nil]
    ·skip
     simp only [c1,c2,c3,not_true_eq_false,not_false_eq_true,and_self,and_true,true_and,and_false,false_and,if_true,if_false] at key
     refine run_sound (Tab.ok_Γ _) 60 _ _ _ _ ?_
     simp (maxSteps:=9999999) only [EV0,zy,zx,zw,zv,zu,zq,zp,zj,zk,leT,zg,rvC,zZ,zY,zX,zW,↓zV,↓zU,reduceCtorEq,zQ,yz,yY,yy,yx,yw,yv,yu,yq,yX,yj,yk,yg,yW,yV,yU,yZ,yQ,xz,TRi,Slot.cl,rsT,rsL,setT,get2G,get2M,put2G,put2M,backG,backM,setFirstG,setFirstM,memF_eq H,memF_set H,setM_fun H,slotF,slot_eta,cap_eta,put,fillP,sub,EVt,c1,c2,c3]
     refine swp_weak (Wk.keep 4 rfl rfl ?_ ?_ ?_) key
     ·simp (maxSteps:=9999999) only [EV0,zy,zx,zw,zv,zu,zq,zp,zj,zk,leT,zg,rvC,zZ,zY,zX,zW,↓zV,↓zU,reduceCtorEq,zQ,yz,yY,yy,yx,yw,yv,yu,yq,yX,yj,yk,yg,yW,yV,yU,yZ,yQ,xz,rsT,rsL,setT,Slot.cl,List.take_succ_cons,List.take_zero]
     ·simp (maxSteps:=9999999) only [EV0,zy,zx,zw,zv,zu,zq,zp,zj,zk,leT,zg,rvC,zZ,zY,zX,zW,↓zV,↓zU,reduceCtorEq,zQ,yz,yY,yy,yx,yw,yv,yu,yq,yX,yj,yk,yg,yW,yV,yU,yZ,yQ,xz,rsT,rsL,setT,Slot.cl,List.take_succ_cons,List.take_zero,List.length_cons,List.length_nil,List.all_cons,List.all_nil]
     ·simp (maxSteps:=9999999) only [EV0,zy,zx,zw,zv,zu,zq,zp,zj,zk,leT,zg,rvC,zZ,zY,zX,zW,↓zV,↓zU,reduceCtorEq,zQ,yz,yY,yy,yx,yw,yv,yu,yq,yX,yj,yk,yg,yW,yV,yU,yZ,yQ,xz,rsL,Slot.cl,List.take_succ_cons,List.take_zero,List.length_cons,List.length_nil,List.all_cons,List.all_nil]
 have s16 : ∀ m',K (.s (.i .i64 0)) (setM h a b (((((m'.r16 u v (⟨xc,xp,xn,xd⟩ : Slot)).r15 v u (⟨yc,yp,yn,yd⟩ : Slot)).r16 v u (⟨yc,yp,yn,yd⟩ : Slot)).r19 f u v).r19 f v u)) → swp TRi.Γ h.length (finP df56.res K) [.c (DC.after 16 df56.body)] ⟨rsT a u v f,rsL s t (⟨xc,xp,xn,xd⟩ : Slot) (⟨yc,yp,yn,yd⟩ : Slot),setM h a b m'⟩:=fun m' hk => by
  have key:=s17 _ hk
  clear hk
  revert key
  simp only [DC.after,df56,M.r16]
  intro key
  refine cut_at 1 ?_
  by_cases c1 : xn = 0
  ·subst c1
   simp only [not_true_eq_false,not_false_eq_true,and_self,and_true,true_and,and_false,false_and,if_true,if_false] at key
   refine run_sound (Tab.ok_Γ _) 60 _ _ _ _ ?_
   simp (maxSteps:=9999999) only [EV0,zy,zx,zw,zv,zu,zq,zp,zj,zk,leT,zg,rvC,zZ,zY,zX,zW,↓zV,↓zU,reduceCtorEq,zQ,yz,yY,yy,yx,yw,yv,yu,yq,yX,yj,yk,yg,yW,yV,yU,yZ,yQ,xz,TRi,Slot.cl,rsT,rsL,setT,get2G,get2M,put2G,put2M,backG,backM,setFirstG,setFirstM,memF_eq H,memF_set H,setM_fun H,slotF,slot_eta,cap_eta,put,fillP,sub,EVt]
   refine swp_weak (Wk.keep 4 rfl rfl ?_ ?_ ?_) key
   ·simp (maxSteps:=9999999) only [EV0,zy,zx,zw,zv,zu,zq,zp,zj,zk,leT,zg,rvC,zZ,zY,zX,zW,↓zV,↓zU,reduceCtorEq,zQ,yz,yY,yy,yx,yw,yv,yu,yq,yX,yj,yk,yg,yW,yV,yU,yZ,yQ,xz,rsT,rsL,setT,Slot.cl,List.take_succ_cons,List.take_zero]
   ·simp (maxSteps:=9999999) only [EV0,zy,zx,zw,zv,zu,zq,zp,zj,zk,leT,zg,rvC,zZ,zY,zX,zW,↓zV,↓zU,reduceCtorEq,zQ,yz,yY,yy,yx,yw,yv,yu,yq,yX,yj,yk,yg,yW,yV,yU,yZ,yQ,xz,rsT,rsL,setT,Slot.cl,List.take_succ_cons,List.take_zero,List.length_cons,List.length_nil,List.all_cons,List.all_nil]
   ·simp (maxSteps:=9999999) only [EV0,zy,zx,zw,zv,zu,zq,zp,zj,zk,leT,zg,rvC,zZ,zY,zX,zW,↓zV,↓zU,reduceCtorEq,zQ,yz,yY,yy,yx,yw,yv,yu,yq,yX,yj,yk,yg,yW,yV,yU,yZ,yQ,xz,rsL,Slot.cl,List.take_succ_cons,List.take_zero,List.length_cons,List.length_nil,List.all_cons,List.all_nil]
  ·by_cases c2 : xn = v
   ·subst c2
    simp only [c1,not_true_eq_false,not_false_eq_true,and_self,and_true,true_and,and_false,false_and,if_true,if_false] at key
    refine run_sound (Tab.ok_Γ _) 60 _ _ _ _ ?_
    simp (maxSteps:=9999999) only [EV0,zy,zx,zw,zv,zu,zq,zp,zj,zk,leT,zg,rvC,zZ,zY,zX,zW,↓zV,↓zU,reduceCtorEq,zQ,yz,yY,yy,yx,yw,yv,yu,yq,yX,yj,yk,yg,yW,yV,yU,yZ,yQ,xz,TRi,Slot.cl,rsT,rsL,setT,get2G,get2M,put2G,put2M,backG,backM,setFirstG,setFirstM,memF_eq H,memF_set H,setM_fun H,slotF,slot_eta,cap_eta,put,fillP,sub,EVt,c1]
    refine swp_weak (Wk.keep 4 rfl rfl ?_ ?_ ?_) key
    ·simp (maxSteps:=9999999) only [EV0,zy,zx,zw,zv,zu,zq,zp,zj,zk,leT,zg,rvC,zZ,zY,zX,zW,↓zV,↓zU,reduceCtorEq,zQ,yz,yY,yy,yx,yw,yv,yu,yq,yX,yj,yk,yg,yW,yV,yU,yZ,yQ,xz,rsT,rsL,setT,Slot.cl,List.take_succ_cons,List.take_zero]
    ·simp (maxSteps:=9999999) only [EV0,zy,zx,zw,zv,zu,zq,zp,zj,zk,leT,zg,rvC,zZ,zY,zX,zW,↓zV,↓zU,reduceCtorEq,zQ,yz,yY,yy,yx,yw,yv,yu,yq,yX,yj,yk,yg,yW,yV,yU,yZ,yQ,xz,rsT,rsL,setT,Slot.cl,List.take_succ_cons,List.take_zero,List.length_cons,List.length_nil,List.all_cons,List.all_nil]
    ·simp (maxSteps:=9999999) only [EV0,zy,zx,zw,zv,zu,zq,zp,zj,zk,leT,zg,rvC,zZ,zY,zX,zW,↓zV,↓zU,reduceCtorEq,zQ,yz,yY,yy,yx,yw,yv,yu,yq,yX,yj,yk,yg,yW,yV,yU,yZ,yQ,xz,rsL,Slot.cl,List.take_succ_cons,List.take_zero,List.length_cons,List.length_nil,List.all_cons,List.all_nil]
   ·skip
    simp only [c1,c2,not_true_eq_false,not_false_eq_true,and_self,and_true,true_and,and_false,false_and,if_true,if_false] at key
    refine run_sound (Tab.ok_Γ _) 60 _ _ _ _ ?_
    simp (maxSteps:=9999999) only [EV0,zy,zx,zw,zv,zu,zq,zp,zj,zk,leT,zg,rvC,zZ,zY,zX,zW,↓zV,↓zU,reduceCtorEq,zQ,yz,yY,yy,yx,yw,yv,yu,yq,yX,yj,yk,yg,yW,yV,yU,yZ,yQ,xz,TRi,Slot.cl,rsT,rsL,setT,get2G,get2M,put2G,put2M,backG,backM,setFirstG,setFirstM,memF_eq H,memF_set H,setM_fun H,slotF,slot_eta,cap_eta,put,fillP,sub,EVt,c1,c2]
    refine swp_weak (Wk.keep 4 rfl rfl ?_ ?_ ?_) key
    ·simp (maxSteps:=9999999) only [EV0,zy,zx,zw,zv,zu,zq,zp,zj,zk,leT,zg,rvC,zZ,zY,zX,zW,↓zV,↓zU,reduceCtorEq,zQ,yz,yY,yy,yx,yw,yv,yu,yq,yX,yj,yk,yg,yW,yV,yU,yZ,yQ,xz,rsT,rsL,setT,Slot.cl,List.take_succ_cons,List.take_zero]
    ·simp (maxSteps:=9999999) only [EV0,zy,zx,zw,zv,zu,zq,zp,zj,zk,leT,zg,rvC,zZ,zY,zX,zW,↓zV,↓zU,reduceCtorEq,zQ,yz,yY,yy,yx,yw,yv,yu,yq,yX,yj,yk,yg,yW,yV,yU,yZ,yQ,xz,rsT,rsL,setT,Slot.cl,List.take_succ_cons,List.take_zero,List.length_cons,List.length_nil,List.all_cons,List.all_nil]
    ·simp (maxSteps:=9999999) only [EV0,zy,zx,zw,zv,zu,zq,zp,zj,zk,leT,zg,rvC,zZ,zY,zX,zW,↓zV,↓zU,reduceCtorEq,zQ,yz,yY,yy,yx,yw,yv,yu,yq,yX,yj,yk,yg,yW,yV,yU,yZ,yQ,xz,rsL,Slot.cl,List.take_succ_cons,List.take_zero,List.length_cons,List.length_nil,List.all_cons,List.all_nil]
 have s15 : ∀ m',K (.s (.i .i64 0)) (setM h a b ((((((m'.r15 u v (⟨xc,xp,xn,xd⟩ : Slot)).r16 u v (⟨xc,xp,xn,xd⟩ : Slot)).r15 v u (⟨yc,yp,yn,yd⟩ : Slot)).r16 v u (⟨yc,yp,yn,yd⟩ : Slot)).r19 f u v).r19 f v u)) → swp TRi.Γ h.length (finP df56.res K) [.c (DC.after 15 df56.body)] ⟨rsT a u v f,rsL s t (⟨xc,xp,xn,xd⟩ : Slot) (⟨yc,yp,yn,yd⟩ : Slot),setM h a b m'⟩:=fun m' hk => by
  have key:=s16 _ hk
  clear hk
  revert key
  simp only [DC.after,df56,M.r15,M.nkX]
  intro key
  refine cut_at 1 ?_
  by_cases c1 : xp = 0
  ·subst c1
   simp only [not_true_eq_false,not_false_eq_true,and_self,and_true,true_and,and_false,false_and,if_true,if_false] at key
   refine run_sound (Tab.ok_Γ _) 60 _ _ _ _ ?_
   simp (maxSteps:=9999999) only [EV0,zy,zx,zw,zv,zu,zq,zp,zj,zk,leT,zg,rvC,zZ,zY,zX,zW,↓zV,↓zU,reduceCtorEq,zQ,yz,yY,yy,yx,yw,yv,yu,yq,yX,yj,yk,yg,yW,yV,yU,yZ,yQ,xz,TRi,Slot.cl,rsT,rsL,setT,get2G,get2M,put2G,put2M,backG,backM,setFirstG,setFirstM,memF_eq H,memF_set H,setM_fun H,slotF,slot_eta,cap_eta,put,fillP,sub,EVt]
   refine swp_weak (Wk.keep 4 rfl rfl ?_ ?_ ?_) key
   ·simp (maxSteps:=9999999) only [EV0,zy,zx,zw,zv,zu,zq,zp,zj,zk,leT,zg,rvC,zZ,zY,zX,zW,↓zV,↓zU,reduceCtorEq,zQ,yz,yY,yy,yx,yw,yv,yu,yq,yX,yj,yk,yg,yW,yV,yU,yZ,yQ,xz,rsT,rsL,setT,Slot.cl,List.take_succ_cons,List.take_zero]
   ·simp (maxSteps:=9999999) only [EV0,zy,zx,zw,zv,zu,zq,zp,zj,zk,leT,zg,rvC,zZ,zY,zX,zW,↓zV,↓zU,reduceCtorEq,zQ,yz,yY,yy,yx,yw,yv,yu,yq,yX,yj,yk,yg,yW,yV,yU,yZ,yQ,xz,rsT,rsL,setT,Slot.cl,List.take_succ_cons,List.take_zero,List.length_cons,List.length_nil,List.all_cons,List.all_nil]
   ·simp (maxSteps:=9999999) only [EV0,zy,zx,zw,zv,zu,zq,zp,zj,zk,leT,zg,rvC,zZ,zY,zX,zW,↓zV,↓zU,reduceCtorEq,zQ,yz,yY,yy,yx,yw,yv,yu,yq,yX,yj,yk,yg,yW,yV,yU,yZ,yQ,xz,rsL,Slot.cl,List.take_succ_cons,List.take_zero,List.length_cons,List.length_nil,List.all_cons,List.all_nil]
  ·by_cases c2 : xp = v
   ·subst c2
    simp only [c1,not_true_eq_false,not_false_eq_true,and_self,and_true,true_and,and_false,false_and,if_true,if_false] at key
    refine run_sound (Tab.ok_Γ _) 60 _ _ _ _ ?_
    simp (maxSteps:=9999999) only [EV0,zy,zx,zw,zv,zu,zq,zp,zj,zk,leT,zg,rvC,zZ,zY,zX,zW,↓zV,↓zU,reduceCtorEq,zQ,yz,yY,yy,yx,yw,yv,yu,yq,yX,yj,yk,yg,yW,yV,yU,yZ,yQ,xz,TRi,Slot.cl,rsT,rsL,setT,get2G,get2M,put2G,put2M,backG,backM,setFirstG,setFirstM,memF_eq H,memF_set H,setM_fun H,slotF,slot_eta,cap_eta,put,fillP,sub,EVt,c1]
    refine swp_weak (Wk.keep 4 rfl rfl ?_ ?_ ?_) key
    ·simp (maxSteps:=9999999) only [EV0,zy,zx,zw,zv,zu,zq,zp,zj,zk,leT,zg,rvC,zZ,zY,zX,zW,↓zV,↓zU,reduceCtorEq,zQ,yz,yY,yy,yx,yw,yv,yu,yq,yX,yj,yk,yg,yW,yV,yU,yZ,yQ,xz,rsT,rsL,setT,Slot.cl,List.take_succ_cons,List.take_zero]
    ·simp (maxSteps:=9999999) only [EV0,zy,zx,zw,zv,zu,zq,zp,zj,zk,leT,zg,rvC,zZ,zY,zX,zW,↓zV,↓zU,reduceCtorEq,zQ,yz,yY,yy,yx,yw,yv,yu,yq,yX,yj,yk,yg,yW,yV,yU,yZ,yQ,xz,rsT,rsL,setT,Slot.cl,List.take_succ_cons,List.take_zero,List.length_cons,List.length_nil,List.all_cons,List.all_nil]
    ·simp (maxSteps:=9999999) only [EV0,zy,zx,zw,zv,zu,zq,zp,zj,zk,leT,zg,rvC,zZ,zY,zX,zW,↓zV,↓zU,reduceCtorEq,zQ,yz,yY,yy,yx,yw,yv,yu,yq,yX,yj,yk,yg,yW,yV,yU,yZ,yQ,xz,rsL,Slot.cl,List.take_succ_cons,List.take_zero,List.length_cons,List.length_nil,List.all_cons,List.all_nil]
   ·by_cases c3 : m'.gE xp = 0
    ·skip
     simp only [c1,c2,c3,not_true_eq_false,not_false_eq_true,and_self,and_true,true_and,and_false,false_and,if_true,if_false] at key
     refine run_sound (Tab.ok_Γ _) 60 _ _ _ _ ?_
     simp (maxSteps:=9999999) only [EV0,zy,zx,zw,zv,zu,zq,zp,zj,zk,leT,zg,rvC,zZ,zY,zX,zW,↓zV,↓zU,reduceCtorEq,zQ,yz,yY,yy,yx,yw,yv,yu,yq,yX,yj,yk,yg,yW,yV,yU,yZ,yQ,xz,TRi,Slot.cl,rsT,rsL,setT,get2G,get2M,put2G,put2M,backG,backM,setFirstG,setFirstM,memF_eq H,memF_set H,setM_fun H,slotF,slot_eta,cap_eta,put,fillP,sub,EVt,c1,c2,c3]
     refine swp_weak (Wk.keep 4 rfl rfl ?_ ?_ ?_) key
     ·simp (maxSteps:=9999999) only [EV0,zy,zx,zw,zv,zu,zq,zp,zj,zk,leT,zg,rvC,zZ,zY,zX,zW,↓zV,↓zU,reduceCtorEq,zQ,yz,yY,yy,yx,yw,yv,yu,yq,yX,yj,yk,yg,yW,yV,yU,yZ,yQ,xz,rsT,rsL,setT,Slot.cl,List.take_succ_cons,List.take_zero]
     ·simp (maxSteps:=9999999) only [EV0,zy,zx,zw,zv,zu,zq,zp,zj,zk,leT,zg,rvC,zZ,zY,zX,zW,↓zV,↓zU,reduceCtorEq,zQ,yz,yY,yy,yx,yw,yv,yu,yq,yX,yj,yk,yg,yW,yV,yU,yZ,yQ,xz,rsT,rsL,setT,Slot.cl,List.take_succ_cons,List.take_zero,List.length_cons,List.length_nil,List.all_cons,List.all_nil]
     ·simp (maxSteps:=9999999) only [EV0,zy,zx,zw,zv,zu,zq,zp,zj,zk,leT,zg,rvC,zZ,zY,zX,zW,↓zV,↓zU,reduceCtorEq,zQ,yz,yY,yy,yx,yw,yv,yu,yq,yX,yj,yk,yg,yW,yV,yU,yZ,yQ,xz,rsL,Slot.cl,List.take_succ_cons,List.take_zero,List.length_cons,List.length_nil,List.all_cons,List.all_nil]
    ·skip
     simp only [c1,c2,c3,not_true_eq_false,not_false_eq_true,and_self,and_true,true_and,and_false,false_and,if_true,if_false] at key
     refine run_sound (Tab.ok_Γ _) 60 _ _ _ _ ?_
     simp (maxSteps:=9999999) only [EV0,zy,zx,zw,zv,zu,zq,zp,zj,zk,leT,zg,rvC,zZ,zY,zX,zW,↓zV,↓zU,reduceCtorEq,zQ,yz,yY,yy,yx,yw,yv,yu,yq,yX,yj,yk,yg,yW,yV,yU,yZ,yQ,xz,TRi,Slot.cl,rsT,rsL,setT,get2G,get2M,put2G,put2M,backG,backM,setFirstG,setFirstM,memF_eq H,memF_set H,setM_fun H,slotF,slot_eta,cap_eta,put,fillP,sub,EVt,c1,c2,c3]
     refine swp_weak (Wk.keep 4 rfl rfl ?_ ?_ ?_) key
     ·simp (maxSteps:=9999999) only [EV0,zy,zx,zw,zv,zu,zq,zp,zj,zk,leT,zg,rvC,zZ,zY,zX,zW,↓zV,↓zU,reduceCtorEq,zQ,yz,yY,yy,yx,yw,yv,yu,yq,yX,yj,yk,yg,yW,yV,yU,yZ,yQ,xz,rsT,rsL,setT,Slot.cl,List.take_succ_cons,List.take_zero]
     ·simp (maxSteps:=9999999) only [EV0,zy,zx,zw,zv,zu,zq,zp,zj,zk,leT,zg,rvC,zZ,zY,zX,zW,↓zV,↓zU,reduceCtorEq,zQ,yz,yY,yy,yx,yw,yv,yu,yq,yX,yj,yk,yg,yW,yV,yU,yZ,yQ,xz,rsT,rsL,setT,Slot.cl,List.take_succ_cons,List.take_zero,List.length_cons,List.length_nil,List.all_cons,List.all_nil]
     ·simp (maxSteps:=9999999) only [EV0,zy,zx,zw,zv,zu,zq,zp,zj,zk,leT,zg,rvC,zZ,zY,zX,zW,↓zV,↓zU,reduceCtorEq,zQ,yz,yY,yy,yx,yw,yv,yu,yq,yX,yj,yk,yg,yW,yV,yU,yZ,yQ,xz,rsL,Slot.cl,List.take_succ_cons,List.take_zero,List.length_cons,List.length_nil,List.all_cons,List.all_nil]
 have:=s15 m hS
 rw [setM_self H] at this
 exact this
theorem rswp_snd : Snd Tryz.prog 56 (FSpec.of rswpG):=(fwp_sound (Tab.snd_Γ TRi_snd) mixed Tryz.func56 dc56).weaken fun args h K hc hS => by
 change (rswpG args h).spec K at hS
 obtain ⟨a,b,m,rest,rfl,H,hS1⟩:=memF_spec hS
 clear hS
 have hS:=hS1
 clear hS1
 unfold rswpM at hS
 split at hS
 ·rename_i x y
  simp only [spec_ok] at hS
  by_cases c1 : m.fE x = 0
  ·by_cases c2 : (m.gX x).fE y = 0
   ·by_cases c3 : x = y
    ·subst c3
     simp only [M.rswp,c1,c2,if_true] at hS
     refine fwp_run (Tab.ok_Γ _) 400 ?_
     simp (maxSteps:=9999999) only [EV0,zy,zx,zw,zv,zu,zq,zp,zj,zk,leT,zg,rvC,zZ,zY,zX,zW,↓zV,↓zU,reduceCtorEq,zQ,yz,yY,yy,yx,yw,yv,yu,yq,yX,yj,yk,yg,yW,yV,yU,yZ,yQ,xz,df56,TRi,fullG,memF_eq H,memF_set H,setM_fun H,fullM,Slot.cl,c1,c2,put,fillP,sub,EVt]
     exact hS
    ·simp only [M.rswp,c1,c2,c3,if_true,if_false] at hS
     obtain ⟨s,hs⟩ : ∃ s,m.gV x = s:=⟨_,rfl⟩
     obtain ⟨t,ht⟩ : ∃ t,(m.gX x).gV y = t:=⟨_,rfl⟩
     rw [hs,ht] at hS
     obtain ⟨f,hf⟩ : ∃ f,((m.gX x).gX y).fst = f:=⟨_,rfl⟩
     rw [hf] at hS
     have key:=rs_end (K:=K) (H.set ((((m.gX x).gX y).fstX.pX x (t.rt x y)).pX y (s.rt y x))) (by rw [setM_len]; exact setM_clean H hc H.ltb) x y f s t (t.rt x y) (s.rt y x) (by rw [setM_set H.ne]; exact hS)
     rw [setM_len] at key
     clear hS
     refine fwp_of _ (fun _ _ => finP_fin) (cut_at 15 ?_)
     simp only [Slot.rt,rsL,Slot.cl] at key
     simp only [df56,DC.after] at key ⊢
     by_cases d1 : t.prev = x
     all_goals by_cases d2 : t.next = x
     all_goals by_cases d3 : s.prev = y
     all_goals by_cases d4 : s.next = y
     all_goals simp only [d1,d2,d3,d4,if_true,if_false] at key
     all_goals refine run_sound (Tab.ok_Γ _) 400 _ _ _ _ ?_
     all_goals (simp (maxSteps:=9999999) only [EV0,zy,zx,zw,zv,zu,zq,zp,zj,zk,leT,zg,rvC,zZ,zY,zX,zW,↓zV,↓zU,reduceCtorEq,zQ,yz,yY,yy,yx,yw,yv,yu,yq,yX,yj,yk,yg,yW,yV,yU,yZ,yQ,xz,TRi,fullG,memF_eq H,memF_set H,setM_fun H,fullM,firstG,firstM,put2G,put2M,slotF,slot_eta,cap_eta,Slot.cl,c1,c2,c3,hs,ht,hf,d1,d2,d3,d4,put,fillP,sub,EVt])
     all_goals refine swp_weak (Wk.keep 4 rfl rfl ?_ ?_ ?_) key
     all_goals (simp (maxSteps:=9999999) only [EV0,zy,zx,zw,zv,zu,zq,zp,zj,zk,leT,zg,rvC,zZ,zY,zX,zW,↓zV,↓zU,reduceCtorEq,zQ,yz,yY,yy,yx,yw,yv,yu,yq,yX,yj,yk,yg,yW,yV,yU,yZ,yQ,xz,rsT,rsL,setT,Slot.cl,d1,d2,d3,d4,List.take_succ_cons,List.take_zero,List.length_cons,List.length_nil,List.all_cons,List.all_nil])
   ·simp only [M.rswp,c1,c2,if_true,if_false] at hS
    refine fwp_run (Tab.ok_Γ _) 400 ?_
    simp (maxSteps:=9999999) only [EV0,zy,zx,zw,zv,zu,zq,zp,zj,zk,leT,zg,rvC,zZ,zY,zX,zW,↓zV,↓zU,reduceCtorEq,zQ,yz,yY,yy,yx,yw,yv,yu,yq,yX,yj,yk,yg,yW,yV,yU,yZ,yQ,xz,df56,TRi,fullG,memF_eq H,memF_set H,setM_fun H,fullM,Slot.cl,c1,c2,put,fillP,sub,EVt]
    exact hS
  ·simp only [M.rswp,c1,if_false] at hS
   refine fwp_run (Tab.ok_Γ _) 400 ?_
   simp (maxSteps:=9999999) only [EV0,zy,zx,zw,zv,zu,zq,zp,zj,zk,leT,zg,rvC,zZ,zY,zX,zW,↓zV,↓zU,reduceCtorEq,zQ,yz,yY,yy,yx,yw,yv,yu,yq,yX,yj,yk,yg,yW,yV,yU,yZ,yQ,xz,df56,TRi,fullG,memF_eq H,memF_set H,setM_fun H,fullM,Slot.cl,c1,put,fillP,sub,EVt]
   exact hS
 ·exact hS.elim
end Go.Proofs.YtcdfofeolgbnbaaGreat

