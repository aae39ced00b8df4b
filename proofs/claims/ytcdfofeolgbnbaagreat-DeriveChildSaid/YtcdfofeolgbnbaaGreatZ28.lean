/- Package derive,and the document's: Copy,Mint,Move,Mutate,Rotate. -/
import Derived.Test.YtcdfofeolgbnbaaGreatZ13
import Derived.Test.YtcdfofeolgbnbaaGreatZ27
/- Package derive,and the document's: Copy,Mint,Move,Mutate,Rotate. -/
namespace Go.Proofs.YtcdfofeolgbnbaaGreat
open Go.D
open Nat (reduceAdd reducePow reduceMul reduceSub reduceLeDiff reduceLT reduceEqDiff)
open Int (reduceNeg reduceLE reduceEq reduceNe reduceToNat)
open Go.D renaming istep → zy,pickR → zx,bin1R → zw,un1R → zv,eqS → zu,eq1 → zq,cmpS → zp,cmp1 → zj,isNil → zk,shows → zg,result → zZ,q_cond_t → zV,q_cond_f → zU
open List renaming set → zY,replicate → zX
open Option renaming map → zW
open Nat renaming reduceAdd → zQ,reducePow → yz,reduceMul → yy,reduceSub → yx,reduceLeDiff → yw,reduceLT → yv,reduceEqDiff → yu
open Int renaming reduceNeg → yq,reduceLE → yj,reduceEq → yk,reduceNe → yg,reduceToNat → yZ,reducePow → yY,reduceLT → yX,reduceAdd → yW,reduceSub → yV,reduceMul → yU,reduceBEq → yQ,reduceBNe → xz
set_option linter.all false
set_option maxRecDepth 100000
set_option maxHeartbeats 8000000

def M.cpX (m : M) (x : M → Int → Int → M) (l : M → Int → Int → Cap → M) (f t r : Int) : M:=if m.coE f t = 0 then l (m.coX x f t) f t (m.coC f t r) else m.coX x f t
def cp9M (x : M → Int → Int → M) (l : M → Int → Int → Cap → M) (b : Nat) (m : M) (st : M → List Blk) : List V → Res
 | [.s (.i .i64 f), .s (.i .i64 t), .s (.i .i64 r)] => .ok (.s (.i .i64 (m.coE f t))) [] (st (m.cpX x l f t r))
 | _ => .bad
noncomputable def cp9G:=memF (cp9M M.enX M.layX)
noncomputable def rcp9G:=memF (cp9M M.renX M.rlayX)
noncomputable def T9g : Tab:=addT 111 co9G (addT 164 rco9G (addT 73 lay9G (addT 133 rlay9G (noT))))
theorem T9g_snd : T9g.Snd Tryz.prog:=addT_snd ok111 co9_snd (addT_snd ok164 rco9_snd (addT_snd ok73 lay9_snd (addT_snd ok133 rlay9_snd ((noT_snd _)))))
theorem cp9_snd : Snd Tryz.prog 40 (FSpec.of cp9G):=snd_run T9g_snd mixed Tryz.func40 dc40 200 fun args h K hc hS => by
 obtain ⟨a,b,m,rest,rfl,H,hS1⟩:=memF_spec hS
 clear hS
 have hS:=hS1
 clear hS1
 unfold cp9M at hS
 split at hS
 ·rename_i f t r
  simp only [spec_ok,M.cpX] at hS
  by_cases c1 : m.coE f t = 0
  ·simp only [c1,if_true] at hS
   simp (maxSteps:=9999999) only [EV0,zy,zx,zw,zv,zu,zq,zp,zj,zk,leT,zg,rvC,zZ,zY,zX,zW,↓zV,↓zU,reduceCtorEq,zQ,yz,yY,yy,yx,yw,yv,yu,yq,yX,yj,yk,yg,yW,yV,yU,yZ,yQ,xz,df40,T9g,co9G,lay9G,co9M,lay9M,c1,memF_eq H,memF_set H,setM_fun H,setM_self H,slotF,capF,slot_eta,cap_eta,Slot.cl,Cap.cl,sub,put,fillP,EVt]
   exact hS
  ·simp only [c1,if_false] at hS
   simp (maxSteps:=9999999) only [EV0,zy,zx,zw,zv,zu,zq,zp,zj,zk,leT,zg,rvC,zZ,zY,zX,zW,↓zV,↓zU,reduceCtorEq,zQ,yz,yY,yy,yx,yw,yv,yu,yq,yX,yj,yk,yg,yW,yV,yU,yZ,yQ,xz,df40,T9g,co9G,lay9G,co9M,lay9M,c1,memF_eq H,memF_set H,setM_fun H,setM_self H,slotF,capF,slot_eta,cap_eta,Slot.cl,Cap.cl,sub,put,fillP,EVt]
   exact hS
 ·exact hS.elim
theorem rcp9_snd : Snd Tryz.prog 104 (FSpec.of rcp9G):=snd_run T9g_snd mixed Tryz.func104 dc104 200 fun args h K hc hS => by
 obtain ⟨a,b,m,rest,rfl,H,hS1⟩:=memF_spec hS
 clear hS
 have hS:=hS1
 clear hS1
 unfold cp9M at hS
 split at hS
 ·rename_i f t r
  simp only [spec_ok,M.cpX] at hS
  by_cases c1 : m.coE f t = 0
  ·simp only [c1,if_true] at hS
   simp (maxSteps:=9999999) only [EV0,zy,zx,zw,zv,zu,zq,zp,zj,zk,leT,zg,rvC,zZ,zY,zX,zW,↓zV,↓zU,reduceCtorEq,zQ,yz,yY,yy,yx,yw,yv,yu,yq,yX,yj,yk,yg,yW,yV,yU,yZ,yQ,xz,df104,T9g,rco9G,rlay9G,co9M,lay9M,c1,memF_eq H,memF_set H,setM_fun H,setM_self H,slotF,capF,slot_eta,cap_eta,Slot.cl,Cap.cl,sub,put,fillP,EVt]
   exact hS
  ·simp only [c1,if_false] at hS
   simp (maxSteps:=9999999) only [EV0,zy,zx,zw,zv,zu,zq,zp,zj,zk,leT,zg,rvC,zZ,zY,zX,zW,↓zV,↓zU,reduceCtorEq,zQ,yz,yY,yy,yx,yw,yv,yu,yq,yX,yj,yk,yg,yW,yV,yU,yZ,yQ,xz,df104,T9g,rco9G,rlay9G,co9M,lay9M,c1,memF_eq H,memF_set H,setM_fun H,setM_self H,slotF,capF,slot_eta,cap_eta,Slot.cl,Cap.cl,sub,put,fillP,EVt]
   exact hS
 ·exact hS.elim

/-! ### Mint -/
def epB (c : Cap) : Bool:=c.ty == 4 || c.ty == 5
def Cap.withB (c : Cap) (n : Int) : Cap:=⟨c.ty,c.obj,c.bits,c.mark,c.guard,c.gbits,n,c.rights,c.asid,c.vaddr,c.line⟩
def bdgB (n : Int) : Bool:=decide (0 ≤ n) && decide (n < 268435456)
def Cap.miE (c : Cap) (n g b : Int) : Int:=if epB c = true then (if (c.badge == 0) = true then (if bdgB n = true then 0 else 1) else 122) else if (c.ty == 2) = true then (if guardB g b = true then 0 else 1) else 0
def Cap.miC (c : Cap) (n g b : Int) : Cap:=if epB c = true then c.withB n else if (c.ty == 2) = true then c.withG g b else c
def M.miE (m : M) (f t r n g b : Int) : Int:=if m.coE f t = 0 then (m.coC f t r).miE n g b else m.coE f t
def M.miX (m : M) (x : M → Int → Int → M) (l : M → Int → Int → Cap → M) (f t r n g b : Int) : M:=if m.miE f t r n g b = 0 then l (m.coX x f t) f t ((m.coC f t r).miC n g b) else m.coX x f t
def mi9M (x : M → Int → Int → M) (l : M → Int → Int → Cap → M) (_ : Nat) (m : M) (st : M → List Blk) : List V → Res
 | [.s (.i .i64 f), .s (.i .i64 t), .s (.i .i64 r), .s (.i .i64 n), .s (.i .i64 g), .s (.i .i64 b)] => .ok (.s (.i .i64 (m.miE f t r n g b))) [] (st (m.miX x l f t r n g b))
 | _ => .bad
noncomputable def mi9G:=memF (mi9M M.enX M.layX)
noncomputable def rmi9G:=memF (mi9M M.renX M.rlayX)
noncomputable def T9h : Tab:=addT 162 guaG (addT 165 rguaG (T9g))
theorem T9h_snd : T9h.Snd Tryz.prog:=addT_snd ok162 gua_snd (addT_snd ok165 rgua_snd (T9g_snd))
theorem mi9_snd : Snd Tryz.prog 102 (FSpec.of mi9G):=snd_run T9h_snd mixed Tryz.func102 dc102 300 fun args h K hc hS => by
 obtain ⟨a,b,m,rest,rfl,H,hS1⟩:=memF_spec hS
 clear hS
 have hS:=hS1
 clear hS1
 unfold mi9M at hS
 split at hS
 ·rename_i f t r n g b'
  simp only [spec_ok,M.miX,M.miE] at hS
  by_cases c1 : m.coE f t = 0
  ·obtain ⟨c,hc1⟩ : ∃ c,m.coC f t r = c:=⟨_,rfl⟩
   simp only [c1,hc1,if_true,Cap.miE,Cap.miC,epB,bdgB] at hS
   cases k4 : c.ty == 4
   all_goals cases k5 : c.ty == 5
   all_goals cases k2 : c.ty == 2
   all_goals try (exfalso; simp only [beq_iff_eq] at *; omega)
   all_goals simp only [k4,k5,k2,Bool.or_self,Bool.or_true,Bool.true_or,Bool.or_false,Bool.false_or,Bool.false_eq_true,if_true,if_false] at hS
   all_goals try (first | exact absurd k4 (by decide) | skip)
   ·-- nothing to say
    simp (maxSteps:=9999999) only [EV0,zy,zx,zw,zv,zu,zq,zp,zj,zk,leT,zg,rvC,zZ,zY,zX,zW,↓zV,↓zU,reduceCtorEq,zQ,yz,yY,yy,yx,yw,yv,yu,yq,yX,yj,yk,yg,yW,yV,yU,yZ,yQ,xz,df102,T9h,T9g,co9G,lay9G,guaG,co9M,lay9M,c1,hc1,k4,k5,k2,memF_eq H,memF_set H,setM_fun H,setM_self H,slotF,capF,slot_eta,cap_eta,Slot.cl,Cap.cl,sub,put,fillP,EVt]
    exact hS
   ·-- a CNode's
    cases q : guardB g b'
    all_goals simp only [q,Bool.false_eq_true,if_true,if_false,reduceEq,Cap.withG] at hS
    all_goals (simp (maxSteps:=9999999) only [EV0,zy,zx,zw,zv,zu,zq,zp,zj,zk,leT,zg,rvC,zZ,zY,zX,zW,↓zV,↓zU,reduceCtorEq,zQ,yz,yY,yy,yx,yw,yv,yu,yq,yX,yj,yk,yg,yW,yV,yU,yZ,yQ,xz,df102,T9h,T9g,co9G,lay9G,guaG,co9M,lay9M,c1,hc1,k4,k5,k2,q,Cap.withG,memF_eq H,memF_set H,setM_fun H,setM_self H,slotF,capF,slot_eta,cap_eta,Slot.cl,Cap.cl,sub,put,fillP,EVt])
    all_goals exact hS
   all_goals (
    cases kb : c.badge == 0
    ·simp only [kb,Bool.false_eq_true,if_false,reduceEq] at hS
     simp (maxSteps:=9999999) only [EV0,zy,zx,zw,zv,zu,zq,zp,zj,zk,leT,zg,rvC,zZ,zY,zX,zW,↓zV,↓zU,reduceCtorEq,zQ,yz,yY,yy,yx,yw,yv,yu,yq,yX,yj,yk,yg,yW,yV,yU,yZ,yQ,xz,df102,T9h,T9g,co9G,lay9G,guaG,co9M,lay9M,c1,hc1,k4,k5,k2,kb,bne,memF_eq H,memF_set H,setM_fun H,setM_self H,slotF,capF,slot_eta,cap_eta,Slot.cl,Cap.cl,sub,put,fillP,EVt]
     exact hS
    ·by_cases q1 : 0 ≤ n
     ·by_cases q2 : n < 268435456
      ·have q3 : ¬ n < 0:=by omega
       have q4 : ¬ 268435456 ≤ n:=by omega
       simp only [kb,q1,q2,decide_true,Bool.and_self,if_true,Cap.withB] at hS
       simp (maxSteps:=9999999) only [EV0,zy,zx,zw,zv,zu,zq,zp,zj,zk,leT,zg,rvC,zZ,zY,zX,zW,↓zV,↓zU,reduceCtorEq,zQ,yz,yY,yy,yx,yw,yv,yu,yq,yX,yj,yk,yg,yW,yV,yU,yZ,yQ,xz,df102,T9h,T9g,co9G,lay9G,guaG,co9M,lay9M,c1,hc1,k4,k5,k2,kb,bne,q1,q2,q3,q4,memF_eq H,memF_set H,setM_fun H,setM_self H,slotF,capF,slot_eta,cap_eta,Slot.cl,Cap.cl,sub,put,fillP,EVt]
       exact hS
      ·have q3 : ¬ n < 0:=by omega
       have q4 : 268435456 ≤ n:=by omega
       simp only [kb,q1,q2,decide_true,decide_false,Bool.and_false,Bool.false_eq_true,if_true,if_false,reduceEq] at hS
       simp (maxSteps:=9999999) only [EV0,zy,zx,zw,zv,zu,zq,zp,zj,zk,leT,zg,rvC,zZ,zY,zX,zW,↓zV,↓zU,reduceCtorEq,zQ,yz,yY,yy,yx,yw,yv,yu,yq,yX,yj,yk,yg,yW,yV,yU,yZ,yQ,xz,df102,T9h,T9g,co9G,lay9G,guaG,co9M,lay9M,c1,hc1,k4,k5,k2,kb,bne,q1,q2,q3,q4,memF_eq H,memF_set H,setM_fun H,setM_self H,slotF,capF,slot_eta,cap_eta,Slot.cl,Cap.cl,sub,put,fillP,EVt]
       exact hS
     ·have q3 : n < 0:=by omega
      simp only [kb,q1,decide_false,Bool.false_and,Bool.false_eq_true,if_true,if_false,reduceEq] at hS
      simp (maxSteps:=9999999) only [EV0,zy,zx,zw,zv,zu,zq,zp,zj,zk,leT,zg,rvC,zZ,zY,zX,zW,↓zV,↓zU,reduceCtorEq,zQ,yz,yY,yy,yx,yw,yv,yu,yq,yX,yj,yk,yg,yW,yV,yU,yZ,yQ,xz,df102,T9h,T9g,co9G,lay9G,guaG,co9M,lay9M,c1,hc1,k4,k5,k2,kb,bne,q1,q3,memF_eq H,memF_set H,setM_fun H,setM_self H,slotF,capF,slot_eta,cap_eta,Slot.cl,Cap.cl,sub,put,fillP,EVt]
      exact hS)
  ·simp only [c1,if_false] at hS
   simp (maxSteps:=9999999) only [EV0,zy,zx,zw,zv,zu,zq,zp,zj,zk,leT,zg,rvC,zZ,zY,zX,zW,↓zV,↓zU,reduceCtorEq,zQ,yz,yY,yy,yx,yw,yv,yu,yq,yX,yj,yk,yg,yW,yV,yU,yZ,yQ,xz,df102,T9h,T9g,co9G,lay9G,guaG,co9M,lay9M,c1,memF_eq H,memF_set H,setM_fun H,setM_self H,slotF,capF,slot_eta,cap_eta,Slot.cl,Cap.cl,sub,put,fillP,EVt]
   exact hS
 ·exact hS.elim
theorem rmi9_snd : Snd Tryz.prog 105 (FSpec.of rmi9G):=snd_run T9h_snd mixed Tryz.func105 dc105 300 fun args h K hc hS => by
 obtain ⟨a,b,m,rest,rfl,H,hS1⟩:=memF_spec hS
 clear hS
 have hS:=hS1
 clear hS1
 unfold mi9M at hS
 split at hS
 ·rename_i f t r n g b'
  simp only [spec_ok,M.miX,M.miE] at hS
  by_cases c1 : m.coE f t = 0
  ·obtain ⟨c,hc1⟩ : ∃ c,m.coC f t r = c:=⟨_,rfl⟩
   simp only [c1,hc1,if_true,Cap.miE,Cap.miC,epB,bdgB] at hS
   cases k4 : c.ty == 4
   all_goals cases k5 : c.ty == 5
   all_goals cases k2 : c.ty == 2
   all_goals try (exfalso; simp only [beq_iff_eq] at *; omega)
   all_goals simp only [k4,k5,k2,Bool.or_self,Bool.or_true,Bool.true_or,Bool.or_false,Bool.false_or,Bool.false_eq_true,if_true,if_false] at hS
   all_goals try (first | exact absurd k4 (by decide) | skip)
   ·-- nothing to say
    simp (maxSteps:=9999999) only [EV0,zy,zx,zw,zv,zu,zq,zp,zj,zk,leT,zg,rvC,zZ,zY,zX,zW,↓zV,↓zU,reduceCtorEq,zQ,yz,yY,yy,yx,yw,yv,yu,yq,yX,yj,yk,yg,yW,yV,yU,yZ,yQ,xz,df105,T9h,T9g,rco9G,rlay9G,rguaG,co9M,lay9M,c1,hc1,k4,k5,k2,memF_eq H,memF_set H,setM_fun H,setM_self H,slotF,capF,slot_eta,cap_eta,Slot.cl,Cap.cl,sub,put,fillP,EVt]
    exact hS
   ·-- a CNode's
    cases q : guardB g b'
    all_goals simp only [q,Bool.false_eq_true,if_true,if_false,reduceEq,Cap.withG] at hS
    all_goals (simp (maxSteps:=9999999) only [EV0,zy,zx,zw,zv,zu,zq,zp,zj,zk,leT,zg,rvC,zZ,zY,zX,zW,↓zV,↓zU,reduceCtorEq,zQ,yz,yY,yy,yx,yw,yv,yu,yq,yX,yj,yk,yg,yW,yV,yU,yZ,yQ,xz,df105,T9h,T9g,rco9G,rlay9G,rguaG,co9M,lay9M,c1,hc1,k4,k5,k2,q,Cap.withG,memF_eq H,memF_set H,setM_fun H,setM_self H,slotF,capF,slot_eta,cap_eta,Slot.cl,Cap.cl,sub,put,fillP,EVt])
    all_goals exact hS
   all_goals (
    cases kb : c.badge == 0
    ·simp only [kb,Bool.false_eq_true,if_false,reduceEq] at hS
     simp (maxSteps:=9999999) only [EV0,zy,zx,zw,zv,zu,zq,zp,zj,zk,leT,zg,rvC,zZ,zY,zX,zW,↓zV,↓zU,reduceCtorEq,zQ,yz,yY,yy,yx,yw,yv,yu,yq,yX,yj,yk,yg,yW,yV,yU,yZ,yQ,xz,df105,T9h,T9g,rco9G,rlay9G,rguaG,co9M,lay9M,c1,hc1,k4,k5,k2,kb,bne,memF_eq H,memF_set H,setM_fun H,setM_self H,slotF,capF,slot_eta,cap_eta,Slot.cl,Cap.cl,sub,put,fillP,EVt]
     exact hS
    ·by_cases q1 : 0 ≤ n
     ·by_cases q2 : n < 268435456
      ·have q3 : ¬ n < 0:=by omega
       have q4 : ¬ 268435456 ≤ n:=by omega
       simp only [kb,q1,q2,decide_true,Bool.and_self,if_true,Cap.withB] at hS
       simp (maxSteps:=9999999) only [EV0,zy,zx,zw,zv,zu,zq,zp,zj,zk,leT,zg,rvC,zZ,zY,zX,zW,↓zV,↓zU,reduceCtorEq,zQ,yz,yY,yy,yx,yw,yv,yu,yq,yX,yj,yk,yg,yW,yV,yU,yZ,yQ,xz,df105,T9h,T9g,rco9G,rlay9G,rguaG,co9M,lay9M,c1,hc1,k4,k5,k2,kb,bne,q1,q2,q3,q4,memF_eq H,memF_set H,setM_fun H,setM_self H,slotF,capF,slot_eta,cap_eta,Slot.cl,Cap.cl,sub,put,fillP,EVt]
       exact hS
      ·have q3 : ¬ n < 0:=by omega
       have q4 : 268435456 ≤ n:=by omega
       simp only [kb,q1,q2,decide_true,decide_false,Bool.and_false,Bool.false_eq_true,if_true,if_false,reduceEq] at hS
       simp (maxSteps:=9999999) only [EV0,zy,zx,zw,zv,zu,zq,zp,zj,zk,leT,zg,rvC,zZ,zY,zX,zW,↓zV,↓zU,reduceCtorEq,zQ,yz,yY,yy,yx,yw,yv,yu,yq,yX,yj,yk,yg,yW,yV,yU,yZ,yQ,xz,df105,T9h,T9g,rco9G,rlay9G,rguaG,co9M,lay9M,c1,hc1,k4,k5,k2,kb,bne,q1,q2,q3,q4,memF_eq H,memF_set H,setM_fun H,setM_self H,slotF,capF,slot_eta,cap_eta,Slot.cl,Cap.cl,sub,put,fillP,EVt]
       exact hS
     ·have q3 : n < 0:=by omega
      simp only [kb,q1,decide_false,Bool.false_and,Bool.false_eq_true,if_true,if_false,reduceEq] at hS
      simp (maxSteps:=9999999) only [EV0,zy,zx,zw,zv,zu,zq,zp,zj,zk,leT,zg,rvC,zZ,zY,zX,zW,↓zV,↓zU,reduceCtorEq,zQ,yz,yY,yy,yx,yw,yv,yu,yq,yX,yj,yk,yg,yW,yV,yU,yZ,yQ,xz,df105,T9h,T9g,rco9G,rlay9G,rguaG,co9M,lay9M,c1,hc1,k4,k5,k2,kb,bne,q1,q3,memF_eq H,memF_set H,setM_fun H,setM_self H,slotF,capF,slot_eta,cap_eta,Slot.cl,Cap.cl,sub,put,fillP,EVt]
      exact hS)
  ·simp only [c1,if_false] at hS
   simp (maxSteps:=9999999) only [EV0,zy,zx,zw,zv,zu,zq,zp,zj,zk,leT,zg,rvC,zZ,zY,zX,zW,↓zV,↓zU,reduceCtorEq,zQ,yz,yY,yy,yx,yw,yv,yu,yq,yX,yj,yk,yg,yW,yV,yU,yZ,yQ,xz,df105,T9h,T9g,rco9G,rlay9G,rguaG,co9M,lay9M,c1,memF_eq H,memF_set H,setM_fun H,setM_self H,slotF,capF,slot_eta,cap_eta,Slot.cl,Cap.cl,sub,put,fillP,EVt]
   exact hS
 ·exact hS.elim

/-! ### Move,Mutate -/
def M.moE (m : M) (f t : Int) : Int:=if m.enE f t = 0 then (if fitB (m.gV f).cap t = true then 0 else 122) else m.enE f t
def mo9M (x : M → Int → Int → M) (b : Nat) (m : M) (st : M → List Blk) : List V → Res
 | [.s (.i .i64 f), .s (.i .i64 t)] => .ok (.s (.i .i64 (m.moE f t))) [] (st (m.coX x f t))
 | _ => .bad
noncomputable def mo9G:=memF (mo9M M.enX)
noncomputable def rmo9G:=memF (mo9M M.renX)
theorem mo9_snd : Snd Tryz.prog 163 (FSpec.of mo9G):=snd_run T9f_snd mixed Tryz.func163 dc163 200 fun args h K hc hS => by
 obtain ⟨a,b,m,rest,rfl,H,hS1⟩:=memF_spec hS
 clear hS
 have hS:=hS1
 clear hS1
 unfold mo9M at hS
 split at hS
 ·rename_i f t
  simp only [spec_ok,M.moE,M.coX] at hS
  obtain ⟨c,hc1⟩ : ∃ c,(m.gV f).cap = c:=⟨_,rfl⟩
  by_cases c1 : m.enE f t = 0
  ·cases c3 : fitB c t
   all_goals simp only [hc1,c1,c3,Bool.false_eq_true,if_true,if_false] at hS
   all_goals (simp (maxSteps:=9999999) only [EV0,zy,zx,zw,zv,zu,zq,zp,zj,zk,leT,zg,rvC,zZ,zY,zX,zW,↓zV,↓zU,reduceCtorEq,zQ,yz,yY,yy,yx,yw,yv,yu,yq,yX,yj,yk,yg,yW,yV,yU,yZ,yQ,xz,df163,T9f,en9G,enX_gV,en9M,cap9G,cap9M,fitG,hc1,c1,c3,memF_eq H,memF_set H,setM_fun H,setM_self H,slotF,capF,slot_eta,cap_eta,Slot.cl,Cap.cl,sub,put,fillP,EVt])
   all_goals exact hS
  ·simp only [c1,if_false] at hS
   simp (maxSteps:=9999999) only [EV0,zy,zx,zw,zv,zu,zq,zp,zj,zk,leT,zg,rvC,zZ,zY,zX,zW,↓zV,↓zU,reduceCtorEq,zQ,yz,yY,yy,yx,yw,yv,yu,yq,yX,yj,yk,yg,yW,yV,yU,yZ,yQ,xz,df163,T9f,en9G,enX_gV,en9M,cap9G,cap9M,fitG,hc1,c1,memF_eq H,memF_set H,setM_fun H,setM_self H,slotF,capF,slot_eta,cap_eta,Slot.cl,Cap.cl,sub,put,fillP,EVt]
   exact hS
 ·exact hS.elim
theorem rmo9_snd : Snd Tryz.prog 166 (FSpec.of rmo9G):=snd_run T9f_snd mixed Tryz.func166 dc166 200 fun args h K hc hS => by
 obtain ⟨a,b,m,rest,rfl,H,hS1⟩:=memF_spec hS
 clear hS
 have hS:=hS1
 clear hS1
 unfold mo9M at hS
 split at hS
 ·rename_i f t
  simp only [spec_ok,M.moE,M.coX] at hS
  obtain ⟨c,hc1⟩ : ∃ c,(m.gV f).cap = c:=⟨_,rfl⟩
  by_cases c1 : m.enE f t = 0
  ·cases c3 : fitB c t
   all_goals simp only [hc1,c1,c3,Bool.false_eq_true,if_true,if_false] at hS
   all_goals (simp (maxSteps:=9999999) only [EV0,zy,zx,zw,zv,zu,zq,zp,zj,zk,leT,zg,rvC,zZ,zY,zX,zW,↓zV,↓zU,reduceCtorEq,zQ,yz,yY,yy,yx,yw,yv,yu,yq,yX,yj,yk,yg,yW,yV,yU,yZ,yQ,xz,df166,T9f,ren9G,renX_gV,en9M,cap9G,cap9M,fitG,hc1,c1,c3,memF_eq H,memF_set H,setM_fun H,setM_self H,slotF,capF,slot_eta,cap_eta,Slot.cl,Cap.cl,sub,put,fillP,EVt])
   all_goals exact hS
  ·simp only [c1,if_false] at hS
   simp (maxSteps:=9999999) only [EV0,zy,zx,zw,zv,zu,zq,zp,zj,zk,leT,zg,rvC,zZ,zY,zX,zW,↓zV,↓zU,reduceCtorEq,zQ,yz,yY,yy,yx,yw,yv,yu,yq,yX,yj,yk,yg,yW,yV,yU,yZ,yQ,xz,df166,T9f,ren9G,renX_gV,en9M,cap9G,cap9M,fitG,hc1,c1,memF_eq H,memF_set H,setM_fun H,setM_self H,slotF,capF,slot_eta,cap_eta,Slot.cl,Cap.cl,sub,put,fillP,EVt]
   exact hS
 ·exact hS.elim
theorem coX_w (m : M) (x : M → Int → Int → M) (f t : Int) (h : (x m f t).w = m.w) : (m.coX x f t).w = m.w:=by
 unfold M.coX; split
 ·exact (gX_w _ _).trans h
 ·exact h
theorem coXe_gV (m : M) (f t y : Int) : (m.coX M.enX f t).gV y = m.gV y:=gV_w (coX_w m _ f t (enX_w m f t)) y
theorem coXr_gV (m : M) (f t y : Int) : (m.coX M.renX f t).gV y = m.gV y:=gV_w (coX_w m _ f t (renX_w m f t)) y
def M.mvX (m : M) (x : M → Int → Int → M) (mv : M → Int → Int → Int × M) (f t : Int) : M:=if m.moE f t = 0 then (mv (m.coX x f t) f t).2 else m.coX x f t
def mv9M (x : M → Int → Int → M) (mv : M → Int → Int → Int × M) (b : Nat) (m : M) (st : M → List Blk) : List V → Res
 | [.s (.i .i64 f), .s (.i .i64 t)] => .ok (.s (.i .i64 (m.moE f t))) [] (st (m.mvX x mv f t))
 | _ => .bad
noncomputable def mv9G:=memF (mv9M M.enX M.mov)
noncomputable def rmv9G:=memF (mv9M M.renX M.rmov)
noncomputable def T9i : Tab:=addT 163 mo9G (addT 166 rmo9G (addT 53 movG (addT 54 rmovG (addT 67 cap9G (addT 66 cap9G (addT 162 guaG (addT 165 rguaG (addT 71 setCap9G (addT 147 setCap9G (noT))))))))))
theorem T9i_snd : T9i.Snd Tryz.prog:=addT_snd ok163 mo9_snd (addT_snd ok166 rmo9_snd (addT_snd ok53 mov_snd (addT_snd ok54 rmov_snd (addT_snd ok67 cap9_snd (addT_snd ok66 rcap9_snd (addT_snd ok162 gua_snd (addT_snd ok165 rgua_snd (addT_snd ok71 setCap9_snd (addT_snd ok147 rsetCap9_snd ((noT_snd _)))))))))))
theorem mv9_snd : Snd Tryz.prog 103 (FSpec.of mv9G):=snd_run T9i_snd mixed Tryz.func103 dc103 200 fun args h K hc hS => by
 obtain ⟨a,b,m,rest,rfl,H,hS1⟩:=memF_spec hS
 clear hS
 have hS:=hS1
 clear hS1
 unfold mv9M at hS
 split at hS
 ·rename_i f t
  simp only [spec_ok,M.mvX] at hS
  by_cases c1 : m.moE f t = 0
  ·simp only [c1,if_true] at hS
   simp (maxSteps:=9999999) only [EV0,zy,zx,zw,zv,zu,zq,zp,zj,zk,leT,zg,rvC,zZ,zY,zX,zW,↓zV,↓zU,reduceCtorEq,zQ,yz,yY,yy,yx,yw,yv,yu,yq,yX,yj,yk,yg,yW,yV,yU,yZ,yQ,xz,df103,T9i,mo9G,movG,movM,mo9M,c1,memF_eq H,memF_set H,setM_fun H,setM_self H,slotF,capF,slot_eta,cap_eta,Slot.cl,Cap.cl,sub,put,fillP,EVt]
   exact hS
  ·simp only [c1,if_false] at hS
   simp (maxSteps:=9999999) only [EV0,zy,zx,zw,zv,zu,zq,zp,zj,zk,leT,zg,rvC,zZ,zY,zX,zW,↓zV,↓zU,reduceCtorEq,zQ,yz,yY,yy,yx,yw,yv,yu,yq,yX,yj,yk,yg,yW,yV,yU,yZ,yQ,xz,df103,T9i,mo9G,movG,movM,mo9M,c1,memF_eq H,memF_set H,setM_fun H,setM_self H,slotF,capF,slot_eta,cap_eta,Slot.cl,Cap.cl,sub,put,fillP,EVt]
   exact hS
 ·exact hS.elim
theorem rmv9_snd : Snd Tryz.prog 106 (FSpec.of rmv9G):=snd_run T9i_snd mixed Tryz.func106 dc106 200 fun args h K hc hS => by
 obtain ⟨a,b,m,rest,rfl,H,hS1⟩:=memF_spec hS
 clear hS
 have hS:=hS1
 clear hS1
 unfold mv9M at hS
 split at hS
 ·rename_i f t
  simp only [spec_ok,M.mvX] at hS
  by_cases c1 : m.moE f t = 0
  ·simp only [c1,if_true] at hS
   simp (maxSteps:=9999999) only [EV0,zy,zx,zw,zv,zu,zq,zp,zj,zk,leT,zg,rvC,zZ,zY,zX,zW,↓zV,↓zU,reduceCtorEq,zQ,yz,yY,yy,yx,yw,yv,yu,yq,yX,yj,yk,yg,yW,yV,yU,yZ,yQ,xz,df106,T9i,rmo9G,rmovG,rmovM,mo9M,c1,memF_eq H,memF_set H,setM_fun H,setM_self H,slotF,capF,slot_eta,cap_eta,Slot.cl,Cap.cl,sub,put,fillP,EVt]
   exact hS
  ·simp only [c1,if_false] at hS
   simp (maxSteps:=9999999) only [EV0,zy,zx,zw,zv,zu,zq,zp,zj,zk,leT,zg,rvC,zZ,zY,zX,zW,↓zV,↓zU,reduceCtorEq,zQ,yz,yY,yy,yx,yw,yv,yu,yq,yX,yj,yk,yg,yW,yV,yU,yZ,yQ,xz,df106,T9i,rmo9G,rmovG,rmovM,mo9M,c1,memF_eq H,memF_set H,setM_fun H,setM_self H,slotF,capF,slot_eta,cap_eta,Slot.cl,Cap.cl,sub,put,fillP,EVt]
   exact hS
 ·exact hS.elim
def M.muE (m : M) (f t g b : Int) : Int:=if m.moE f t = 0 then (if ((m.gV f).cap.ty == 2) = true then (if guardB g b = true then 0 else 1) else 122) else m.moE f t
def M.muX (m : M) (x : M → Int → Int → M) (mv : M → Int → Int → Int × M) (f t g b : Int) : M :=
 if m.moE f t = 0 then (if m.muE f t g b = 0 then (mv ((m.coX x f t).gX f) f t).2.scX t ((m.gV f).cap.withG g b) else (m.coX x f t).gX f) else m.coX x f t
def mu9M (x : M → Int → Int → M) (mv : M → Int → Int → Int × M) (_ : Nat) (m : M) (st : M → List Blk) : List V → Res
 | [.s (.i .i64 f), .s (.i .i64 t), .s (.i .i64 g), .s (.i .i64 b)] => .ok (.s (.i .i64 (m.muE f t g b))) [] (st (m.muX x mv f t g b))
 | _ => .bad
noncomputable def mu9G:=memF (mu9M M.enX M.mov)
noncomputable def rmu9G:=memF (mu9M M.renX M.rmov)
theorem mu9_snd : Snd Tryz.prog 107 (FSpec.of mu9G):=snd_run T9i_snd mixed Tryz.func107 dc107 300 fun args h K hc hS => by
 obtain ⟨a,b,m,rest,rfl,H,hS1⟩:=memF_spec hS
 clear hS
 have hS:=hS1
 clear hS1
 unfold mu9M at hS
 split at hS
 ·rename_i f t g b'
  simp only [spec_ok,M.muX,M.muE] at hS
  by_cases c1 : m.moE f t = 0
  ·obtain ⟨c,hc1⟩ : ∃ c,(m.gV f).cap = c:=⟨_,rfl⟩
   simp only [c1,hc1,if_true] at hS
   cases k2 : c.ty == 2
   ·simp only [k2,Bool.false_eq_true,if_false,reduceEq] at hS
    simp (maxSteps:=9999999) only [EV0,zy,zx,zw,zv,zu,zq,zp,zj,zk,leT,zg,rvC,zZ,zY,zX,zW,↓zV,↓zU,reduceCtorEq,zQ,yz,yY,yy,yx,yw,yv,yu,yq,yX,yj,yk,yg,yW,yV,yU,yZ,yQ,xz,df107,T9i,mo9G,movG,movM,guaG,coXe_gV,mo9M,cap9G,cap9M,hc1,c1,k2,bne,memF_eq H,memF_set H,setM_fun H,setM_self H,slotF,capF,slot_eta,cap_eta,Slot.cl,Cap.cl,sub,put,fillP,EVt]
    exact hS
   ·cases q : guardB g b'
    all_goals simp only [k2,q,Bool.false_eq_true,if_true,if_false,reduceEq,Cap.withG] at hS
    all_goals (simp (maxSteps:=9999999) only [EV0,zy,zx,zw,zv,zu,zq,zp,zj,zk,leT,zg,rvC,zZ,zY,zX,zW,↓zV,↓zU,reduceCtorEq,zQ,yz,yY,yy,yx,yw,yv,yu,yq,yX,yj,yk,yg,yW,yV,yU,yZ,yQ,xz,df107,T9i,mo9G,movG,movM,guaG,coXe_gV,mo9M,cap9G,cap9M,setCap9G,setCap9M,hc1,c1,k2,q,bne,Cap.withG,memF_eq H,memF_set H,setM_fun H,setM_self H,slotF,capF,slot_eta,cap_eta,Slot.cl,Cap.cl,sub,put,fillP,EVt])
    all_goals exact hS
  ·simp only [c1,if_false] at hS
   simp (maxSteps:=9999999) only [EV0,zy,zx,zw,zv,zu,zq,zp,zj,zk,leT,zg,rvC,zZ,zY,zX,zW,↓zV,↓zU,reduceCtorEq,zQ,yz,yY,yy,yx,yw,yv,yu,yq,yX,yj,yk,yg,yW,yV,yU,yZ,yQ,xz,df107,T9i,mo9G,movG,movM,guaG,coXe_gV,mo9M,c1,memF_eq H,memF_set H,setM_fun H,setM_self H,slotF,capF,slot_eta,cap_eta,Slot.cl,Cap.cl,sub,put,fillP,EVt]
   exact hS
 ·exact hS.elim
theorem rmu9_snd : Snd Tryz.prog 108 (FSpec.of rmu9G):=snd_run T9i_snd mixed Tryz.func108 dc108 300 fun args h K hc hS => by
 obtain ⟨a,b,m,rest,rfl,H,hS1⟩:=memF_spec hS
 clear hS
 have hS:=hS1
 clear hS1
 unfold mu9M at hS
 split at hS
 ·rename_i f t g b'
  simp only [spec_ok,M.muX,M.muE] at hS
  by_cases c1 : m.moE f t = 0
  ·obtain ⟨c,hc1⟩ : ∃ c,(m.gV f).cap = c:=⟨_,rfl⟩
   simp only [c1,hc1,if_true] at hS
   cases k2 : c.ty == 2
   ·simp only [k2,Bool.false_eq_true,if_false,reduceEq] at hS
    simp (maxSteps:=9999999) only [EV0,zy,zx,zw,zv,zu,zq,zp,zj,zk,leT,zg,rvC,zZ,zY,zX,zW,↓zV,↓zU,reduceCtorEq,zQ,yz,yY,yy,yx,yw,yv,yu,yq,yX,yj,yk,yg,yW,yV,yU,yZ,yQ,xz,df108,T9i,rmo9G,rmovG,rmovM,rguaG,coXr_gV,mo9M,cap9G,cap9M,hc1,c1,k2,bne,memF_eq H,memF_set H,setM_fun H,setM_self H,slotF,capF,slot_eta,cap_eta,Slot.cl,Cap.cl,sub,put,fillP,EVt]
    exact hS
   ·cases q : guardB g b'
    all_goals simp only [k2,q,Bool.false_eq_true,if_true,if_false,reduceEq,Cap.withG] at hS
    all_goals (simp (maxSteps:=9999999) only [EV0,zy,zx,zw,zv,zu,zq,zp,zj,zk,leT,zg,rvC,zZ,zY,zX,zW,↓zV,↓zU,reduceCtorEq,zQ,yz,yY,yy,yx,yw,yv,yu,yq,yX,yj,yk,yg,yW,yV,yU,yZ,yQ,xz,df108,T9i,rmo9G,rmovG,rmovM,rguaG,coXr_gV,mo9M,cap9G,cap9M,setCap9G,setCap9M,hc1,c1,k2,q,bne,Cap.withG,memF_eq H,memF_set H,setM_fun H,setM_self H,slotF,capF,slot_eta,cap_eta,Slot.cl,Cap.cl,sub,put,fillP,EVt])
    all_goals exact hS
  ·simp only [c1,if_false] at hS
   simp (maxSteps:=9999999) only [EV0,zy,zx,zw,zv,zu,zq,zp,zj,zk,leT,zg,rvC,zZ,zY,zX,zW,↓zV,↓zU,reduceCtorEq,zQ,yz,yY,yy,yx,yw,yv,yu,yq,yX,yj,yk,yg,yW,yV,yU,yZ,yQ,xz,df108,T9i,rmo9G,rmovG,rmovM,rguaG,coXr_gV,mo9M,c1,memF_eq H,memF_set H,setM_fun H,setM_self H,slotF,capF,slot_eta,cap_eta,Slot.cl,Cap.cl,sub,put,fillP,EVt]
   exact hS
 ·exact hS.elim

/-! ### Rotate -/
def M.roE (m : M) (t p f : Int) : Int :=
 if p = t ∨ p = f then 1 else if (m.emB p || m.emB f) = true then 121 else if ¬ t = f ∧ m.emB t = false then 120
 else if (fitB (m.gV p).cap t && fitB (m.gV f).cap p) = true then 0 else 122
def M.roA (m : M) (mv sw : M → Int → Int → Int × M) (t p f : Int) : M:=if t = f then (sw m p f).2 else (mv (mv m p t).2 f p).2
def M.roR (m s : M) (t p f : Int) : M :=
 if fitB (m.gV p).cap t = true then (if fitB (m.gV f).cap p = true then ((s.gX p).gX f).roA M.mov M.swp t p f else (s.gX p).gX f) else s.gX p
def M.roX (m : M) (t p f : Int) : M :=
 if p = t ∨ p = f then m else if m.emB p = true then m.gX p else if m.emB f = true then (m.gX p).gX f
 else if t = f then m.roR ((m.gX p).gX f) t p f else if m.emB t = true then m.roR (((m.gX p).gX f).gX t) t p f else ((m.gX p).gX f).gX t
def ro9M (b : Nat) (m : M) (st : M → List Blk) : List V → Res
 | [.s (.i .i64 t), .s (.i .i64 p), .s (.i .i64 f)] => .ok (.s (.i .i64 (m.roE t p f))) [] (st (m.roX t p f))
 | _ => .bad
noncomputable def ro9G:=memF ro9M
def M.rroX (m : M) (t p f : Int) : M :=
 if p = t ∨ p = f then m else if (m.emB p || m.emB f) = true then ((m.gX p).gX f).gX t else if ¬ t = f ∧ m.emB t = false then ((m.gX p).gX f).gX t
 else if (fitB (m.gV p).cap t && fitB (m.gV f).cap p) = true then (((((m.gX p).gX f).gX t).gX p).gX f).roA M.rmov M.rswp t p f else ((((m.gX p).gX f).gX t).gX p).gX f
def rro9M (b : Nat) (m : M) (st : M → List Blk) : List V → Res
 | [.s (.i .i64 t), .s (.i .i64 p), .s (.i .i64 f)] => .ok (.s (.i .i64 (m.roE t p f))) [] (st (m.rroX t p f))
 | _ => .bad
noncomputable def rro9G:=memF rro9M
noncomputable def T9j : Tab:=addT 167 em9G (addT 168 em9G (addT 67 cap9G (addT 66 cap9G (addT 69 fitG (addT 146 fitG (addT 53 movG (addT 54 rmovG (addT 55 swpG (addT 56 rswpG (noT))))))))))
theorem T9j_snd : T9j.Snd Tryz.prog:=addT_snd ok167 em9_snd (addT_snd ok168 rem9_snd (addT_snd ok67 cap9_snd (addT_snd ok66 rcap9_snd (addT_snd ok69 fit_snd (addT_snd ok146 rfit_snd (addT_snd ok53 mov_snd (addT_snd ok54 rmov_snd (addT_snd ok55 swp_snd (addT_snd ok56 rswp_snd ((noT_snd _)))))))))))
theorem ro9_snd : Snd Tryz.prog 109 (FSpec.of ro9G):=snd_run T9j_snd mixed Tryz.func109 dc109 300 fun args h K hc hS => by
 obtain ⟨a,b,m,rest,rfl,H,hS1⟩:=memF_spec hS
 clear hS
 have hS:=hS1
 clear hS1
 unfold ro9M at hS
 split at hS
 ·rename_i t p f
  simp only [spec_ok,M.roE,M.roX,M.roR,M.roA] at hS
  by_cases c0 : p = t
  ·have c0' : (p == t) = true:=by simpa using c0
   simp only [c0,true_or,if_true,setM_self H] at hS
   simp (maxSteps:=9999999) only [EV0,zy,zx,zw,zv,zu,zq,zp,zj,zk,leT,zg,rvC,zZ,zY,zX,zW,↓zV,↓zU,reduceCtorEq,zQ,yz,yY,yy,yx,yw,yv,yu,yq,yX,yj,yk,yg,yW,yV,yU,yZ,yQ,xz,df109,T9j,em9G,em9M,cap9G,cap9M,fitG,gX_emB,gX_gV,movG,movM,swpG,swpM,c0,memF_eq H,memF_set H,setM_fun H,setM_self H,slotF,capF,slot_eta,cap_eta,Slot.cl,Cap.cl,sub,put,fillP,EVt]
   exact hS
  by_cases c1 : p = f
  ·simp only [c0,c1,or_true,if_true,setM_self H] at hS
   have c0 : ¬ f = t:=by rw [← c1]; exact c0
   simp (maxSteps:=9999999) only [EV0,zy,zx,zw,zv,zu,zq,zp,zj,zk,leT,zg,rvC,zZ,zY,zX,zW,↓zV,↓zU,reduceCtorEq,zQ,yz,yY,yy,yx,yw,yv,yu,yq,yX,yj,yk,yg,yW,yV,yU,yZ,yQ,xz,df109,T9j,em9G,em9M,cap9G,cap9M,fitG,gX_emB,gX_gV,movG,movM,swpG,swpM,c0,c1,memF_eq H,memF_set H,setM_fun H,setM_self H,slotF,capF,slot_eta,cap_eta,Slot.cl,Cap.cl,sub,put,fillP,EVt]
   exact hS
  simp only [c0,c1,or_self,if_false] at hS
  by_cases c2 : t = f
  ·rw [c2] at c0 hS ⊢
   obtain ⟨cp,hcp⟩ : ∃ c,(m.gV p).cap = c:=⟨_,rfl⟩
   obtain ⟨cf,hcf⟩ : ∃ c,(m.gV f).cap = c:=⟨_,rfl⟩
   simp only [hcp,hcf] at hS
   cases e1 : m.emB p
   all_goals cases e2 : m.emB f
   all_goals cases f1 : fitB cp f
   all_goals cases f2 : fitB cf p
   all_goals simp only [e1,e2,f1,f2,Bool.or_self,Bool.or_true,Bool.true_or,Bool.or_false,Bool.false_or,Bool.and_self,Bool.and_true,Bool.true_and,Bool.and_false,Bool.false_and,Bool.false_eq_true,Bool.true_eq_false,reduceCtorEq,not_true_eq_false,not_false_eq_true,and_true,true_and,and_false,false_and,and_self,if_true,if_false] at hS
   all_goals (simp (maxSteps:=9999999) only [EV0,zy,zx,zw,zv,zu,zq,zp,zj,zk,leT,zg,rvC,zZ,zY,zX,zW,↓zV,↓zU,reduceCtorEq,zQ,yz,yY,yy,yx,yw,yv,yu,yq,yX,yj,yk,yg,yW,yV,yU,yZ,yQ,xz,df109,T9j,em9G,em9M,cap9G,cap9M,fitG,gX_emB,gX_gV,movG,movM,swpG,swpM,c0,c1,hcp,hcf,e1,e2,f1,f2,memF_eq H,memF_set H,setM_fun H,setM_self H,slotF,capF,slot_eta,cap_eta,Slot.cl,Cap.cl,sub,put,fillP,EVt])
   all_goals exact hS
  ·obtain ⟨cp,hcp⟩ : ∃ c,(m.gV p).cap = c:=⟨_,rfl⟩
   obtain ⟨cf,hcf⟩ : ∃ c,(m.gV f).cap = c:=⟨_,rfl⟩
   simp only [hcp,hcf,c2,if_false,not_false_eq_true,true_and] at hS
   cases e1 : m.emB p
   all_goals cases e2 : m.emB f
   all_goals cases e3 : m.emB t
   all_goals cases f1 : fitB cp t
   all_goals cases f2 : fitB cf p
   all_goals simp only [e1,e2,e3,f1,f2,Bool.or_self,Bool.or_true,Bool.true_or,Bool.or_false,Bool.false_or,Bool.and_self,Bool.and_true,Bool.true_and,Bool.and_false,Bool.false_and,Bool.false_eq_true,Bool.true_eq_false,reduceCtorEq,not_true_eq_false,not_false_eq_true,and_true,true_and,and_false,false_and,and_self,if_true,if_false] at hS
   all_goals (simp (maxSteps:=9999999) only [EV0,zy,zx,zw,zv,zu,zq,zp,zj,zk,leT,zg,rvC,zZ,zY,zX,zW,↓zV,↓zU,reduceCtorEq,zQ,yz,yY,yy,yx,yw,yv,yu,yq,yX,yj,yk,yg,yW,yV,yU,yZ,yQ,xz,df109,T9j,em9G,em9M,cap9G,cap9M,fitG,gX_emB,gX_gV,movG,movM,swpG,swpM,c0,c1,c2,hcp,hcf,e1,e2,e3,f1,f2,memF_eq H,memF_set H,setM_fun H,setM_self H,slotF,capF,slot_eta,cap_eta,Slot.cl,Cap.cl,sub,put,fillP,EVt])
   all_goals exact hS
 ·exact hS.elim
theorem rro9_snd : Snd Tryz.prog 110 (FSpec.of rro9G):=snd_run T9j_snd mixed Tryz.func110 dc110 300 fun args h K hc hS => by
 obtain ⟨a,b,m,rest,rfl,H,hS1⟩:=memF_spec hS
 clear hS
 have hS:=hS1
 clear hS1
 unfold rro9M at hS
 split at hS
 ·rename_i t p f
  simp only [spec_ok,M.roE,M.rroX,M.roR,M.roA] at hS
  by_cases c0 : p = t
  ·have c0' : (p == t) = true:=by simpa using c0
   simp only [c0,true_or,if_true,setM_self H] at hS
   simp (maxSteps:=9999999) only [EV0,zy,zx,zw,zv,zu,zq,zp,zj,zk,leT,zg,rvC,zZ,zY,zX,zW,↓zV,↓zU,reduceCtorEq,zQ,yz,yY,yy,yx,yw,yv,yu,yq,yX,yj,yk,yg,yW,yV,yU,yZ,yQ,xz,df110,T9j,em9G,em9M,cap9G,cap9M,fitG,gX_emB,gX_gV,rmovG,rmovM,rswpG,rswpM,c0,memF_eq H,memF_set H,setM_fun H,setM_self H,slotF,capF,slot_eta,cap_eta,Slot.cl,Cap.cl,sub,put,fillP,EVt]
   exact hS
  by_cases c1 : p = f
  ·simp only [c0,c1,or_true,if_true,setM_self H] at hS
   have c0 : ¬ f = t:=by rw [← c1]; exact c0
   simp (maxSteps:=9999999) only [EV0,zy,zx,zw,zv,zu,zq,zp,zj,zk,leT,zg,rvC,zZ,zY,zX,zW,↓zV,↓zU,reduceCtorEq,zQ,yz,yY,yy,yx,yw,yv,yu,yq,yX,yj,yk,yg,yW,yV,yU,yZ,yQ,xz,df110,T9j,em9G,em9M,cap9G,cap9M,fitG,gX_emB,gX_gV,rmovG,rmovM,rswpG,rswpM,c0,c1,memF_eq H,memF_set H,setM_fun H,setM_self H,slotF,capF,slot_eta,cap_eta,Slot.cl,Cap.cl,sub,put,fillP,EVt]
   exact hS
  simp only [c0,c1,or_self,if_false] at hS
  by_cases c2 : t = f
  ·rw [c2] at c0 hS ⊢
   obtain ⟨cp,hcp⟩ : ∃ c,(m.gV p).cap = c:=⟨_,rfl⟩
   obtain ⟨cf,hcf⟩ : ∃ c,(m.gV f).cap = c:=⟨_,rfl⟩
   simp only [hcp,hcf] at hS
   cases e1 : m.emB p
   all_goals cases e2 : m.emB f
   all_goals cases f1 : fitB cp f
   all_goals cases f2 : fitB cf p
   all_goals simp only [e1,e2,f1,f2,Bool.or_self,Bool.or_true,Bool.true_or,Bool.or_false,Bool.false_or,Bool.and_self,Bool.and_true,Bool.true_and,Bool.and_false,Bool.false_and,Bool.false_eq_true,Bool.true_eq_false,reduceCtorEq,not_true_eq_false,not_false_eq_true,and_true,true_and,and_false,false_and,and_self,if_true,if_false] at hS
   all_goals (simp (maxSteps:=9999999) only [EV0,zy,zx,zw,zv,zu,zq,zp,zj,zk,leT,zg,rvC,zZ,zY,zX,zW,↓zV,↓zU,reduceCtorEq,zQ,yz,yY,yy,yx,yw,yv,yu,yq,yX,yj,yk,yg,yW,yV,yU,yZ,yQ,xz,df110,T9j,em9G,em9M,cap9G,cap9M,fitG,gX_emB,gX_gV,rmovG,rmovM,rswpG,rswpM,c0,c1,hcp,hcf,e1,e2,f1,f2,memF_eq H,memF_set H,setM_fun H,setM_self H,slotF,capF,slot_eta,cap_eta,Slot.cl,Cap.cl,sub,put,fillP,EVt])
   all_goals exact hS
  ·obtain ⟨cp,hcp⟩ : ∃ c,(m.gV p).cap = c:=⟨_,rfl⟩
   obtain ⟨cf,hcf⟩ : ∃ c,(m.gV f).cap = c:=⟨_,rfl⟩
   simp only [hcp,hcf,c2,if_false,not_false_eq_true,true_and] at hS
   cases e1 : m.emB p
   all_goals cases e2 : m.emB f
   all_goals cases e3 : m.emB t
   all_goals cases f1 : fitB cp t
   all_goals cases f2 : fitB cf p
   all_goals simp only [e1,e2,e3,f1,f2,Bool.or_self,Bool.or_true,Bool.true_or,Bool.or_false,Bool.false_or,Bool.and_self,Bool.and_true,Bool.true_and,Bool.and_false,Bool.false_and,Bool.false_eq_true,Bool.true_eq_false,reduceCtorEq,not_true_eq_false,not_false_eq_true,and_true,true_and,and_false,false_and,and_self,if_true,if_false] at hS
   all_goals (simp (maxSteps:=9999999) only [EV0,zy,zx,zw,zv,zu,zq,zp,zj,zk,leT,zg,rvC,zZ,zY,zX,zW,↓zV,↓zU,reduceCtorEq,zQ,yz,yY,yy,yx,yw,yv,yu,yq,yX,yj,yk,yg,yW,yV,yU,yZ,yQ,xz,df110,T9j,em9G,em9M,cap9G,cap9M,fitG,gX_emB,gX_gV,rmovG,rmovM,rswpG,rswpM,c0,c1,c2,hcp,hcf,e1,e2,e3,f1,f2,memF_eq H,memF_set H,setM_fun H,setM_self H,slotF,capF,slot_eta,cap_eta,Slot.cl,Cap.cl,sub,put,fillP,EVt])
   all_goals exact hS
 ·exact hS.elim
end Go.Proofs.YtcdfofeolgbnbaaGreat

