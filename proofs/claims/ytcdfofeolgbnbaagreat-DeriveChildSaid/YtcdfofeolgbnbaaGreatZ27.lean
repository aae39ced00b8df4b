/- Package derive,and the document's: lay,empty,ends,copied,moves. -/
import Derived.Test.YtcdfofeolgbnbaaGreatZ13
import Derived.Test.YtcdfofeolgbnbaaGreatZ24
import Derived.Test.YtcdfofeolgbnbaaGreatZ25
import Derived.Test.YtcdfofeolgbnbaaGreatZ23
/- Packages hand and derive,and the document's: slots,caps,what fits,what a copy would be. -/
namespace Go.Proofs.YtcdfofeolgbnbaaGreat
open Go.D
open Nat (reduceAdd reducePow reduceMul reduceSub reduceLeDiff reduceLT reduceEqDiff)
open Int (reduceNeg reduceLE reduceEq reduceNe reduceToNat)
open Go.D renaming istep → zy,pickR → zx,bin1R → zw,un1R → zv,eqS → zu,eq1 → zq,cmpS → zp,cmp1 → zj,isNil → zk,shows → zg,result → zZ,q_cond_t → zV,q_cond_f → zU
open List renaming set → zY,replicate → zX
open Option renaming map → zW
open Nat renaming reduceAdd → zQ,reducePow → yz,reduceMul → yy,reduceSub → yx,reduceLeDiff → yw,reduceLT → yv,reduceEqDiff → yu
open Int renaming reduceNeg → yq,reduceLE → yj,reduceEq → yk,reduceNe → yg,reduceToNat → yZ,reducePow → yY,reduceLT → yX,reduceAdd → yW,reduceSub → yV,reduceMul → yU,reduceBEq → yQ,reduceBNe → xz
set_option linter.all false
set_option maxRecDepth 100000
set_option maxHeartbeats 4000000

/-! ### Mask -/
def Cap.mask (c : Cap) (r : Int) : Cap:=if c.ty = 4 ∨ c.ty = 5 ∨ c.ty = 8 then { c with rights:=Go.bits .and .i64 c.rights r } else c
def cmaskG : List V → List Blk → Res
 | [x, .s (.i .i64 r)],h => capF (fun c => .ok (.agg (c.mask r).cl) [] h) [x]
 | _,_ => .bad
theorem cmask_snd : Snd Tryz.prog 171 (FSpec.of cmaskG):=snd_run (noT_snd _) mixed Tryz.func171 dc171 300 fun args h K hc hS => by
 unfold cmaskG at hS
 split at hS
 ·rename_i x r
  obtain ⟨c,e,hR⟩:=capF_spec hS
  clear hS
  simp only [List.cons.injEq,and_true] at e
  subst e
  simp only [spec_ok,Cap.mask] at hR
  simp only [Cap.cl]
  by_cases h1 : c.ty = 4
  ·have h1' : (c.ty == 4) = true:=by simpa using h1
   rw [if_pos (.inl h1)] at hR
   simp only [Cap.cl] at hR
   simp (maxSteps:=9999999) only [EV0,zy,zx,zw,zv,zu,zq,zp,zj,zk,leT,zg,rvC,zZ,zY,zX,zW,↓zV,↓zU,reduceCtorEq,zQ,yz,yY,yy,yx,yw,yv,yu,yq,yX,yj,yk,yg,yW,yV,yU,yZ,yQ,xz,df171,h1',sub,put,fillP,EVt]
   exact hR
  have h1' : (c.ty == 4) = false:=by simpa using h1
  by_cases h2 : c.ty = 5
  ·have h2' : (c.ty == 5) = true:=by simpa using h2
   rw [if_pos (.inr (.inl h2))] at hR
   simp only [Cap.cl] at hR
   simp (maxSteps:=9999999) only [EV0,zy,zx,zw,zv,zu,zq,zp,zj,zk,leT,zg,rvC,zZ,zY,zX,zW,↓zV,↓zU,reduceCtorEq,zQ,yz,yY,yy,yx,yw,yv,yu,yq,yX,yj,yk,yg,yW,yV,yU,yZ,yQ,xz,df171,h1',h2',sub,put,fillP,EVt]
   exact hR
  have h2' : (c.ty == 5) = false:=by simpa using h2
  by_cases h3 : c.ty = 8
  ·have h3' : (c.ty == 8) = true:=by simpa using h3
   rw [if_pos (.inr (.inr h3))] at hR
   simp only [Cap.cl] at hR
   simp (maxSteps:=9999999) only [EV0,zy,zx,zw,zv,zu,zq,zp,zj,zk,leT,zg,rvC,zZ,zY,zX,zW,↓zV,↓zU,reduceCtorEq,zQ,yz,yY,yy,yx,yw,yv,yu,yq,yX,yj,yk,yg,yW,yV,yU,yZ,yQ,xz,df171,h1',h2',h3',sub,put,fillP,EVt]
   exact hR
  have h3' : (c.ty == 8) = false:=by simpa using h3
  rw [if_neg (by omega)] at hR
  simp only [Cap.cl] at hR
  simp (maxSteps:=9999999) only [EV0,zy,zx,zw,zv,zu,zq,zp,zj,zk,leT,zg,rvC,zZ,zY,zX,zW,↓zV,↓zU,reduceCtorEq,zQ,yz,yY,yy,yx,yw,yv,yu,yq,yX,yj,yk,yg,yW,yV,yU,yZ,yQ,xz,df171,h1',h2',h3',sub,put,fillP,EVt]
  exact hR
 ·exact hS.elim
theorem rcmask_snd : Snd Tryz.prog 43 (FSpec.of cmaskG):=snd_run (noT_snd _) mixed Tryz.func43 dc43 300 fun args h K hc hS => by
 unfold cmaskG at hS
 split at hS
 ·rename_i x r
  obtain ⟨c,e,hR⟩:=capF_spec hS
  clear hS
  simp only [List.cons.injEq,and_true] at e
  subst e
  simp only [spec_ok,Cap.mask] at hR
  simp only [Cap.cl]
  by_cases h1 : c.ty = 4
  ·have h1' : (c.ty == 4) = true:=by simpa using h1
   rw [if_pos (.inl h1)] at hR
   simp only [Cap.cl] at hR
   simp (maxSteps:=9999999) only [EV0,zy,zx,zw,zv,zu,zq,zp,zj,zk,leT,zg,rvC,zZ,zY,zX,zW,↓zV,↓zU,reduceCtorEq,zQ,yz,yY,yy,yx,yw,yv,yu,yq,yX,yj,yk,yg,yW,yV,yU,yZ,yQ,xz,df43,h1',sub,put,fillP,EVt]
   exact hR
  have h1' : (c.ty == 4) = false:=by simpa using h1
  by_cases h2 : c.ty = 5
  ·have h2' : (c.ty == 5) = true:=by simpa using h2
   rw [if_pos (.inr (.inl h2))] at hR
   simp only [Cap.cl] at hR
   simp (maxSteps:=9999999) only [EV0,zy,zx,zw,zv,zu,zq,zp,zj,zk,leT,zg,rvC,zZ,zY,zX,zW,↓zV,↓zU,reduceCtorEq,zQ,yz,yY,yy,yx,yw,yv,yu,yq,yX,yj,yk,yg,yW,yV,yU,yZ,yQ,xz,df43,h1',h2',sub,put,fillP,EVt]
   exact hR
  have h2' : (c.ty == 5) = false:=by simpa using h2
  by_cases h3 : c.ty = 8
  ·have h3' : (c.ty == 8) = true:=by simpa using h3
   rw [if_pos (.inr (.inr h3))] at hR
   simp only [Cap.cl] at hR
   simp (maxSteps:=9999999) only [EV0,zy,zx,zw,zv,zu,zq,zp,zj,zk,leT,zg,rvC,zZ,zY,zX,zW,↓zV,↓zU,reduceCtorEq,zQ,yz,yY,yy,yx,yw,yv,yu,yq,yX,yj,yk,yg,yW,yV,yU,yZ,yQ,xz,df43,h1',h2',h3',sub,put,fillP,EVt]
   exact hR
  have h3' : (c.ty == 8) = false:=by simpa using h3
  rw [if_neg (by omega)] at hR
  simp only [Cap.cl] at hR
  simp (maxSteps:=9999999) only [EV0,zy,zx,zw,zv,zu,zq,zp,zj,zk,leT,zg,rvC,zZ,zY,zX,zW,↓zV,↓zU,reduceCtorEq,zQ,yz,yY,yy,yx,yw,yv,yu,yq,yX,yj,yk,yg,yW,yV,yU,yZ,yQ,xz,df43,h1',h2',h3',sub,put,fillP,EVt]
  exact hR
 ·exact hS.elim

/-! ### slots,caps -/
def slot9M (b : Nat) (m : M) (st : M → List Blk) : List V → Res
 | [.s (.i .i64 a)] => .ok (.agg (m.gV a).cl) [] (st (m.gX a))
 | _ => .bad
noncomputable def slot9G:=memF slot9M
def cap9M (b : Nat) (m : M) (st : M → List Blk) : List V → Res
 | [.s (.i .i64 a)] => .ok (.agg (m.gV a).cap.cl) [] (st (m.gX a))
 | _ => .bad
noncomputable def cap9G:=memF cap9M
def M.scX (m : M) (a : Int) (c : Cap) : M:=(m.gX a).pX a ⟨c,(m.gV a).prev,(m.gV a).next,(m.gV a).depth⟩
def setCap9M (b : Nat) (m : M) (st : M → List Blk) : List V → Res
 | [.s (.i .i64 a),x] => capF (fun c => .ok (.tup []) [] (st (m.scX a c))) [x]
 | _ => .bad
noncomputable def setCap9G:=memF setCap9M
noncomputable def T9a : Tab:=addT 26 get2G (addT 126 get2G (addT 79 put2G (addT 118 put2G (noT))))
theorem T9a_snd : T9a.Snd Tryz.prog:=addT_snd ok26 get2_snd (addT_snd ok126 rget2_snd (addT_snd ok79 put2_snd (addT_snd ok118 rput2_snd ((noT_snd _)))))
theorem slot9_snd : Snd Tryz.prog 136 (FSpec.of slot9G):=snd_run T9a_snd mixed Tryz.func136 dc136 200 fun args h K hc hS => by
 obtain ⟨a,b,m,rest,rfl,H,hS1⟩:=memF_spec hS
 clear hS
 have hS:=hS1
 clear hS1
 unfold slot9M at hS
 split at hS
 ·rename_i x
  simp only [spec_ok,Slot.cl] at hS
  simp (maxSteps:=9999999) only [EV0,zy,zx,zw,zv,zu,zq,zp,zj,zk,leT,zg,rvC,zZ,zY,zX,zW,↓zV,↓zU,reduceCtorEq,zQ,yz,yY,yy,yx,yw,yv,yu,yq,yX,yj,yk,yg,yW,yV,yU,yZ,yQ,xz,df136,T9a,get2G,memF_eq H,get2M,Slot.cl,sub,put,fillP,EVt]
  exact hS
 ·exact hS.elim
noncomputable def T9b : Tab:=addT 136 slot9G (T9a)
theorem T9b_snd : T9b.Snd Tryz.prog:=addT_snd ok136 slot9_snd (T9a_snd)
theorem cap9_snd : Snd Tryz.prog 67 (FSpec.of cap9G):=snd_run T9b_snd mixed Tryz.func67 dc67 200 fun args h K hc hS => by
 obtain ⟨a,b,m,rest,rfl,H,hS1⟩:=memF_spec hS
 clear hS
 have hS:=hS1
 clear hS1
 unfold cap9M at hS
 split at hS
 ·rename_i x
  simp only [spec_ok,Cap.cl] at hS
  simp (maxSteps:=9999999) only [EV0,zy,zx,zw,zv,zu,zq,zp,zj,zk,leT,zg,rvC,zZ,zY,zX,zW,↓zV,↓zU,reduceCtorEq,zQ,yz,yY,yy,yx,yw,yv,yu,yq,yX,yj,yk,yg,yW,yV,yU,yZ,yQ,xz,df67,T9b,T9a,get2G,slot9G,memF_eq H,get2M,slot9M,Slot.cl,sub,put,fillP,EVt]
  exact hS
 ·exact hS.elim
theorem rcap9_snd : Snd Tryz.prog 66 (FSpec.of cap9G):=snd_run T9b_snd mixed Tryz.func66 dc66 200 fun args h K hc hS => by
 obtain ⟨a,b,m,rest,rfl,H,hS1⟩:=memF_spec hS
 clear hS
 have hS:=hS1
 clear hS1
 unfold cap9M at hS
 split at hS
 ·rename_i x
  simp only [spec_ok,Cap.cl] at hS
  simp (maxSteps:=9999999) only [EV0,zy,zx,zw,zv,zu,zq,zp,zj,zk,leT,zg,rvC,zZ,zY,zX,zW,↓zV,↓zU,reduceCtorEq,zQ,yz,yY,yy,yx,yw,yv,yu,yq,yX,yj,yk,yg,yW,yV,yU,yZ,yQ,xz,df66,T9b,T9a,get2G,slot9G,memF_eq H,get2M,slot9M,Slot.cl,sub,put,fillP,EVt]
  exact hS
 ·exact hS.elim
theorem setCap9_snd : Snd Tryz.prog 71 (FSpec.of setCap9G):=snd_run T9b_snd mixed Tryz.func71 dc71 200 fun args h K hc hS => by
 obtain ⟨a,b,m,rest,rfl,H,hS1⟩:=memF_spec hS
 clear hS
 have hS:=hS1
 clear hS1
 unfold setCap9M at hS
 split at hS
 ·rename_i x y
  obtain ⟨c,e,hS2⟩:=capF_spec hS
  simp only [List.cons.injEq,and_true] at e
  subst e
  clear hS
  simp only [spec_ok,M.scX] at hS2
  simp (maxSteps:=9999999) only [EV0,zy,zx,zw,zv,zu,zq,zp,zj,zk,leT,zg,rvC,zZ,zY,zX,zW,↓zV,↓zU,reduceCtorEq,zQ,yz,yY,yy,yx,yw,yv,yu,yq,yX,yj,yk,yg,yW,yV,yU,yZ,yQ,xz,df71,T9b,T9a,get2G,slot9G,put2G,put2M,slotF,slot_eta,cap_eta,memF_eq H,memF_set H,setM_fun H,get2M,slot9M,Slot.cl,Cap.cl,sub,put,fillP,EVt]
  exact hS2
 ·exact hS.elim
theorem rsetCap9_snd : Snd Tryz.prog 147 (FSpec.of setCap9G):=snd_run T9b_snd mixed Tryz.func147 dc147 200 fun args h K hc hS => by
 obtain ⟨a,b,m,rest,rfl,H,hS1⟩:=memF_spec hS
 clear hS
 have hS:=hS1
 clear hS1
 unfold setCap9M at hS
 split at hS
 ·rename_i x y
  obtain ⟨c,e,hS2⟩:=capF_spec hS
  simp only [List.cons.injEq,and_true] at e
  subst e
  clear hS
  simp only [spec_ok,M.scX] at hS2
  simp (maxSteps:=9999999) only [EV0,zy,zx,zw,zv,zu,zq,zp,zj,zk,leT,zg,rvC,zZ,zY,zX,zW,↓zV,↓zU,reduceCtorEq,zQ,yz,yY,yy,yx,yw,yv,yu,yq,yX,yj,yk,yg,yW,yV,yU,yZ,yQ,xz,df147,T9b,T9a,get2G,slot9G,put2G,put2M,slotF,slot_eta,cap_eta,memF_eq H,memF_set H,setM_fun H,get2M,slot9M,Slot.cl,Cap.cl,sub,put,fillP,EVt]
  exact hS2
 ·exact hS.elim

/-! ### what fits -/
def fitB (c : Cap) (a : Int) : Bool:=if (c.ty == 2) = true then decide (a < c.obj) else if (c.ty == 3) = true then decide (a < c.obj) else if (c.ty == 10) = true then decide (a < c.obj) else true
def fitG : List V → List Blk → Res
 | [x, .s (.i .i64 a)],h => capF (fun c => .ok (.s (.b (fitB c a))) [] h) [x]
 | _,_ => .bad
theorem fit_snd : Snd Tryz.prog 69 (FSpec.of fitG):=snd_run (noT_snd _) mixed Tryz.func69 dc69 200 fun args h K hc hS => by
 unfold fitG at hS
 split at hS
 ·rename_i x a
  obtain ⟨c,e,hS2⟩:=capF_spec hS
  simp only [List.cons.injEq,and_true] at e
  subst e
  clear hS
  simp only [spec_ok,fitB] at hS2
  cases h1 : c.ty == 2
  all_goals cases h2 : c.ty == 3
  all_goals cases h3 : c.ty == 10
  all_goals simp only [h1,h2,h3,Bool.false_eq_true,if_true,if_false] at hS2
  all_goals (simp (maxSteps:=9999999) only [EV0,zy,zx,zw,zv,zu,zq,zp,zj,zk,leT,zg,rvC,zZ,zY,zX,zW,↓zV,↓zU,reduceCtorEq,zQ,yz,yY,yy,yx,yw,yv,yu,yq,yX,yj,yk,yg,yW,yV,yU,yZ,yQ,xz,df69,Cap.cl,h1,h2,h3,sub,put,fillP,EVt])
  all_goals exact hS2
 ·exact hS.elim
theorem rfit_snd : Snd Tryz.prog 146 (FSpec.of fitG):=snd_run (noT_snd _) mixed Tryz.func146 dc146 200 fun args h K hc hS => by
 unfold fitG at hS
 split at hS
 ·rename_i x a
  obtain ⟨c,e,hS2⟩:=capF_spec hS
  simp only [List.cons.injEq,and_true] at e
  subst e
  clear hS
  simp only [spec_ok,fitB] at hS2
  cases h1 : c.ty == 2
  all_goals cases h2 : c.ty == 3
  all_goals cases h3 : c.ty == 10
  all_goals simp only [h1,h2,h3,Bool.false_eq_true,if_true,if_false] at hS2
  all_goals (simp (maxSteps:=9999999) only [EV0,zy,zx,zw,zv,zu,zq,zp,zj,zk,leT,zg,rvC,zZ,zY,zX,zW,↓zV,↓zU,reduceCtorEq,zQ,yz,yY,yy,yx,yw,yv,yu,yq,yX,yj,yk,yg,yW,yV,yU,yZ,yQ,xz,df146,Cap.cl,h1,h2,h3,sub,put,fillP,EVt])
  all_goals exact hS2
 ·exact hS.elim

/-! ### a cap as a copy would have it -/
def derE (c : Cap) : Int:=if (c.ty == 0) = true then 121 else if (c.ty == 1 || (c.ty == 6 || (c.ty == 7 || (c.ty == 9 || (c.ty == 10 || (c.ty == 11 || c.ty == 13)))))) = true then 122 else 0
def derC (c : Cap) : Cap:=if derE c = 0 then (if (c.ty == 8) = true then ⟨c.ty,c.obj,c.bits,c.mark,c.guard,c.gbits,c.badge,c.rights,0,0,c.line⟩ else c) else capZ
def derG : List V → List Blk → Res
 | [x],h => capF (fun c => .ok (.tup [.agg (derC c).cl, .s (.i .i64 (derE c))]) [] h) [x]
 | _,_ => .bad
theorem der_snd : Snd Tryz.prog 170 (FSpec.of derG):=snd_run (noT_snd _) mixed Tryz.func170 dc170 300 fun args h K hc hS => by
 unfold derG at hS
 split at hS
 ·rename_i x
  obtain ⟨c,e,hS2⟩:=capF_spec hS
  simp only [List.cons.injEq,and_true] at e
  subst e
  clear hS
  simp only [spec_ok,derC,derE] at hS2
  cases h0 : c.ty == 0
  all_goals cases h1 : c.ty == 1
  all_goals cases h6 : c.ty == 6
  all_goals cases h7 : c.ty == 7
  all_goals cases h9 : c.ty == 9
  all_goals cases h10 : c.ty == 10
  all_goals cases h11 : c.ty == 11
  all_goals cases h13 : c.ty == 13
  all_goals cases h8 : c.ty == 8
  all_goals try (exfalso; simp only [beq_iff_eq] at *; omega)
  all_goals simp only [h0,h1,h6,h7,h8,h9,h10,h11,h13,Bool.or_self,Bool.or_true,Bool.true_or,Bool.or_false,Bool.false_or,Bool.false_eq_true,if_true,if_false,reduceEq,capZ,Cap.cl] at hS2
  all_goals (simp (maxSteps:=9999999) only [EV0,zy,zx,zw,zv,zu,zq,zp,zj,zk,leT,zg,rvC,zZ,zY,zX,zW,↓zV,↓zU,reduceCtorEq,zQ,yz,yY,yy,yx,yw,yv,yu,yq,yX,yj,yk,yg,yW,yV,yU,yZ,yQ,xz,df170,Cap.cl,h0,h1,h6,h7,h8,h9,h10,h11,h13,sub,put,fillP,EVt])
  all_goals exact hS2
 ·exact hS.elim

theorem rder_snd : Snd Tryz.prog 193 (FSpec.of derG):=snd_run (noT_snd _) mixed Tryz.func193 dc193 300 fun args h K hc hS => by
 unfold derG at hS
 split at hS
 ·rename_i x
  obtain ⟨c,e,hS2⟩:=capF_spec hS
  simp only [List.cons.injEq,and_true] at e
  subst e
  clear hS
  simp only [spec_ok,derC,derE] at hS2
  have v1 : IntKind.i64.wrap 1 = 1:=by decide
  have v2 : IntKind.i64.wrap 2 = 2:=by decide
  have v3 : IntKind.i64.wrap 3 = 3:=by decide
  have v4 : IntKind.i64.wrap 4 = 4:=by decide
  have v5 : IntKind.i64.wrap 5 = 5:=by decide
  have v6 : IntKind.i64.wrap 6 = 6:=by decide
  have v7 : IntKind.i64.wrap 7 = 7:=by decide
  cases h0 : c.ty == 0
  all_goals cases h1 : c.ty == 1
  all_goals cases h6 : c.ty == 6
  all_goals cases h7 : c.ty == 7
  all_goals cases h9 : c.ty == 9
  all_goals cases h10 : c.ty == 10
  all_goals cases h11 : c.ty == 11
  all_goals cases h13 : c.ty == 13
  all_goals cases h8 : c.ty == 8
  all_goals try (exfalso; simp only [beq_iff_eq] at *; omega)
  all_goals simp only [h0,h1,h6,h7,h8,h9,h10,h11,h13,Bool.or_self,Bool.or_true,Bool.true_or,Bool.or_false,Bool.false_or,Bool.false_eq_true,if_true,if_false,reduceEq,capZ,Cap.cl] at hS2
  all_goals (simp (maxSteps:=9999999) only [EV0,zy,zx,zw,zv,zu,zq,zp,zj,zk,leT,zg,rvC,zZ,zY,zX,zW,↓zV,↓zU,reduceCtorEq,zQ,yz,yY,yy,yx,yw,yv,yu,yq,yX,yj,yk,yg,yW,yV,yU,yZ,yQ,xz,df193,Cap.cl,h0,h1,h6,h7,h8,h9,h10,h11,h13,sub,put,fillP,EVt])
  all_goals try exact hS2
  all_goals rw [holds_loop]
  all_goals refine swp_loop fun X hX => ?_
  all_goals refine hX _ ?_
  all_goals refine run_sound (Tab.ok_Γ _) 200 _ _ _ _ ?_
  all_goals (simp (maxSteps:=9999999) only [EV0,zy,zx,zw,zv,zu,zq,zp,zj,zk,leT,zg,rvC,zZ,zY,zX,zW,↓zV,↓zU,reduceCtorEq,zQ,yz,yY,yy,yx,yw,yv,yu,yq,yX,yj,yk,yg,yW,yV,yU,yZ,yQ,xz,h0,h1,h6,h7,h8,h9,h10,h11,h13,v1,v2,v3,v4,v5,v6,v7,sub,put,fillP,EVt])
  all_goals try exact hS2
  all_goals refine hX _ ?_
  all_goals refine run_sound (Tab.ok_Γ _) 200 _ _ _ _ ?_
  all_goals (simp (maxSteps:=9999999) only [EV0,zy,zx,zw,zv,zu,zq,zp,zj,zk,leT,zg,rvC,zZ,zY,zX,zW,↓zV,↓zU,reduceCtorEq,zQ,yz,yY,yy,yx,yw,yv,yu,yq,yX,yj,yk,yg,yW,yV,yU,yZ,yQ,xz,h0,h1,h6,h7,h8,h9,h10,h11,h13,v1,v2,v3,v4,v5,v6,v7,sub,put,fillP,EVt])
  all_goals try exact hS2
  all_goals refine hX _ ?_
  all_goals refine run_sound (Tab.ok_Γ _) 200 _ _ _ _ ?_
  all_goals (simp (maxSteps:=9999999) only [EV0,zy,zx,zw,zv,zu,zq,zp,zj,zk,leT,zg,rvC,zZ,zY,zX,zW,↓zV,↓zU,reduceCtorEq,zQ,yz,yY,yy,yx,yw,yv,yu,yq,yX,yj,yk,yg,yW,yV,yU,yZ,yQ,xz,h0,h1,h6,h7,h8,h9,h10,h11,h13,v1,v2,v3,v4,v5,v6,v7,sub,put,fillP,EVt])
  all_goals try exact hS2
  all_goals refine hX _ ?_
  all_goals refine run_sound (Tab.ok_Γ _) 200 _ _ _ _ ?_
  all_goals (simp (maxSteps:=9999999) only [EV0,zy,zx,zw,zv,zu,zq,zp,zj,zk,leT,zg,rvC,zZ,zY,zX,zW,↓zV,↓zU,reduceCtorEq,zQ,yz,yY,yy,yx,yw,yv,yu,yq,yX,yj,yk,yg,yW,yV,yU,yZ,yQ,xz,h0,h1,h6,h7,h8,h9,h10,h11,h13,v1,v2,v3,v4,v5,v6,v7,sub,put,fillP,EVt])
  all_goals try exact hS2
  all_goals refine hX _ ?_
  all_goals refine run_sound (Tab.ok_Γ _) 200 _ _ _ _ ?_
  all_goals (simp (maxSteps:=9999999) only [EV0,zy,zx,zw,zv,zu,zq,zp,zj,zk,leT,zg,rvC,zZ,zY,zX,zW,↓zV,↓zU,reduceCtorEq,zQ,yz,yY,yy,yx,yw,yv,yu,yq,yX,yj,yk,yg,yW,yV,yU,yZ,yQ,xz,h0,h1,h6,h7,h8,h9,h10,h11,h13,v1,v2,v3,v4,v5,v6,v7,sub,put,fillP,EVt])
  all_goals try exact hS2
  all_goals refine hX _ ?_
  all_goals refine run_sound (Tab.ok_Γ _) 200 _ _ _ _ ?_
  all_goals (simp (maxSteps:=9999999) only [EV0,zy,zx,zw,zv,zu,zq,zp,zj,zk,leT,zg,rvC,zZ,zY,zX,zW,↓zV,↓zU,reduceCtorEq,zQ,yz,yY,yy,yx,yw,yv,yu,yq,yX,yj,yk,yg,yW,yV,yU,yZ,yQ,xz,h0,h1,h6,h7,h8,h9,h10,h11,h13,v1,v2,v3,v4,v5,v6,v7,sub,put,fillP,EVt])
  all_goals try exact hS2
  all_goals refine hX _ ?_
  all_goals refine run_sound (Tab.ok_Γ _) 200 _ _ _ _ ?_
  all_goals (simp (maxSteps:=9999999) only [EV0,zy,zx,zw,zv,zu,zq,zp,zj,zk,leT,zg,rvC,zZ,zY,zX,zW,↓zV,↓zU,reduceCtorEq,zQ,yz,yY,yy,yx,yw,yv,yu,yq,yX,yj,yk,yg,yW,yV,yU,yZ,yQ,xz,h0,h1,h6,h7,h8,h9,h10,h11,h13,v1,v2,v3,v4,v5,v6,v7,sub,put,fillP,EVt])
  all_goals try exact hS2
  all_goals refine hX _ ?_
  all_goals refine run_sound (Tab.ok_Γ _) 200 _ _ _ _ ?_
  all_goals (simp (maxSteps:=9999999) only [EV0,zy,zx,zw,zv,zu,zq,zp,zj,zk,leT,zg,rvC,zZ,zY,zX,zW,↓zV,↓zU,reduceCtorEq,zQ,yz,yY,yy,yx,yw,yv,yu,yq,yX,yj,yk,yg,yW,yV,yU,yZ,yQ,xz,h0,h1,h6,h7,h8,h9,h10,h11,h13,v1,v2,v3,v4,v5,v6,v7,sub,put,fillP,EVt])
  all_goals try exact hS2
 ·exact hS.elim

/-! ### a guard -/
def pw (b : Int) : Int:=IntKind.i64.wrap (1 * 2 ^ min b.toNat IntKind.i64.bits)
def guardB (g b : Int) : Bool:=decide (0 ≤ b) && (decide (b ≤ 24) && (decide (0 ≤ g) && decide (g < pw b)))
def Cap.withG (c : Cap) (g b : Int) : Cap:=⟨c.ty,c.obj,c.bits,c.mark,g,b,c.badge,c.rights,c.asid,c.vaddr,c.line⟩
def guaG : List V → List Blk → Res
 | [x, .s (.i .i64 g), .s (.i .i64 b)],h => capF (fun c => .ok (.tup [.agg (if guardB g b = true then c.withG g b else c).cl, .s (.b (guardB g b))]) [] h) [x]
 | _,_ => .bad
theorem gua_snd : Snd Tryz.prog 162 (FSpec.of guaG):=snd_run (noT_snd _) mixed Tryz.func162 dc162 200 fun args h K hc hS => by
 unfold guaG at hS
 split at hS
 ·rename_i x g b
  obtain ⟨c,e,hS2⟩:=capF_spec hS
  simp only [List.cons.injEq,and_true] at e
  subst e
  clear hS
  simp only [spec_ok,guardB,pw] at hS2
  by_cases c1 : b < 0
  ·have d1 : ¬ 0 ≤ b:=by omega
   simp only [d1,decide_false,Bool.false_and,Bool.false_eq_true,if_false,Cap.cl] at hS2
   simp (maxSteps:=9999999) only [EV0,zy,zx,zw,zv,zu,zq,zp,zj,zk,leT,zg,rvC,zZ,zY,zX,zW,↓zV,↓zU,reduceCtorEq,zQ,yz,yY,yy,yx,yw,yv,yu,yq,yX,yj,yk,yg,yW,yV,yU,yZ,yQ,xz,df162,Cap.cl,c1,sub,put,fillP,EVt]
   exact hS2
  have d1 : 0 ≤ b:=by omega
  by_cases c2 : 24 < b
  ·have d2 : ¬ b ≤ 24:=by omega
   simp only [d1,d2,decide_true,decide_false,Bool.true_and,Bool.false_and,Bool.false_eq_true,if_false,Cap.cl] at hS2
   simp (maxSteps:=9999999) only [EV0,zy,zx,zw,zv,zu,zq,zp,zj,zk,leT,zg,rvC,zZ,zY,zX,zW,↓zV,↓zU,reduceCtorEq,zQ,yz,yY,yy,yx,yw,yv,yu,yq,yX,yj,yk,yg,yW,yV,yU,yZ,yQ,xz,df162,Cap.cl,c1,c2,sub,put,fillP,EVt]
   exact hS2
  have d2 : b ≤ 24:=by omega
  by_cases c3 : g < 0
  ·have d3 : ¬ 0 ≤ g:=by omega
   simp only [d1,d2,d3,decide_true,decide_false,Bool.true_and,Bool.false_and,Bool.false_eq_true,if_false,Cap.cl] at hS2
   simp (maxSteps:=9999999) only [EV0,zy,zx,zw,zv,zu,zq,zp,zj,zk,leT,zg,rvC,zZ,zY,zX,zW,↓zV,↓zU,reduceCtorEq,zQ,yz,yY,yy,yx,yw,yv,yu,yq,yX,yj,yk,yg,yW,yV,yU,yZ,yQ,xz,df162,Cap.cl,c1,c2,c3,sub,put,fillP,EVt]
   exact hS2
  have d3 : 0 ≤ g:=by omega
  by_cases c4 : IntKind.i64.wrap (1 * 2 ^ min b.toNat IntKind.i64.bits) ≤ g
  ·have d4 : ¬ g < IntKind.i64.wrap (1 * 2 ^ min b.toNat IntKind.i64.bits):=by omega
   simp only [d1,d2,d3,d4,decide_true,decide_false,Bool.true_and,Bool.false_eq_true,if_false,Cap.cl] at hS2
   simp only [Int.one_mul] at c4
   simp (maxSteps:=9999999) only [EV0,zy,zx,zw,zv,zu,zq,zp,zj,zk,leT,zg,rvC,zZ,zY,zX,zW,↓zV,↓zU,reduceCtorEq,zQ,yz,yY,yy,yx,yw,yv,yu,yq,yX,yj,yk,yg,yW,yV,yU,yZ,yQ,xz,df162,Cap.cl,c1,c2,c3,c4,d1,Int.one_mul,sub,put,fillP,EVt]
   exact hS2
  ·have d4 : g < IntKind.i64.wrap (1 * 2 ^ min b.toNat IntKind.i64.bits):=by omega
   simp only [d1,d2,d3,d4,decide_true,Bool.true_and,if_true,Cap.withG,Cap.cl] at hS2
   simp only [Int.one_mul] at c4
   simp (maxSteps:=9999999) only [EV0,zy,zx,zw,zv,zu,zq,zp,zj,zk,leT,zg,rvC,zZ,zY,zX,zW,↓zV,↓zU,reduceCtorEq,zQ,yz,yY,yy,yx,yw,yv,yu,yq,yX,yj,yk,yg,yW,yV,yU,yZ,yQ,xz,df162,Cap.cl,c1,c2,c3,c4,d1,Int.one_mul,sub,put,fillP,EVt]
   exact hS2
 ·exact hS.elim
def rguaG : List V → List Blk → Res
 | [.s (.i .i64 g), .s (.i .i64 b)],h => .ok (.s (.b (guardB g b))) [] h
 | _,_ => .bad
theorem rgua_snd : Snd Tryz.prog 165 (FSpec.of rguaG):=snd_run (noT_snd _) mixed Tryz.func165 dc165 200 fun args h K hc hS => by
 unfold rguaG at hS
 split at hS
 ·rename_i g b
  simp only [spec_ok,guardB,pw] at hS
  by_cases d1 : 0 ≤ b
  ·by_cases d2 : b ≤ 24
   ·by_cases d3 : 0 ≤ g
    ·simp only [d1,d2,d3,decide_true,Bool.true_and,Int.one_mul] at hS
     simp (maxSteps:=9999999) only [EV0,zy,zx,zw,zv,zu,zq,zp,zj,zk,leT,zg,rvC,zZ,zY,zX,zW,↓zV,↓zU,reduceCtorEq,zQ,yz,yY,yy,yx,yw,yv,yu,yq,yX,yj,yk,yg,yW,yV,yU,yZ,yQ,xz,df165,d1,d2,d3,Int.one_mul]
     exact hS
    ·simp only [d1,d2,d3,decide_true,decide_false,Bool.true_and,Bool.false_and] at hS
     simp (maxSteps:=9999999) only [EV0,zy,zx,zw,zv,zu,zq,zp,zj,zk,leT,zg,rvC,zZ,zY,zX,zW,↓zV,↓zU,reduceCtorEq,zQ,yz,yY,yy,yx,yw,yv,yu,yq,yX,yj,yk,yg,yW,yV,yU,yZ,yQ,xz,df165,d1,d2,d3]
     exact hS
   ·simp only [d1,d2,decide_true,decide_false,Bool.true_and,Bool.false_and] at hS
    simp (maxSteps:=9999999) only [EV0,zy,zx,zw,zv,zu,zq,zp,zj,zk,leT,zg,rvC,zZ,zY,zX,zW,↓zV,↓zU,reduceCtorEq,zQ,yz,yY,yy,yx,yw,yv,yu,yq,yX,yj,yk,yg,yW,yV,yU,yZ,yQ,xz,df165,d1,d2]
    exact hS
  ·simp only [d1,decide_false,Bool.false_and] at hS
   simp (maxSteps:=9999999) only [EV0,zy,zx,zw,zv,zu,zq,zp,zj,zk,leT,zg,rvC,zZ,zY,zX,zW,↓zV,↓zU,reduceCtorEq,zQ,yz,yY,yy,yx,yw,yv,yu,yq,yX,yj,yk,yg,yW,yV,yU,yZ,yQ,xz,df165,d1]
   exact hS
 ·exact hS.elim

/-! ### laid as a child; empty -/
def M.layX (m : M) (p a : Int) (c : Cap) : M:=((m.pX a ⟨c,0,0,0⟩).ins p a).2
def M.rlayX (m : M) (p a : Int) (c : Cap) : M:=((m.pX a ⟨c,0,0,0⟩).rins p a).2
def lay9M (f : M → Int → Int → Cap → M) (b : Nat) (m : M) (st : M → List Blk) : List V → Res
 | [.s (.i .i64 p), .s (.i .i64 a),x] => capF (fun c => .ok (.tup []) [] (st (f m p a c))) [x]
 | _ => .bad
noncomputable def lay9G:=memF (lay9M M.layX)
noncomputable def rlay9G:=memF (lay9M M.rlayX)
noncomputable def T9c : Tab:=addT 79 put2G (addT 118 put2G (addT 45 insG (addT 52 rinsG (noT))))
theorem T9c_snd : T9c.Snd Tryz.prog:=addT_snd ok79 put2_snd (addT_snd ok118 rput2_snd (addT_snd ok45 ins_snd (addT_snd ok52 rins_snd ((noT_snd _)))))
theorem lay9_snd : Snd Tryz.prog 73 (FSpec.of lay9G):=snd_run T9c_snd mixed Tryz.func73 dc73 200 fun args h K hc hS => by
 obtain ⟨a,b,m,rest,rfl,H,hS1⟩:=memF_spec hS
 clear hS
 have hS:=hS1
 clear hS1
 unfold lay9M at hS
 split at hS
 ·rename_i p a' x
  obtain ⟨c,e,hS2⟩:=capF_spec hS
  simp only [List.cons.injEq,and_true] at e
  subst e
  clear hS
  simp only [spec_ok,M.layX] at hS2
  simp (maxSteps:=9999999) only [EV0,zy,zx,zw,zv,zu,zq,zp,zj,zk,leT,zg,rvC,zZ,zY,zX,zW,↓zV,↓zU,reduceCtorEq,zQ,yz,yY,yy,yx,yw,yv,yu,yq,yX,yj,yk,yg,yW,yV,yU,yZ,yQ,xz,df73,T9c,put2G,put2M,insG,insM,memF_eq H,memF_set H,setM_fun H,setM_self H,slotF,capF,slot_eta,cap_eta,Slot.cl,Cap.cl,sub,put,fillP,EVt]
  exact hS2
 ·exact hS.elim
theorem rlay9_snd : Snd Tryz.prog 133 (FSpec.of rlay9G):=snd_run T9c_snd mixed Tryz.func133 dc133 200 fun args h K hc hS => by
 obtain ⟨a,b,m,rest,rfl,H,hS1⟩:=memF_spec hS
 clear hS
 have hS:=hS1
 clear hS1
 unfold lay9M at hS
 split at hS
 ·rename_i p a' x
  obtain ⟨c,e,hS2⟩:=capF_spec hS
  simp only [List.cons.injEq,and_true] at e
  subst e
  clear hS
  simp only [spec_ok,M.rlayX] at hS2
  simp (maxSteps:=9999999) only [EV0,zy,zx,zw,zv,zu,zq,zp,zj,zk,leT,zg,rvC,zZ,zY,zX,zW,↓zV,↓zU,reduceCtorEq,zQ,yz,yY,yy,yx,yw,yv,yu,yq,yX,yj,yk,yg,yW,yV,yU,yZ,yQ,xz,df133,T9c,put2G,put2M,rinsG,rinsM,memF_eq H,memF_set H,setM_fun H,setM_self H,slotF,capF,slot_eta,cap_eta,Slot.cl,Cap.cl,sub,put,fillP,EVt]
  exact hS2
 ·exact hS.elim
def M.emB (m : M) (a : Int) : Bool:=(m.gV a).cap.ty == 0
def em9M (b : Nat) (m : M) (st : M → List Blk) : List V → Res
 | [.s (.i .i64 a)] => .ok (.s (.b (m.emB a))) [] (st (m.gX a))
 | _ => .bad
noncomputable def em9G:=memF em9M
noncomputable def T9d : Tab:=addT 67 cap9G (addT 66 cap9G (noT))
theorem T9d_snd : T9d.Snd Tryz.prog:=addT_snd ok67 cap9_snd (addT_snd ok66 rcap9_snd ((noT_snd _)))
theorem em9_snd : Snd Tryz.prog 167 (FSpec.of em9G):=snd_run T9d_snd mixed Tryz.func167 dc167 200 fun args h K hc hS => by
 obtain ⟨a,b,m,rest,rfl,H,hS1⟩:=memF_spec hS
 clear hS
 have hS:=hS1
 clear hS1
 unfold em9M at hS
 split at hS
 ·rename_i x
  simp only [spec_ok,M.emB] at hS
  by_cases c1 : (m.gV x).cap.ty = 0
  ·have e:=M.gV_null c1
   simp only [e,slotZ,capZ,beq_self_eq_true] at hS
   simp (maxSteps:=9999999) only [EV0,zy,zx,zw,zv,zu,zq,zp,zj,zk,leT,zg,rvC,zZ,zY,zX,zW,↓zV,↓zU,reduceCtorEq,zQ,yz,yY,yy,yx,yw,yv,yu,yq,yX,yj,yk,yg,yW,yV,yU,yZ,yQ,xz,df167,T9d,cap9G,cap9M,e,slotZ,capZ,memF_eq H,memF_set H,setM_fun H,setM_self H,slotF,capF,slot_eta,cap_eta,Slot.cl,Cap.cl,sub,put,fillP,EVt]
   exact hS
  ·have c2 : ((m.gV x).cap.ty == 0) = false:=by simpa using c1
   simp only [c2] at hS
   simp (maxSteps:=9999999) only [EV0,zy,zx,zw,zv,zu,zq,zp,zj,zk,leT,zg,rvC,zZ,zY,zX,zW,↓zV,↓zU,reduceCtorEq,zQ,yz,yY,yy,yx,yw,yv,yu,yq,yX,yj,yk,yg,yW,yV,yU,yZ,yQ,xz,df167,T9d,cap9G,cap9M,c2,memF_eq H,memF_set H,setM_fun H,setM_self H,slotF,capF,slot_eta,cap_eta,Slot.cl,Cap.cl,sub,put,fillP,EVt]
   exact hS
 ·exact hS.elim
theorem rem9_snd : Snd Tryz.prog 168 (FSpec.of em9G):=snd_run T9d_snd mixed Tryz.func168 dc168 200 fun args h K hc hS => by
 obtain ⟨a,b,m,rest,rfl,H,hS1⟩:=memF_spec hS
 clear hS
 have hS:=hS1
 clear hS1
 unfold em9M at hS
 split at hS
 ·rename_i x
  simp only [spec_ok,M.emB] at hS
  by_cases c1 : (m.gV x).cap.ty = 0
  ·have e:=M.gV_null c1
   simp only [e,slotZ,capZ,beq_self_eq_true] at hS
   simp (maxSteps:=9999999) only [EV0,zy,zx,zw,zv,zu,zq,zp,zj,zk,leT,zg,rvC,zZ,zY,zX,zW,↓zV,↓zU,reduceCtorEq,zQ,yz,yY,yy,yx,yw,yv,yu,yq,yX,yj,yk,yg,yW,yV,yU,yZ,yQ,xz,df168,T9d,cap9G,cap9M,e,slotZ,capZ,memF_eq H,memF_set H,setM_fun H,setM_self H,slotF,capF,slot_eta,cap_eta,Slot.cl,Cap.cl,sub,put,fillP,EVt]
   exact hS
  ·have c2 : ((m.gV x).cap.ty == 0) = false:=by simpa using c1
   simp only [c2] at hS
   simp (maxSteps:=9999999) only [EV0,zy,zx,zw,zv,zu,zq,zp,zj,zk,leT,zg,rvC,zZ,zY,zX,zW,↓zV,↓zU,reduceCtorEq,zQ,yz,yY,yy,yx,yw,yv,yu,yq,yX,yj,yk,yg,yW,yV,yU,yZ,yQ,xz,df168,T9d,cap9G,cap9M,c2,memF_eq H,memF_set H,setM_fun H,setM_self H,slotF,capF,slot_eta,cap_eta,Slot.cl,Cap.cl,sub,put,fillP,EVt]
   exact hS
 ·exact hS.elim
theorem gX_emB (m : M) (a x : Int) : (m.gX a).emB x = m.emB x:=by simp only [M.emB,gX_gV]

/-! ### two slots -/
def M.enE (m : M) (f t : Int) : Int:=if m.emB f = true then 121 else if m.emB t = true then 0 else 120
def M.enX (m : M) (f t : Int) : M:=if m.emB f = true then m.gX f else (m.gX f).gX t
def M.renX (m : M) (f t : Int) : M:=(m.gX f).gX t
def en9M (x : M → Int → Int → M) (b : Nat) (m : M) (st : M → List Blk) : List V → Res
 | [.s (.i .i64 f), .s (.i .i64 t)] => .ok (.s (.i .i64 (m.enE f t))) [] (st (x m f t))
 | _ => .bad
noncomputable def en9G:=memF (en9M M.enX)
noncomputable def ren9G:=memF (en9M M.renX)
noncomputable def T9e : Tab:=addT 167 em9G (addT 168 em9G (noT))
theorem T9e_snd : T9e.Snd Tryz.prog:=addT_snd ok167 em9_snd (addT_snd ok168 rem9_snd ((noT_snd _)))
theorem en9_snd : Snd Tryz.prog 169 (FSpec.of en9G):=snd_run T9e_snd mixed Tryz.func169 dc169 200 fun args h K hc hS => by
 obtain ⟨a,b,m,rest,rfl,H,hS1⟩:=memF_spec hS
 clear hS
 have hS:=hS1
 clear hS1
 unfold en9M at hS
 split at hS
 ·rename_i f t
  simp only [spec_ok,M.enE,M.enX,M.renX] at hS
  cases c1 : m.emB f
  ·cases c2 : m.emB t
   all_goals simp only [c1,c2,Bool.false_eq_true,if_true,if_false] at hS
   all_goals (simp (maxSteps:=9999999) only [EV0,zy,zx,zw,zv,zu,zq,zp,zj,zk,leT,zg,rvC,zZ,zY,zX,zW,↓zV,↓zU,reduceCtorEq,zQ,yz,yY,yy,yx,yw,yv,yu,yq,yX,yj,yk,yg,yW,yV,yU,yZ,yQ,xz,df169,T9e,em9G,em9M,c1,c2,gX_emB,memF_eq H,memF_set H,setM_fun H,setM_self H,slotF,capF,slot_eta,cap_eta,Slot.cl,Cap.cl,sub,put,fillP,EVt])
   all_goals exact hS
  ·simp only [c1,if_true] at hS
   cases c2 : m.emB t
   all_goals (simp (maxSteps:=9999999) only [EV0,zy,zx,zw,zv,zu,zq,zp,zj,zk,leT,zg,rvC,zZ,zY,zX,zW,↓zV,↓zU,reduceCtorEq,zQ,yz,yY,yy,yx,yw,yv,yu,yq,yX,yj,yk,yg,yW,yV,yU,yZ,yQ,xz,df169,T9e,em9G,em9M,c1,c2,gX_emB,memF_eq H,memF_set H,setM_fun H,setM_self H,slotF,capF,slot_eta,cap_eta,Slot.cl,Cap.cl,sub,put,fillP,EVt])
   all_goals exact hS
 ·exact hS.elim
theorem ren9_snd : Snd Tryz.prog 192 (FSpec.of ren9G):=snd_run T9e_snd mixed Tryz.func192 dc192 200 fun args h K hc hS => by
 obtain ⟨a,b,m,rest,rfl,H,hS1⟩:=memF_spec hS
 clear hS
 have hS:=hS1
 clear hS1
 unfold en9M at hS
 split at hS
 ·rename_i f t
  simp only [spec_ok,M.enE,M.enX,M.renX] at hS
  cases c1 : m.emB f
  ·cases c2 : m.emB t
   all_goals simp only [c1,c2,Bool.false_eq_true,if_true,if_false] at hS
   all_goals (simp (maxSteps:=9999999) only [EV0,zy,zx,zw,zv,zu,zq,zp,zj,zk,leT,zg,rvC,zZ,zY,zX,zW,↓zV,↓zU,reduceCtorEq,zQ,yz,yY,yy,yx,yw,yv,yu,yq,yX,yj,yk,yg,yW,yV,yU,yZ,yQ,xz,df192,T9e,em9G,em9M,c1,c2,gX_emB,memF_eq H,memF_set H,setM_fun H,setM_self H,slotF,capF,slot_eta,cap_eta,Slot.cl,Cap.cl,sub,put,fillP,EVt])
   all_goals exact hS
  ·simp only [c1,if_true] at hS
   cases c2 : m.emB t
   all_goals (simp (maxSteps:=9999999) only [EV0,zy,zx,zw,zv,zu,zq,zp,zj,zk,leT,zg,rvC,zZ,zY,zX,zW,↓zV,↓zU,reduceCtorEq,zQ,yz,yY,yy,yx,yw,yv,yu,yq,yX,yj,yk,yg,yW,yV,yU,yZ,yQ,xz,df192,T9e,em9G,em9M,c1,c2,gX_emB,memF_eq H,memF_set H,setM_fun H,setM_self H,slotF,capF,slot_eta,cap_eta,Slot.cl,Cap.cl,sub,put,fillP,EVt])
   all_goals exact hS
 ·exact hS.elim
theorem enX_w (m : M) (f t : Int) : (m.enX f t).w = m.w:=by
 unfold M.enX; split
 ·exact gX_w _ _
 ·exact (gX_w _ _).trans (gX_w _ _)
theorem renX_w (m : M) (f t : Int) : (m.renX f t).w = m.w:=(gX_w _ _).trans (gX_w _ _)
theorem enX_gV (m : M) (f t x : Int) : (m.enX f t).gV x = m.gV x:=gV_w (enX_w m f t) x
theorem renX_gV (m : M) (f t x : Int) : (m.renX f t).gV x = m.gV x:=gV_w (renX_w m f t) x

/-! ### what a copy lays down -/
def M.coE (m : M) (f t : Int) : Int:=if m.enE f t = 0 then (if derE (m.gV f).cap = 0 then (if fitB (derC (m.gV f).cap) t = true then 0 else 122) else derE (m.gV f).cap) else m.enE f t
def M.coC (m : M) (f t r : Int) : Cap:=if m.coE f t = 0 then (derC (m.gV f).cap).mask r else capZ
def M.coX (m : M) (x : M → Int → Int → M) (f t : Int) : M:=if m.enE f t = 0 then (x m f t).gX f else x m f t
def co9M (x : M → Int → Int → M) (b : Nat) (m : M) (st : M → List Blk) : List V → Res
 | [.s (.i .i64 f), .s (.i .i64 t), .s (.i .i64 r)] => .ok (.tup [.agg (m.coC f t r).cl, .s (.i .i64 (m.coE f t))]) [] (st (m.coX x f t))
 | _ => .bad
noncomputable def co9G:=memF (co9M M.enX)
noncomputable def rco9G:=memF (co9M M.renX)
noncomputable def T9f : Tab:=addT 169 en9G (addT 192 ren9G (addT 67 cap9G (addT 66 cap9G (addT 170 derG (addT 193 derG (addT 69 fitG (addT 146 fitG (addT 171 cmaskG (addT 43 cmaskG (noT))))))))))
theorem T9f_snd : T9f.Snd Tryz.prog:=addT_snd ok169 en9_snd (addT_snd ok192 ren9_snd (addT_snd ok67 cap9_snd (addT_snd ok66 rcap9_snd (addT_snd ok170 der_snd (addT_snd ok193 rder_snd (addT_snd ok69 fit_snd (addT_snd ok146 rfit_snd (addT_snd ok171 cmask_snd (addT_snd ok43 rcmask_snd ((noT_snd _)))))))))))
theorem co9_snd : Snd Tryz.prog 111 (FSpec.of co9G):=snd_run T9f_snd mixed Tryz.func111 dc111 200 fun args h K hc hS => by
 obtain ⟨a,b,m,rest,rfl,H,hS1⟩:=memF_spec hS
 clear hS
 have hS:=hS1
 clear hS1
 unfold co9M at hS
 split at hS
 ·rename_i f t r
  simp only [spec_ok,M.coC,M.coE,M.coX] at hS
  obtain ⟨c,hc1⟩ : ∃ c,(m.gV f).cap = c:=⟨_,rfl⟩
  by_cases c1 : m.enE f t = 0
  ·by_cases c2 : derE c = 0
   ·obtain ⟨d,hd⟩ : ∃ d,derC c = d:=⟨_,rfl⟩
    cases c3 : fitB d t
    ·simp only [hc1,hd,c1,c2,c3,Bool.false_eq_true,if_true,if_false,reduceEq,capZ,Cap.cl] at hS
     simp (maxSteps:=9999999) only [EV0,zy,zx,zw,zv,zu,zq,zp,zj,zk,leT,zg,rvC,zZ,zY,zX,zW,↓zV,↓zU,reduceCtorEq,zQ,yz,yY,yy,yx,yw,yv,yu,yq,yX,yj,yk,yg,yW,yV,yU,yZ,yQ,xz,df111,T9f,en9G,enX_gV,en9M,cap9G,cap9M,derG,fitG,cmaskG,hc1,hd,c1,c2,c3,capZ,memF_eq H,memF_set H,setM_fun H,setM_self H,slotF,capF,slot_eta,cap_eta,Slot.cl,Cap.cl,sub,put,fillP,EVt]
     exact hS
    ·simp only [hc1,hd,c1,c2,c3,if_true,if_false,capZ,Cap.cl] at hS
     simp (maxSteps:=9999999) only [EV0,zy,zx,zw,zv,zu,zq,zp,zj,zk,leT,zg,rvC,zZ,zY,zX,zW,↓zV,↓zU,reduceCtorEq,zQ,yz,yY,yy,yx,yw,yv,yu,yq,yX,yj,yk,yg,yW,yV,yU,yZ,yQ,xz,df111,T9f,en9G,enX_gV,en9M,cap9G,cap9M,derG,fitG,cmaskG,hc1,hd,c1,c2,c3,capZ,memF_eq H,memF_set H,setM_fun H,setM_self H,slotF,capF,slot_eta,cap_eta,Slot.cl,Cap.cl,sub,put,fillP,EVt]
     exact hS
   ·have hz : derC c = capZ:=by unfold derC; rw [if_neg c2]
    simp only [hc1,c1,c2,if_true,if_false,capZ,Cap.cl] at hS
    simp (maxSteps:=9999999) only [EV0,zy,zx,zw,zv,zu,zq,zp,zj,zk,leT,zg,rvC,zZ,zY,zX,zW,↓zV,↓zU,reduceCtorEq,zQ,yz,yY,yy,yx,yw,yv,yu,yq,yX,yj,yk,yg,yW,yV,yU,yZ,yQ,xz,df111,T9f,en9G,enX_gV,en9M,cap9G,cap9M,derG,fitG,cmaskG,hc1,hz,c1,c2,capZ,memF_eq H,memF_set H,setM_fun H,setM_self H,slotF,capF,slot_eta,cap_eta,Slot.cl,Cap.cl,sub,put,fillP,EVt]
    exact hS
  ·simp only [c1,if_false,capZ,Cap.cl] at hS
   simp (maxSteps:=9999999) only [EV0,zy,zx,zw,zv,zu,zq,zp,zj,zk,leT,zg,rvC,zZ,zY,zX,zW,↓zV,↓zU,reduceCtorEq,zQ,yz,yY,yy,yx,yw,yv,yu,yq,yX,yj,yk,yg,yW,yV,yU,yZ,yQ,xz,df111,T9f,en9G,enX_gV,en9M,cap9G,cap9M,derG,fitG,cmaskG,c1,capZ,memF_eq H,memF_set H,setM_fun H,setM_self H,slotF,capF,slot_eta,cap_eta,Slot.cl,Cap.cl,sub,put,fillP,EVt]
   exact hS
 ·exact hS.elim
theorem rco9_snd : Snd Tryz.prog 164 (FSpec.of rco9G):=snd_run T9f_snd mixed Tryz.func164 dc164 200 fun args h K hc hS => by
 obtain ⟨a,b,m,rest,rfl,H,hS1⟩:=memF_spec hS
 clear hS
 have hS:=hS1
 clear hS1
 unfold co9M at hS
 split at hS
 ·rename_i f t r
  simp only [spec_ok,M.coC,M.coE,M.coX] at hS
  obtain ⟨c,hc1⟩ : ∃ c,(m.gV f).cap = c:=⟨_,rfl⟩
  by_cases c1 : m.enE f t = 0
  ·by_cases c2 : derE c = 0
   ·obtain ⟨d,hd⟩ : ∃ d,derC c = d:=⟨_,rfl⟩
    cases c3 : fitB d t
    ·simp only [hc1,hd,c1,c2,c3,Bool.false_eq_true,if_true,if_false,reduceEq,capZ,Cap.cl] at hS
     simp (maxSteps:=9999999) only [EV0,zy,zx,zw,zv,zu,zq,zp,zj,zk,leT,zg,rvC,zZ,zY,zX,zW,↓zV,↓zU,reduceCtorEq,zQ,yz,yY,yy,yx,yw,yv,yu,yq,yX,yj,yk,yg,yW,yV,yU,yZ,yQ,xz,df164,T9f,ren9G,renX_gV,en9M,cap9G,cap9M,derG,fitG,cmaskG,hc1,hd,c1,c2,c3,capZ,memF_eq H,memF_set H,setM_fun H,setM_self H,slotF,capF,slot_eta,cap_eta,Slot.cl,Cap.cl,sub,put,fillP,EVt]
     exact hS
    ·simp only [hc1,hd,c1,c2,c3,if_true,if_false,capZ,Cap.cl] at hS
     simp (maxSteps:=9999999) only [EV0,zy,zx,zw,zv,zu,zq,zp,zj,zk,leT,zg,rvC,zZ,zY,zX,zW,↓zV,↓zU,reduceCtorEq,zQ,yz,yY,yy,yx,yw,yv,yu,yq,yX,yj,yk,yg,yW,yV,yU,yZ,yQ,xz,df164,T9f,ren9G,renX_gV,en9M,cap9G,cap9M,derG,fitG,cmaskG,hc1,hd,c1,c2,c3,capZ,memF_eq H,memF_set H,setM_fun H,setM_self H,slotF,capF,slot_eta,cap_eta,Slot.cl,Cap.cl,sub,put,fillP,EVt]
     exact hS
   ·have hz : derC c = capZ:=by unfold derC; rw [if_neg c2]
    simp only [hc1,c1,c2,if_true,if_false,capZ,Cap.cl] at hS
    simp (maxSteps:=9999999) only [EV0,zy,zx,zw,zv,zu,zq,zp,zj,zk,leT,zg,rvC,zZ,zY,zX,zW,↓zV,↓zU,reduceCtorEq,zQ,yz,yY,yy,yx,yw,yv,yu,yq,yX,yj,yk,yg,yW,yV,yU,yZ,yQ,xz,df164,T9f,ren9G,renX_gV,en9M,cap9G,cap9M,derG,fitG,cmaskG,hc1,hz,c1,c2,capZ,memF_eq H,memF_set H,setM_fun H,setM_self H,slotF,capF,slot_eta,cap_eta,Slot.cl,Cap.cl,sub,put,fillP,EVt]
    exact hS
  ·simp only [c1,if_false,capZ,Cap.cl] at hS
   simp (maxSteps:=9999999) only [EV0,zy,zx,zw,zv,zu,zq,zp,zj,zk,leT,zg,rvC,zZ,zY,zX,zW,↓zV,↓zU,reduceCtorEq,zQ,yz,yY,yy,yx,yw,yv,yu,yq,yX,yj,yk,yg,yW,yV,yU,yZ,yQ,xz,df164,T9f,ren9G,renX_gV,en9M,cap9G,cap9M,derG,fitG,cmaskG,c1,capZ,memF_eq H,memF_set H,setM_fun H,setM_self H,slotF,capF,slot_eta,cap_eta,Slot.cl,Cap.cl,sub,put,fillP,EVt]
   exact hS
 ·exact hS.elim
end Go.Proofs.YtcdfofeolgbnbaaGreat

