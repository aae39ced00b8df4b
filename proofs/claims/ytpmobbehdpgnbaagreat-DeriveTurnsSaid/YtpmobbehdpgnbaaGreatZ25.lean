/- Package cdt: Swap. -/
import Derived.Test.YtpmobbehdpgnbaaGreatZ13
import Derived.Test.YtpmobbehdpgnbaaGreatZ22
/- Package cdt: Swap. -/
namespace Go.Proofs.YtpmobbehdpgnbaaGreat
open Go.D
open Nat (reduceAdd reducePow reduceMul reduceSub reduceLeDiff reduceLT reduceEqDiff)
open Int (reduceNeg reduceLE reduceEq reduceNe reduceToNat)
open Go.D renaming istep → zy,pickR → zx,bin1R → zw,un1R → zv,eqS → zu,eq1 → zq,cmpS → zp,cmp1 → zj,isNil → zk,shows → zg,result → zZ,q_cond_t → zV,q_cond_f → zU
open List renaming set → zY,replicate → zX
open Option renaming map → zW
open Nat renaming reduceAdd → zQ,reducePow → yz,reduceMul → yy,reduceSub → yx,reduceLeDiff → yw,reduceLT → yv,reduceEqDiff → yu
open Int renaming reduceNeg → yq,reduceLE → yj,reduceEq → yk,reduceNe → yg,reduceToNat → yZ,reducePow → yY,reduceLT → yX,reduceAdd → yW,reduceSub → yV,reduceMul → yU,reduceBEq → yQ,reduceBNe → xz
set_option linter.all false
set_option maxRecDepth 100000
set_option maxHeartbeats 8000000

def oth (a b n : Int) : Int:=if n = a then b else if n = b then a else n
def othG : List V → List Blk → Res
  | [.s (.i .i64 n), .s (.p (.g i) 0), .s (.p (.g j) 0)],h => match cellAt h i,cellAt h j with
    | some a,some b => .ok (.s (.i .i64 (oth a b n))) [] h
    | _,_ => .bad
  | _,_ => .bad
theorem oth_snd : Snd Tryz.prog 99 (FSpec.of othG):=snd_run (noT_snd _) mixed Tryz.func99 dc99 100 fun args h K hc hS => by
  unfold othG at hS
  split at hS
  · split at hS
    · rename_i n i j _ _ a b hi hj
      obtain ⟨_,e1⟩:=cellAt_some hi
      obtain ⟨_,e2⟩:=cellAt_some hj
      simp only [spec_ok,oth] at hS
      by_cases c1 : n = a
      · simp only [c1,if_true] at hS
        simp (maxSteps:=9999999) only [EV0,zy,zx,zw,zv,zu,zq,zp,zj,zk,leT,zg,rvC,zZ,zY,zX,zW,↓zV,↓zU,reduceCtorEq,zQ,yz,yY,yy,yx,yw,yv,yu,yq,yX,yj,yk,yg,yW,yV,yU,yZ,yQ,xz,df99,e1,e2,c1]
        exact hS
      · by_cases c2 : n = b
        · simp only [c1,if_false] at hS
          simp only [c2,if_true] at hS
          have c1' : ¬ b = a:=by rw [← c2]; exact c1
          simp (maxSteps:=9999999) only [EV0,zy,zx,zw,zv,zu,zq,zp,zj,zk,leT,zg,rvC,zZ,zY,zX,zW,↓zV,↓zU,reduceCtorEq,zQ,yz,yY,yy,yx,yw,yv,yu,yq,yX,yj,yk,yg,yW,yV,yU,yZ,yQ,xz,df99,e1,e2,c1',c2]
          exact hS
        · simp only [c1,c2,if_false] at hS
          simp (maxSteps:=9999999) only [EV0,zy,zx,zw,zv,zu,zq,zp,zj,zk,leT,zg,rvC,zZ,zY,zX,zW,↓zV,↓zU,reduceCtorEq,zQ,yz,yY,yy,yx,yw,yv,yu,yq,yX,yj,yk,yg,yW,yV,yU,yZ,yQ,xz,df99,e1,e2,c1,c2]
          exact hS
    · exact hS.elim
  · exact hS.elim

def Slot.oth (a b : Int) (s : Slot) : Slot:=⟨s.cap,_root_.Go.Proofs.YtpmobbehdpgnbaaGreat.oth a b s.prev,_root_.Go.Proofs.YtpmobbehdpgnbaaGreat.oth a b s.next,s.depth⟩
def M.swap2 (m : M) (a b : Int) (s t : Slot) (x y : Bool) : M :=
  let m1:=(m.pX a (t.oth a b)).pX b (s.oth a b)
  let m2:=if x = true then m1.joinX (s.oth a b).prev b (s.oth a b).next else m1
  if y = true then m2.joinX (t.oth a b).prev a (t.oth a b).next else m2
def M.swp (m : M) (a b : Int) : Int × M :=
  if m.fE a = 0 then
    if (m.gX a).fE b = 0 then
      if a = b then (0,(m.gX a).gX b)
      else (0,((((m.gX a).gX b).liX (m.gV a)).liX ((m.gX a).gV b)).swap2 a b (m.gV a) ((m.gX a).gV b) (((m.gX a).gX b).liB a (m.gV a)) ((((m.gX a).gX b).liX (m.gV a)).liB b ((m.gX a).gV b)))
    else ((m.gX a).fE b,(m.gX a).gX b)
  else (m.fE a,m.gX a)
def swpM (b : Nat) (m : M) (st : M → List Blk) : List V → Res
  | [.s (.i .i64 f), .s (.i .i64 t)] => .ok (.s (.i .i64 (m.swp f t).1)) [] (st (m.swp f t).2)
  | _ => .bad
noncomputable def swpG:=memF swpM
noncomputable def TSw : Tab:=addT 71 fullG (addT 82 listedG (addT 80 put2G (addT 84 joinG (addT 99 othG (noT)))))
theorem TSw_snd : TSw.Snd Tryz.prog:=addT_snd ok71 full_snd (addT_snd ok82 listed_snd (addT_snd ok80 put2_snd (addT_snd ok84 join_snd (addT_snd ok99 oth_snd ((noT_snd _))))))
def swT (a : Nat) (x y : Bool) : List V:=setT [(0, .s (.p (.g a) 0)),(4, .s (.p (.l 0) 0)),(5, .s (.p (.l 1) 0)),(7, .s (.p (.l 2) 0)),(9, .s (.p (.l 3) 0)),(10, .s (.b x)),(11, .s (.b y))] (List.replicate 94 (.s .u))
def swL (x y : Int) (s t : Slot) : List Blk:=[⟨.rw,[.i .i64 x],1⟩,⟨.rw,[.i .i64 y],1⟩,⟨.rw,s.cl,14⟩,⟨.rw,t.cl,14⟩]
theorem sw_end {h : List Blk} {a b : Nat} {m : M} {K : V → List Blk → Prop} (H : IsMem h a b m) (hc : clean h.length h = true) (x y : Int) (s t : Slot) (q r : Bool) (hS : K (.s (.i .i64 0)) (setM h a b (m.swap2 x y s t q r))) :
    swp TSw.Γ h.length (finP df44.res K) [.c (DC.after 7 df44.body)] ⟨swT a q r,swL x y s t,h⟩:=by
  have hcm : ∀ m',clean h.length (setM h a b m') = true:=fun m' => setM_clean H hc H.ltb
  have o1 : ∀ X,cellAt (h ++ (⟨.rw,[.i .i64 x],1⟩ :: X)) h.length = some x:=fun X => cellAt_eq (room:=1) (by rw [app_get0]; rfl)
  have o2 : ∀ B X,cellAt (h ++ (B :: ⟨.rw,[.i .i64 y],1⟩ :: X)) (h.length + 1) = some y:=fun B X => cellAt_eq (room:=1) (by rw [app_getn]; rfl)
  have hbn : ∀ a b : Nat,¬ (a + b < a):=fun a b => by omega
  have v1 : IntKind.i64.wrap 1 = 1:=by decide
  have v2 : IntKind.i64.wrap 2 = 2:=by decide
  simp only [swT,swL]
  simp only [DC.after,df44]
  refine run_sound (Tab.ok_Γ _) 200 _ _ _ _ ?_
  simp (maxSteps:=9999999) only [EV0,zy,zx,zw,zv,zu,zq,zp,zj,zk,leT,zg,rvC,zZ,zY,zX,zW,↓zV,↓zU,reduceCtorEq,zQ,yz,yY,yy,yx,yw,yv,yu,yq,yX,yj,yk,yg,yW,yV,yU,yZ,yQ,xz,TSw,Slot.cl,setT,put,fillP,sub,EVt]
  rw [holds_loop]
  refine swp_loop fun X hX => ?_
  refine hX _ ?_
  refine run_sound (Tab.ok_Γ _) 200 _ _ _ _ ?_
  simp (maxSteps:=9999999) only [EV0,zy,zx,zw,zv,zu,zq,zp,zj,zk,leT,zg,rvC,zZ,zY,zX,zW,↓zV,↓zU,reduceCtorEq,zQ,yz,yY,yy,yx,yw,yv,yu,yq,yX,yj,yk,yg,yW,yV,yU,yZ,yQ,xz,TSw,othG,o1,o2,R.lend,R.unlend,S_ren,C.ren,V.ren,Blk.ren,take_app,drop_app,Nat.not_lt_zero,Nat.lt_irrefl,Nat.add_sub_cancel_left,Nat.not_lt,Nat.le_add_right,hc,Slot.cl,put,fillP,sub,EVt,hbn,v1,v2]
  intro _ _
  refine hX _ ?_
  refine run_sound (Tab.ok_Γ _) 200 _ _ _ _ ?_
  simp (maxSteps:=9999999) only [EV0,zy,zx,zw,zv,zu,zq,zp,zj,zk,leT,zg,rvC,zZ,zY,zX,zW,↓zV,↓zU,reduceCtorEq,zQ,yz,yY,yy,yx,yw,yv,yu,yq,yX,yj,yk,yg,yW,yV,yU,yZ,yQ,xz,TSw,othG,o1,o2,R.lend,R.unlend,S_ren,C.ren,V.ren,Blk.ren,take_app,drop_app,Nat.not_lt_zero,Nat.lt_irrefl,Nat.add_sub_cancel_left,Nat.not_lt,Nat.le_add_right,hc,Slot.cl,put,fillP,sub,EVt,hbn,v1,v2]
  intro _ _
  refine hX _ ?_
  cases q <;> cases r <;> simp only [M.swap2,Bool.false_eq_true,if_true,if_false] at hS
  all_goals refine run_sound (Tab.ok_Γ _) 300 _ _ _ _ ?_
  all_goals (simp (maxSteps:=9999999) only [EV0,zy,zx,zw,zv,zu,zq,zp,zj,zk,leT,zg,rvC,zZ,zY,zX,zW,↓zV,↓zU,reduceCtorEq,zQ,yz,yY,yy,yx,yw,yv,yu,yq,yX,yj,yk,yg,yW,yV,yU,yZ,yQ,xz,TSw,othG,o1,o2,R.lend,R.unlend,S_ren,C.ren,V.ren,Blk.ren,take_app,drop_app,Nat.not_lt_zero,Nat.lt_irrefl,Nat.add_sub_cancel_left,Nat.not_lt,Nat.le_add_right,hc,Slot.cl,put,fillP,sub,EVt,hbn,v1,v2,put2G,put2M,joinG,joinM,memF_eq H,memF_set H,setM_fun H,slotF,slot_eta,cap_eta])
  all_goals exact hS
theorem swp_snd : Snd Tryz.prog 44 (FSpec.of swpG):=(fwp_sound (Tab.snd_Γ TSw_snd) mixed Tryz.func44 dc44).weaken fun args h K hc hS => by
  change (swpG args h).spec K at hS
  obtain ⟨a,b,m,rest,rfl,H,hS1⟩:=memF_spec hS
  clear hS
  have hS:=hS1
  clear hS1
  unfold swpM at hS
  split at hS
  · rename_i x y
    simp only [spec_ok] at hS
    by_cases c1 : m.fE x = 0
    · by_cases c2 : (m.gX x).fE y = 0
      · by_cases c3 : x = y
        · subst c3
          simp only [M.swp,c1,c2,if_true] at hS
          refine fwp_run (Tab.ok_Γ _) 400 ?_
          simp (maxSteps:=9999999) only [EV0,zy,zx,zw,zv,zu,zq,zp,zj,zk,leT,zg,rvC,zZ,zY,zX,zW,↓zV,↓zU,reduceCtorEq,zQ,yz,yY,yy,yx,yw,yv,yu,yq,yX,yj,yk,yg,yW,yV,yU,yZ,yQ,xz,df44,TSw,fullG,memF_eq H,memF_set H,setM_fun H,fullM,Slot.cl,c1,c2,put,fillP,sub,EVt]
          exact hS
        · simp only [M.swp,c1,c2,c3,if_true,if_false] at hS
          obtain ⟨s,hs⟩ : ∃ s,m.gV x = s:=⟨_,rfl⟩
          obtain ⟨t,ht⟩ : ∃ t,(m.gX x).gV y = t:=⟨_,rfl⟩
          rw [hs,ht] at hS
          obtain ⟨q,hq⟩ : ∃ q,((m.gX x).gX y).liB x s = q:=⟨_,rfl⟩
          obtain ⟨r,hr⟩ : ∃ r,(((m.gX x).gX y).liX s).liB y t = r:=⟨_,rfl⟩
          rw [hq,hr] at hS
          have key:=sw_end (K:=K) (H.set ((((m.gX x).gX y).liX s).liX t)) (by rw [setM_len]; exact setM_clean H hc H.ltb) x y s t q r (by rw [setM_set H.ne]; exact hS)
          rw [setM_len] at key
          refine fwp_of _ (fun _ _ => finP_fin) (cut_at 7 ?_)
          simp only [df44] at key ⊢
          refine run_sound (Tab.ok_Γ _) 400 _ _ _ _ ?_
          simp (maxSteps:=9999999) only [EV0,zy,zx,zw,zv,zu,zq,zp,zj,zk,leT,zg,rvC,zZ,zY,zX,zW,↓zV,↓zU,reduceCtorEq,zQ,yz,yY,yy,yx,yw,yv,yu,yq,yX,yj,yk,yg,yW,yV,yU,yZ,yQ,xz,TSw,fullG,memF_eq H,memF_set H,setM_fun H,fullM,listedG,listedM,slotF,slot_eta,cap_eta,Slot.cl,c1,c2,c3,hs,ht,hq,hr,put,fillP,sub,EVt]
          repeat' first | intro _ | apply And.intro
          all_goals refine swp_weak (Wk.keep 4 rfl rfl ?_ ?_ ?_) key
          all_goals (simp (maxSteps:=9999999) only [EV0,zy,zx,zw,zv,zu,zq,zp,zj,zk,leT,zg,rvC,zZ,zY,zX,zW,↓zV,↓zU,reduceCtorEq,zQ,yz,yY,yy,yx,yw,yv,yu,yq,yX,yj,yk,yg,yW,yV,yU,yZ,yQ,xz,swT,swL,Slot.cl,List.take_succ_cons,List.take_zero,List.length_cons,List.length_nil,List.all_cons,List.all_nil])
      · simp only [M.swp,c1,c2,if_true,if_false] at hS
        refine fwp_run (Tab.ok_Γ _) 400 ?_
        simp (maxSteps:=9999999) only [EV0,zy,zx,zw,zv,zu,zq,zp,zj,zk,leT,zg,rvC,zZ,zY,zX,zW,↓zV,↓zU,reduceCtorEq,zQ,yz,yY,yy,yx,yw,yv,yu,yq,yX,yj,yk,yg,yW,yV,yU,yZ,yQ,xz,df44,TSw,fullG,memF_eq H,memF_set H,setM_fun H,fullM,Slot.cl,c1,c2,put,fillP,sub,EVt]
        exact hS
    · simp only [M.swp,c1,if_false] at hS
      refine fwp_run (Tab.ok_Γ _) 400 ?_
      simp (maxSteps:=9999999) only [EV0,zy,zx,zw,zv,zu,zq,zp,zj,zk,leT,zg,rvC,zZ,zY,zX,zW,↓zV,↓zU,reduceCtorEq,zQ,yz,yY,yy,yx,yw,yv,yu,yq,yX,yj,yk,yg,yW,yV,yU,yZ,yQ,xz,df44,TSw,fullG,memF_eq H,memF_set H,setM_fun H,fullM,Slot.cl,c1,put,fillP,sub,EVt]
      exact hS
  · exact hS.elim
end Go.Proofs.YtpmobbehdpgnbaaGreat

