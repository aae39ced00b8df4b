/- Package cdt: Descendants,the walk. -/
import Derived.Test.YtcdfofeolgbnbaaZ8
import Derived.Test.YtcdfofeolgbnbaaZ13
/- Package cdt: turn,join. -/
namespace Go.Proofs.Ytcdfofeolgbnbaa
open Go.D
open Nat (reduceAdd reducePow reduceMul reduceSub reduceLeDiff reduceLT reduceEqDiff)
open Int (reduceNeg reduceLE reduceEq reduceNe reduceToNat)
open Go.D renaming istep → zx,pickR → zw,bin1R → zv,un1R → zu,eqS → zq,eq1 → zp,cmpS → zj,cmp1 → zk,isNil → zg,shows → zZ,result → zY,q_cond_t → zU,q_cond_f → zQ
open List renaming set → zX,replicate → zW
open Option renaming map → zV
open Nat renaming reduceAdd → yz,reducePow → yy,reduceMul → yx,reduceSub → yw,reduceLeDiff → yv,reduceLT → yu,reduceEqDiff → yq
open Int renaming reduceNeg → yp,reduceLE → yj,reduceEq → yk,reduceNe → yg,reduceToNat → yZ,reducePow → yY,reduceLT → yX,reduceAdd → yW,reduceSub → yV,reduceMul → yU,reduceBEq → yQ,reduceBNe → xz
set_option linter.all false
set_option maxRecDepth 100000
set_option maxHeartbeats 4000000

def M.turnX (m : M) (a : Int) (g : Slot → Slot) : M:=if a = 0 then m else if m.fE a = 0 then (m.gX a).pX a (g (m.gV a)) else m.gX a
def turnM (b : Nat) (m : M) (st : M → List Blk) : List V → Res
 | [.s (.i .i64 a), .s (.fn f cs)] => match chg (st m) f cs with
  | some g => .ok (.tup []) [] (st (m.turnX a g))
  | none => .bad
 | _ => .bad
noncomputable def turnG:=memF turnM
noncomputable def TTn : Tab:=addT 35 fullG (addT 38 put2G (addT 70 jn1G (addT 71 jn2G (addT 43 depG (addT 44 depG (addT 46 rm3G (addT 47 rm4G (noT))))))))
theorem TTn_snd : TTn.Snd Try.prog:=addT_snd ok35 full_snd (addT_snd ok38 put2_snd (addT_snd ok70 jn1_snd (addT_snd ok71 jn2_snd (addT_snd ok43 dep1_snd (addT_snd ok44 dep2_snd (addT_snd ok46 rm3_snd (addT_snd ok47 rm4_snd ((noT_snd _)))))))))
theorem turn_snd : Snd Try.prog 42 (FSpec.of turnG):=snd_run TTn_snd mixed Try.func42 dc42 200 fun args h K hc hS => by
 obtain ⟨a,b,m,rest,rfl,H,hS1⟩:=memF_spec hS
 clear hS
 have hS:=hS1
 clear hS1
 unfold turnM at hS
 split at hS
 ·rename_i x f cs
  simp only [setM_self H] at hS
  split at hS
  ·rename_i g hg
   simp only [spec_ok] at hS
   have hcm : ∀ m',clean (setM h a b m').length (setM h a b m') = true:=fun m' => by rw [setM_len]; exact setM_clean H hc H.ltb
   have hcm' : ∀ m',clean h.length (setM h a b m') = true:=fun m' => setM_clean H hc H.ltb
   by_cases c0 : x = 0
   ·simp only [M.turnX,c0,if_true,setM_self H] at hS
    simp (maxSteps:=9999999) only [EV0,zx,zw,zv,zu,zq,zp,zj,zk,zg,leT,zZ,rvC,zY,zX,zW,zV,↓zU,↓zQ,reduceCtorEq,yz,yy,yY,yx,yw,yv,yu,yq,yp,yX,yj,yk,yg,yW,yV,yU,yZ,yQ,xz,df42,c0]
    exact hS
   by_cases c1 : m.fE x = 0
   ·simp only [M.turnX,c0,c1,if_false,if_true] at hS
    obtain ⟨s,hs⟩ : ∃ s,m.gV x = s:=⟨_,rfl⟩
    rw [hs] at hS
    have hs1 : ∀ m',slotAt (setM h a b m' ++ [⟨.rw,s.cl,14⟩]) h.length = some s:=fun m' => slotAt_eq (by rw [List.getElem?_append_right (by rw [setM_len]; omega),setM_len,Nat.sub_self]; rfl)
    have hst : ∀ m' B B',(setM h a b m' ++ [B]).set h.length B' = setM h a b m' ++ [B']:=fun m' B B' => by rw [List.set_append_right _ _ (by rw [setM_len]; omega),setM_len,Nat.sub_self]; rfl
    simp only [Slot.cl] at hs1
    unfold chg at hg
    split at hg
    ·split at hg
     ·rename_i hf
      cases hg
      rcases hf with rfl | rfl
      all_goals (simp (maxSteps:=9999999) only [EV0,zx,zw,zv,zu,zq,zp,zj,zk,zg,leT,zZ,rvC,zY,zX,zW,zV,↓zU,↓zQ,reduceCtorEq,yz,yy,yY,yx,yw,yv,yu,yq,yp,yX,yj,yk,yg,yW,yV,yU,yZ,yQ,xz,df42,TTn,fullG,memF_eq H,memF_set H,setM_fun H,fullM,put2G,put2M,slotF,slot_eta,cap_eta,Slot.cl,c0,c1,hs,depG,hs1,hst,R.lend,R.unlend,S_ren,C.ren,V.ren,Blk.ren,take_app,drop_app,Nat.not_lt_zero,Nat.lt_irrefl,Nat.add_sub_cancel_left,Nat.not_lt,Nat.le_add_right,setM_len,hcm,hcm',put,fillP,sub,EVt])
      all_goals exact hS
     ·cases hg
    ·rename_i k
     have hlt : ∀ {B : Blk},h[k]? = some B → k < h.length:=fun e => (List.getElem?_eq_some_iff.1 e).1
     split at hg
     ·rename_i hf
      subst hf
      split at hg
      ·rename_i v hv
       cases hg
       obtain ⟨room,e2⟩:=cellAt_some hv
       have hv1 : ∀ m' B,cellAt (setM h a b m' ++ [B]) k = some v:=fun m' B => cellAt_eq (by rw [List.getElem?_append_left (by rw [setM_len]; exact hlt e2)]; exact cell_setM H e2 m')
       simp (maxSteps:=9999999) only [EV0,zx,zw,zv,zu,zq,zp,zj,zk,zg,leT,zZ,rvC,zY,zX,zW,zV,↓zU,↓zQ,reduceCtorEq,yz,yy,yY,yx,yw,yv,yu,yq,yp,yX,yj,yk,yg,yW,yV,yU,yZ,yQ,xz,df42,TTn,fullG,memF_eq H,memF_set H,setM_fun H,fullM,put2G,put2M,slotF,slot_eta,cap_eta,Slot.cl,c0,c1,hs,jn1G,hs1,hst,hv1,R.lend,R.unlend,S_ren,C.ren,V.ren,Blk.ren,take_app,drop_app,Nat.not_lt_zero,Nat.lt_irrefl,Nat.add_sub_cancel_left,Nat.not_lt,Nat.le_add_right,setM_len,hcm,hcm',put,fillP,sub,EVt]
       exact hS
      ·cases hg
     split at hg
     ·rename_i hf
      subst hf
      split at hg
      ·rename_i v hv
       cases hg
       obtain ⟨room,e2⟩:=cellAt_some hv
       have hv1 : ∀ m' B,cellAt (setM h a b m' ++ [B]) k = some v:=fun m' B => cellAt_eq (by rw [List.getElem?_append_left (by rw [setM_len]; exact hlt e2)]; exact cell_setM H e2 m')
       simp (maxSteps:=9999999) only [EV0,zx,zw,zv,zu,zq,zp,zj,zk,zg,leT,zZ,rvC,zY,zX,zW,zV,↓zU,↓zQ,reduceCtorEq,yz,yy,yY,yx,yw,yv,yu,yq,yp,yX,yj,yk,yg,yW,yV,yU,yZ,yQ,xz,df42,TTn,fullG,memF_eq H,memF_set H,setM_fun H,fullM,put2G,put2M,slotF,slot_eta,cap_eta,Slot.cl,c0,c1,hs,jn2G,hs1,hst,hv1,R.lend,R.unlend,S_ren,C.ren,V.ren,Blk.ren,take_app,drop_app,Nat.not_lt_zero,Nat.lt_irrefl,Nat.add_sub_cancel_left,Nat.not_lt,Nat.le_add_right,setM_len,hcm,hcm',put,fillP,sub,EVt]
       exact hS
      ·cases hg
     split at hg
     ·rename_i hf
      subst hf
      split at hg
      ·rename_i v hv
       cases hg
       have e2:=slotAt_some hv
       have hv1 : ∀ m' B,slotAt (setM h a b m' ++ [B]) k = some v:=fun m' B => slotAt_eq (by rw [List.getElem?_append_left (by rw [setM_len]; exact hlt e2)]; exact slot_setM H e2 m')
       simp (maxSteps:=9999999) only [EV0,zx,zw,zv,zu,zq,zp,zj,zk,zg,leT,zZ,rvC,zY,zX,zW,zV,↓zU,↓zQ,reduceCtorEq,yz,yy,yY,yx,yw,yv,yu,yq,yp,yX,yj,yk,yg,yW,yV,yU,yZ,yQ,xz,df42,TTn,fullG,memF_eq H,memF_set H,setM_fun H,fullM,put2G,put2M,slotF,slot_eta,cap_eta,Slot.cl,c0,c1,hs,rm3G,hs1,hst,hv1,R.lend,R.unlend,S_ren,C.ren,V.ren,Blk.ren,take_app,drop_app,Nat.not_lt_zero,Nat.lt_irrefl,Nat.add_sub_cancel_left,Nat.not_lt,Nat.le_add_right,setM_len,hcm,hcm',put,fillP,sub,EVt]
       exact hS
      ·cases hg
     split at hg
     ·rename_i hf
      subst hf
      split at hg
      ·rename_i v hv
       cases hg
       have e2:=slotAt_some hv
       have hv1 : ∀ m' B,slotAt (setM h a b m' ++ [B]) k = some v:=fun m' B => slotAt_eq (by rw [List.getElem?_append_left (by rw [setM_len]; exact hlt e2)]; exact slot_setM H e2 m')
       simp (maxSteps:=9999999) only [EV0,zx,zw,zv,zu,zq,zp,zj,zk,zg,leT,zZ,rvC,zY,zX,zW,zV,↓zU,↓zQ,reduceCtorEq,yz,yy,yY,yx,yw,yv,yu,yq,yp,yX,yj,yk,yg,yW,yV,yU,yZ,yQ,xz,df42,TTn,fullG,memF_eq H,memF_set H,setM_fun H,fullM,put2G,put2M,slotF,slot_eta,cap_eta,Slot.cl,c0,c1,hs,rm4G,hs1,hst,hv1,R.lend,R.unlend,S_ren,C.ren,V.ren,Blk.ren,take_app,drop_app,Nat.not_lt_zero,Nat.lt_irrefl,Nat.add_sub_cancel_left,Nat.not_lt,Nat.le_add_right,setM_len,hcm,hcm',put,fillP,sub,EVt]
       exact hS
      ·cases hg
     ·cases hg
    ·cases hg
   ·simp only [M.turnX,c0,c1,if_false] at hS
    simp (maxSteps:=9999999) only [EV0,zx,zw,zv,zu,zq,zp,zj,zk,zg,leT,zZ,rvC,zY,zX,zW,zV,↓zU,↓zQ,reduceCtorEq,yz,yy,yY,yx,yw,yv,yu,yq,yp,yX,yj,yk,yg,yW,yV,yU,yZ,yQ,xz,df42,TTn,fullG,memF_eq H,fullM,Slot.cl,c0,c1,put,fillP,sub,EVt]
    exact hS
  ·exact hS.elim
 ·exact hS.elim

def M.joinX (m : M) (p a n : Int) : M:=((if p = 0 then m.sfX a else m).turnX p fun s => ⟨s.cap,s.prev,a,s.depth⟩).turnX n fun s => ⟨s.cap,a,s.next,s.depth⟩
def joinM (b : Nat) (m : M) (st : M → List Blk) : List V → Res
 | [.s (.i .i64 p), .s (.i .i64 a), .s (.i .i64 n)] => .ok (.tup []) [] (st (m.joinX p a n))
 | _ => .bad
noncomputable def joinG:=memF joinM
noncomputable def TJn : Tab:=addT 42 turnG (addT 45 setFirstG (noT))
theorem TJn_snd : TJn.Snd Try.prog:=addT_snd ok42 turn_snd (addT_snd ok45 setFirst_snd ((noT_snd _)))
theorem join_snd : Snd Try.prog 39 (FSpec.of joinG):=snd_run TJn_snd mixed Try.func39 dc39 200 fun args h K hc hS => by
 obtain ⟨a,b,m,rest,rfl,H,hS1⟩:=memF_spec hS
 clear hS
 have hS:=hS1
 clear hS1
 unfold joinM at hS
 split at hS
 ·rename_i p x n
  simp only [spec_ok,M.joinX] at hS
  have hcm : ∀ m',clean h.length (setM h a b m') = true:=fun m' => setM_clean H hc H.ltb
  have hcl : ∀ m',cellAt (setM h a b m' ++ [⟨.rw,[.i .i64 x],1⟩]) h.length = some x:=fun m' => cellAt_eq (room:=1) (by rw [List.getElem?_append_right (by rw [setM_len]; omega),setM_len,Nat.sub_self]; rfl)
  have t1 : ∀ m' q,turnG [.s (.p (.g a) 0), .s (.i .i64 q), .s (.fn 70 [(.g h.length,0)])] (setM h a b m' ++ [⟨.rw,[.i .i64 x],1⟩]) = .ok (.tup []) [] (setM h a b (m'.turnX q fun s => ⟨s.cap,s.prev,x,s.depth⟩) ++ [⟨.rw,[.i .i64 x],1⟩]):=fun m' q => by
   unfold turnG
   rw [memF_app H]
   simp only [turnM,chg,if_true,hcl]
  have t2 : ∀ m' q,turnG [.s (.p (.g a) 0), .s (.i .i64 q), .s (.fn 71 [(.g h.length,0)])] (setM h a b m' ++ [⟨.rw,[.i .i64 x],1⟩]) = .ok (.tup []) [] (setM h a b (m'.turnX q fun s => ⟨s.cap,x,s.next,s.depth⟩) ++ [⟨.rw,[.i .i64 x],1⟩]):=fun m' q => by
   unfold turnG
   rw [memF_app H]
   simp only [turnM,chg,if_true,hcl,reduceEqDiff,if_false]
  have t0 : ∀ q,turnG [.s (.p (.g a) 0), .s (.i .i64 q), .s (.fn 70 [(.g h.length,0)])] (h ++ [⟨.rw,[.i .i64 x],1⟩]) = .ok (.tup []) [] (setM h a b (m.turnX q fun s => ⟨s.cap,s.prev,x,s.depth⟩) ++ [⟨.rw,[.i .i64 x],1⟩]):=fun q => by
   have:=t1 m q
   rw [setM_self H] at this
   exact this
  by_cases c0 : p = 0
  ·simp only [c0,if_true] at hS
   simp (maxSteps:=9999999) only [EV0,zx,zw,zv,zu,zq,zp,zj,zk,zg,leT,zZ,rvC,zY,zX,zW,zV,↓zU,↓zQ,reduceCtorEq,yz,yy,yY,yx,yw,yv,yu,yq,yp,yX,yj,yk,yg,yW,yV,yU,yZ,yQ,xz,df39,TJn,setFirstG,memF_eq H,setFirstM,t1,t2,t0,R.lend,R.unlend,S_ren,C.ren,V.ren,Blk.ren,take_app,drop_app,Nat.not_lt_zero,Nat.lt_irrefl,Nat.add_sub_cancel_left,Nat.not_lt,Nat.le_add_right,setM_len,hcm,hc,c0]
   exact hS
  ·simp only [c0,if_false] at hS
   simp (maxSteps:=9999999) only [EV0,zx,zw,zv,zu,zq,zp,zj,zk,zg,leT,zZ,rvC,zY,zX,zW,zV,↓zU,↓zQ,reduceCtorEq,yz,yy,yY,yx,yw,yv,yu,yq,yp,yX,yj,yk,yg,yW,yV,yU,yZ,yQ,xz,df39,TJn,setFirstG,memF_eq H,setFirstM,t1,t2,t0,R.lend,R.unlend,S_ren,C.ren,V.ren,Blk.ren,take_app,drop_app,Nat.not_lt_zero,Nat.lt_irrefl,Nat.add_sub_cancel_left,Nat.not_lt,Nat.le_add_right,setM_len,hcm,hc,c0]
   exact hS
 ·exact hS.elim

def M.ins (m : M) (p a : Int) : Int × M :=
 if m.fE a = 0 then
  if (m.gX a).liB a (m.gV a) = true then (120,(m.gX a).liX (m.gV a))
  else if p = 0 then (0,((((m.gX a).liX (m.gV a)).fstX.pX a ⟨(m.gV a).cap,(m.gV a).prev,((m.gX a).liX (m.gV a)).fst,(m.gV a).depth⟩).joinX (m.gV a).prev a ((m.gX a).liX (m.gV a)).fst))
  else if (((m.gX a).liX (m.gV a)).fstX).fE p = 0 then
   if p = a ∨ ((((m.gX a).liX (m.gV a)).fstX).gV p).depth = 65535 then (120,(((m.gX a).liX (m.gV a)).fstX).gX p)
   else (0,(((((m.gX a).liX (m.gV a)).fstX).gX p).pX a ⟨(m.gV a).cap,p,((((m.gX a).liX (m.gV a)).fstX).gV p).next,IntKind.i64.wrap (((((m.gX a).liX (m.gV a)).fstX).gV p).depth + 1)⟩).joinX p a ((((m.gX a).liX (m.gV a)).fstX).gV p).next)
  else ((((m.gX a).liX (m.gV a)).fstX).fE p,(((m.gX a).liX (m.gV a)).fstX).gX p)
 else (m.fE a,m.gX a)
def insM (b : Nat) (m : M) (st : M → List Blk) : List V → Res
 | [.s (.i .i64 p), .s (.i .i64 a)] => .ok (.s (.i .i64 (m.ins p a).1)) [] (st (m.ins p a).2)
 | _ => .bad
noncomputable def insG:=memF insM
def M.mov (m : M) (f t : Int) : Int × M :=
 if m.fE f = 0 then
  if (m.gX f).gE t = 0 then
   if (m.gX f).eB t = true then
    (0,if (((m.gX f).gX t).liB f (m.gV f)) = true then (((((m.gX f).gX t).liX (m.gV f)).pX t (m.gV f)).pX f slotZ).joinX (m.gV f).prev t (m.gV f).next else ((((m.gX f).gX t).liX (m.gV f)).pX t (m.gV f)).pX f slotZ)
   else (120,(m.gX f).gX t)
  else ((m.gX f).gE t,(m.gX f).gX t)
 else (m.fE f,m.gX f)
def movM (b : Nat) (m : M) (st : M → List Blk) : List V → Res
 | [.s (.i .i64 f), .s (.i .i64 t)] => .ok (.s (.i .i64 (m.mov f t).1)) [] (st (m.mov f t).2)
 | _ => .bad
noncomputable def movG:=memF movM
noncomputable def TIn : Tab:=addT 35 fullG (addT 37 listedG (addT 34 firstG (addT 38 put2G (addT 40 empty2G (addT 39 joinG (noT))))))
theorem TIn_snd : TIn.Snd Try.prog:=addT_snd ok35 full_snd (addT_snd ok37 listed_snd (addT_snd ok34 first_snd (addT_snd ok38 put2_snd (addT_snd ok40 empty2_snd (addT_snd ok39 join_snd ((noT_snd _)))))))
theorem ins_snd : Snd Try.prog 17 (FSpec.of insG):=snd_run TIn_snd mixed Try.func17 dc17 300 fun args h K hc hS => by
 obtain ⟨a,b,m,rest,rfl,H,hS1⟩:=memF_spec hS
 clear hS
 have hS:=hS1
 clear hS1
 unfold insM at hS
 split at hS
 ·rename_i p x
  simp only [spec_ok] at hS
  by_cases c1 : m.fE x = 0
  ·cases c2 : (m.gX x).liB x (m.gV x) with
   | true =>
    simp only [M.ins,c1,c2,if_true] at hS
    simp (maxSteps:=9999999) only [EV0,zx,zw,zv,zu,zq,zp,zj,zk,zg,leT,zZ,rvC,zY,zX,zW,zV,↓zU,↓zQ,reduceCtorEq,yz,yy,yY,yx,yw,yv,yu,yq,yp,yX,yj,yk,yg,yW,yV,yU,yZ,yQ,xz,df17,TIn,fullG,memF_eq H,memF_set H,setM_fun H,fullM,listedG,listedM,slotF,slot_eta,cap_eta,Slot.cl,c1,c2,put,fillP,sub,EVt]
    exact hS
   | false =>
    by_cases c3 : p = 0
    ·simp only [M.ins,c1,c2,c3,Bool.false_eq_true,if_true,if_false] at hS
     simp (maxSteps:=9999999) only [EV0,zx,zw,zv,zu,zq,zp,zj,zk,zg,leT,zZ,rvC,zY,zX,zW,zV,↓zU,↓zQ,reduceCtorEq,yz,yy,yY,yx,yw,yv,yu,yq,yp,yX,yj,yk,yg,yW,yV,yU,yZ,yQ,xz,df17,TIn,fullG,memF_eq H,memF_set H,setM_fun H,fullM,listedG,listedM,firstG,firstM,put2G,put2M,joinG,joinM,slotF,slot_eta,cap_eta,Slot.cl,c1,c2,c3,put,fillP,sub,EVt]
     exact hS
    ·by_cases c4 : (((m.gX x).liX (m.gV x)).fstX).fE p = 0
     ·by_cases c5 : p = x
      ·subst c5
       simp only [M.ins,c1,c2,c3,c4,Bool.false_eq_true,if_true,if_false,true_or] at hS
       simp (maxSteps:=9999999) only [EV0,zx,zw,zv,zu,zq,zp,zj,zk,zg,leT,zZ,rvC,zY,zX,zW,zV,↓zU,↓zQ,reduceCtorEq,yz,yy,yY,yx,yw,yv,yu,yq,yp,yX,yj,yk,yg,yW,yV,yU,yZ,yQ,xz,df17,TIn,fullG,memF_eq H,memF_set H,setM_fun H,fullM,listedG,listedM,firstG,firstM,put2G,put2M,joinG,joinM,slotF,slot_eta,cap_eta,Slot.cl,c1,c2,c3,c4,put,fillP,sub,EVt]
       exact hS
      ·by_cases c6 : ((((m.gX x).liX (m.gV x)).fstX).gV p).depth = 65535
       ·simp only [M.ins,c1,c2,c3,c4,c5,c6,Bool.false_eq_true,if_true,if_false,or_true] at hS
        simp (maxSteps:=9999999) only [EV0,zx,zw,zv,zu,zq,zp,zj,zk,zg,leT,zZ,rvC,zY,zX,zW,zV,↓zU,↓zQ,reduceCtorEq,yz,yy,yY,yx,yw,yv,yu,yq,yp,yX,yj,yk,yg,yW,yV,yU,yZ,yQ,xz,df17,TIn,fullG,memF_eq H,memF_set H,setM_fun H,fullM,listedG,listedM,firstG,firstM,put2G,put2M,joinG,joinM,slotF,slot_eta,cap_eta,Slot.cl,c1,c2,c3,c4,c5,c6,put,fillP,sub,EVt]
        exact hS
       ·simp only [M.ins,c1,c2,c3,c4,c5,c6,Bool.false_eq_true,if_true,if_false,or_self] at hS
        simp (maxSteps:=9999999) only [EV0,zx,zw,zv,zu,zq,zp,zj,zk,zg,leT,zZ,rvC,zY,zX,zW,zV,↓zU,↓zQ,reduceCtorEq,yz,yy,yY,yx,yw,yv,yu,yq,yp,yX,yj,yk,yg,yW,yV,yU,yZ,yQ,xz,df17,TIn,fullG,memF_eq H,memF_set H,setM_fun H,fullM,listedG,listedM,firstG,firstM,put2G,put2M,joinG,joinM,slotF,slot_eta,cap_eta,Slot.cl,c1,c2,c3,c4,c5,c6,put,fillP,sub,EVt]
        repeat' first | exact hS | intro _ | refine ⟨?_, ?_⟩
     ·simp only [M.ins,c1,c2,c3,c4,Bool.false_eq_true,if_true,if_false] at hS
      simp (maxSteps:=9999999) only [EV0,zx,zw,zv,zu,zq,zp,zj,zk,zg,leT,zZ,rvC,zY,zX,zW,zV,↓zU,↓zQ,reduceCtorEq,yz,yy,yY,yx,yw,yv,yu,yq,yp,yX,yj,yk,yg,yW,yV,yU,yZ,yQ,xz,df17,TIn,fullG,memF_eq H,memF_set H,setM_fun H,fullM,listedG,listedM,firstG,firstM,put2G,put2M,joinG,joinM,slotF,slot_eta,cap_eta,Slot.cl,c1,c2,c3,c4,put,fillP,sub,EVt]
      exact hS
  ·simp only [M.ins,c1,if_false] at hS
   simp (maxSteps:=9999999) only [EV0,zx,zw,zv,zu,zq,zp,zj,zk,zg,leT,zZ,rvC,zY,zX,zW,zV,↓zU,↓zQ,reduceCtorEq,yz,yy,yY,yx,yw,yv,yu,yq,yp,yX,yj,yk,yg,yW,yV,yU,yZ,yQ,xz,df17,TIn,fullG,memF_eq H,memF_set H,setM_fun H,fullM,Slot.cl,c1,put,fillP,sub,EVt]
   exact hS
 ·exact hS.elim
theorem mov_snd : Snd Try.prog 18 (FSpec.of movG):=snd_run TIn_snd mixed Try.func18 dc18 300 fun args h K hc hS => by
 obtain ⟨a,b,m,rest,rfl,H,hS1⟩:=memF_spec hS
 clear hS
 have hS:=hS1
 clear hS1
 unfold movM at hS
 split at hS
 ·rename_i f t
  simp only [spec_ok] at hS
  by_cases c1 : m.fE f = 0
  ·by_cases c2 : (m.gX f).gE t = 0
   ·cases c3 : (m.gX f).eB t with
    | false =>
     simp only [M.mov,c1,c2,c3,Bool.false_eq_true,if_true,if_false] at hS
     simp (maxSteps:=9999999) only [EV0,zx,zw,zv,zu,zq,zp,zj,zk,zg,leT,zZ,rvC,zY,zX,zW,zV,↓zU,↓zQ,reduceCtorEq,yz,yy,yY,yx,yw,yv,yu,yq,yp,yX,yj,yk,yg,yW,yV,yU,yZ,yQ,xz,df18,TIn,fullG,memF_eq H,memF_set H,setM_fun H,fullM,empty2G,empty2M,slotF,slot_eta,cap_eta,Slot.cl,c1,c2,c3,put,fillP,sub,EVt]
     exact hS
    | true =>
     cases c4 : ((m.gX f).gX t).liB f (m.gV f) with
     | false =>
      simp only [M.mov,c1,c2,c3,c4,Bool.false_eq_true,if_true,if_false] at hS
      simp (maxSteps:=9999999) only [EV0,zx,zw,zv,zu,zq,zp,zj,zk,zg,leT,zZ,rvC,zY,zX,zW,zV,↓zU,↓zQ,reduceCtorEq,yz,yy,yY,yx,yw,yv,yu,yq,yp,yX,yj,yk,yg,yW,yV,yU,yZ,yQ,xz,df18,TIn,fullG,memF_eq H,memF_set H,setM_fun H,fullM,empty2G,empty2M,listedG,listedM,put2G,put2M,joinG,joinM,slotF,slot_eta,cap_eta,slotZ,capZ,Slot.cl,c1,c2,c3,c4,put,fillP,sub,EVt]
      exact hS
     | true =>
      simp only [M.mov,c1,c2,c3,c4,if_true] at hS
      simp (maxSteps:=9999999) only [EV0,zx,zw,zv,zu,zq,zp,zj,zk,zg,leT,zZ,rvC,zY,zX,zW,zV,↓zU,↓zQ,reduceCtorEq,yz,yy,yY,yx,yw,yv,yu,yq,yp,yX,yj,yk,yg,yW,yV,yU,yZ,yQ,xz,df18,TIn,fullG,memF_eq H,memF_set H,setM_fun H,fullM,empty2G,empty2M,listedG,listedM,put2G,put2M,joinG,joinM,slotF,slot_eta,cap_eta,slotZ,capZ,Slot.cl,c1,c2,c3,c4,put,fillP,sub,EVt]
      exact hS
   ·simp only [M.mov,c1,c2,if_true,if_false] at hS
    simp (maxSteps:=9999999) only [EV0,zx,zw,zv,zu,zq,zp,zj,zk,zg,leT,zZ,rvC,zY,zX,zW,zV,↓zU,↓zQ,reduceCtorEq,yz,yy,yY,yx,yw,yv,yu,yq,yp,yX,yj,yk,yg,yW,yV,yU,yZ,yQ,xz,df18,TIn,fullG,memF_eq H,memF_set H,setM_fun H,fullM,empty2G,empty2M,Slot.cl,c1,c2,put,fillP,sub,EVt]
    exact hS
  ·simp only [M.mov,c1,if_false] at hS
   simp (maxSteps:=9999999) only [EV0,zx,zw,zv,zu,zq,zp,zj,zk,zg,leT,zZ,rvC,zY,zX,zW,zV,↓zU,↓zQ,reduceCtorEq,yz,yy,yY,yx,yw,yv,yu,yq,yp,yX,yj,yk,yg,yW,yV,yU,yZ,yQ,xz,df18,TIn,fullG,memF_eq H,memF_set H,setM_fun H,fullM,Slot.cl,c1,put,fillP,sub,EVt]
   exact hS
 ·exact hS.elim

theorem ysw_ct {Γ : FuncId → FSpec} {l np : Nat} {R : Rnd} {K : Ex → St → U → Option Ex → Prop} {fs : List YF} {s : St} {u : U} {p : Option Ex} {a b : DC} {x : Opd} (hx : ev s.t x = .s (.b true)) (h : ysw Γ l np R K (.c a :: fs) s u p) : ysw Γ l np R K (.c (.cond x a b) :: fs) s u p:=ysw_cond hx h
theorem ysw_cf {Γ : FuncId → FSpec} {l np : Nat} {R : Rnd} {K : Ex → St → U → Option Ex → Prop} {fs : List YF} {s : St} {u : U} {p : Option Ex} {a b : DC} {x : Opd} (hx : ev s.t x = .s (.b false)) (h : ysw Γ l np R K (.c b :: fs) s u p) : ysw Γ l np R K (.c (.cond x a b) :: fs) s u p:=ysw_cond hx h

theorem yl_below (n l : Nat) : S.below n (.yl l) = true:=(rfl)
def bhH (h : List Blk) (a b : Nat) (m : M) (x : Int) : List Blk:=setM h a b m ++ [⟨.rw,[.p (.g a) 0],1⟩,⟨.rw,[.i .i64 x],1⟩]
section
variable {h : List Blk} {a b : Nat} {m0 : M}
theorem bhH_len (m : M) (x : Int) : (bhH h a b m x).length = h.length + 2:=by simp [bhH,setM_len]
theorem bhH_1 (m : M) (x : Int) : (bhH h a b m x)[h.length]? = some ⟨.rw,[.p (.g a) 0],1⟩:=by
 unfold bhH; rw [List.getElem?_append_right (by rw [setM_len]; omega),setM_len,Nat.sub_self]; rfl
theorem bhH_2 (m : M) (x : Int) : (bhH h a b m x)[h.length + 1]? = some ⟨.rw,[.i .i64 x],1⟩:=by
 unfold bhH; rw [List.getElem?_append_right (by rw [setM_len]; omega),setM_len,Nat.add_sub_cancel_left]; rfl
theorem bhH_set (m : M) (x y : Int) : (bhH h a b m x).set (h.length + 1) ⟨.rw,[.i .i64 y],1⟩ = bhH h a b m y:=by
 unfold bhH; rw [List.set_append_right _ _ (by rw [setM_len]; omega),setM_len,Nat.add_sub_cancel_left]; rfl
theorem memF_bh {f : Nat → M → (M → List Blk) → List V → Res} {m : M} {x : Int} {rest : List V} (H : IsMem h a b m0) : memF f (.s (.p (.g a) 0) :: rest) (bhH h a b m x) = f b m (fun m => bhH h a b m x) rest:=memF_app H
theorem bh_lt (H : IsMem h a b m0) : a < h.length + 2:=by have:=H.lta; omega
end

def behG : List V → List Blk → Res
 | [.s (.p (.g a) 0), .s (.i .i64 x)],h => .ok (.s (.fn 61 [(.g h.length,0),(.g (h.length + 1),0)])) [] (h ++ [⟨.rw,[.p (.g a) 0],1⟩,⟨.rw,[.i .i64 x],1⟩])
 | _,_ => .bad
theorem beh_snd : Snd Try.prog 33 (FSpec.of behG):=snd_run (noT_snd _) mixed Try.func33 dc33 100 fun args h K hc hS => by
 unfold behG at hS
 split at hS
 ·rename_i a x
  simp only [spec_ok] at hS
  simp (maxSteps:=9999999) only [EV0,zx,zw,zv,zu,zq,zp,zj,zk,zg,leT,zZ,rvC,zY,zX,zW,zV,↓zU,↓zQ,reduceCtorEq,yz,yy,yY,yx,yw,yv,yu,yq,yp,yX,yj,yk,yg,yW,yV,yU,yZ,yQ,xz,df33]
  refine ⟨[0,1],by simp,rfl, ?_⟩
  simp only [getAll,List.getElem?_cons_zero,List.getElem?_cons_succ]
  refine ⟨?_, ?_⟩
  ·simp [S.kept,R.kept]
  ·refine cast ?_ hS
   simp [Blk.ren,S.ren,R.prom,V.ren,List.idxOf,List.findIdx,List.findIdx.go]
 ·exact hS.elim

def RM (R : Rnd) (args : List V) (u : U) (h : List Blk) (K : Option Ex → U → List Blk → Prop) : Prop:=∀ K' : Option Ex → U → List Blk → Prop,(∀ p u' h',K p u' h' → K' p u' h') → R args u h K'
def bw (g : M → Int → List Blk) (R : Rnd) (K : Option Ex → U → List Blk → Prop) : Nat → Int → M → U → Prop
 | 0,x,m,u => if x = 0 then K none u (g m x) else RM R [.s (.i .i64 0), .agg slotZ.cl] u (g m x) K
 | k + 1,x,m,u => if x = 0 then K none u (g m x) else if m.fE x = 0 then
   RM R [.s (.i .i64 x), .agg (m.gV x).cl] u (g (m.gX x) x) fun p u' h' => h' = g (m.gX x) x ∧ match p with
    | none => bw g R K k (m.gV x).next (m.gX x) u'
    | some e => K (some e) u' h'
  else RM R [.s (.i .i64 0), .agg slotZ.cl] u (g (m.gX x) x) K
noncomputable def TBh : Tab:=addT 62 wordsG (addT 35 fullG (noT))
theorem TBh_snd : TBh.Snd Try.prog:=addT_snd ok62 mwords_snd (addT_snd ok35 full_snd ((noT_snd _)))
theorem behind1_is {h : List Blk} {a b : Nat} {m0 m : M} {x : Int} {u : U} {R : Rnd} {K : Option Ex → U → List Blk → Prop} (H : IsMem h a b m0) (hw : bw (bhH h a b) R K (m.w.length / 4) x m u) :
  isem 61 [.s (.p (.g h.length) 0), .s (.p (.g (h.length + 1)) 0)] 2 u (bhH h a b m x) R K:=by
 refine isem_of mixed (Tab.snd_Γ TBh_snd) ok61 Try.func61 dc61 rfl rfl rfl fun l => ?_
 have h1:=bhH_1 (h:=h) (a:=a) (b:=b)
 have h2:=bhH_2 (h:=h) (a:=a) (b:=b)
 have h3:=bhH_set (h:=h) (a:=a) (b:=b)
 have hmf:=fun f m x rest => memF_bh (f:=f) (m:=m) (x:=x) (rest:=rest) H
 have hq : IntKind.i64.wrap ((m.w.length : Int).tdiv 4) = ((m.w.length / 4 : Nat) : Int):=by
  have:=m.l
  rw [Int.tdiv_eq_ediv_of_nonneg (by omega),wrap64] <;> omega
 obtain ⟨N,hN⟩ : ∃ N,m.w.length / 4 = N:=⟨_,rfl⟩
 rw [hN] at hw hq
 have hNl : N ≤ 2199023255552:=by have:=m.l; omega
 refine ysw_seq (ysw_seq (ysw_reg (Tab.ok_Γ _) 60 rfl ?_))
 simp (maxSteps:=9999999) only [EV0,zx,zw,zv,zu,zq,zp,zj,zk,zg,leT,zZ,rvC,zY,zX,zW,zV,↓zU,↓zQ,reduceCtorEq,yz,yy,yY,yx,yw,yv,yu,yq,yp,yX,yj,yk,yg,yW,yV,yU,yZ,yQ,xz,df61,TBh,h1,h2,hmf,wordsG,wordsM,hq]
 refine ysw_block (by decide) ?_
 refine ysw_loop (α:=Nat × Int × M) [4,5,9,10,11,12,13,14,15,16,17,18,19,20,21,22,23,24,25,26,27,28,29,30,31] (fun y => [(9, .s (.i .i64 (y.1 : Int)))]) (fun _ => []) (fun y => bhH h a b y.2.2 y.2.1) (fun y u p => p = none ∧ y.1 ≤ N ∧ bw (bhH h a b) R K (N - y.1) y.2.1 y.2.2 u) (fun y => N - y.1) (0,x,m) ⟨rfl,Nat.zero_le _,hw⟩ rfl ?_ ?_
 ·refine Wk.same rfl rfl ?_
  simp (maxSteps:=9999999) only [EV0,zx,zw,zv,zu,zq,zp,zj,zk,zg,leT,zZ,rvC,zY,zX,zW,zV,↓zU,↓zQ,reduceCtorEq,yz,yy,yY,yx,yw,yv,yu,yq,yp,yX,yj,yk,yg,yW,yV,yU,yZ,yQ,xz,Int.natCast_zero]
 ·rintro X ⟨i,y,m'⟩ u p ⟨rfl,hi,hw⟩ IH
  simp only at hi hw ⊢
  clear hq hN
  refine ysw_seq (ysw_reg (Tab.ok_Γ _) 60 rfl ?_)
  rcases Nat.lt_or_ge i N with hlt | hge
  ·have I : (i : Int) < N:=by omega
   have I2 : IntKind.i64.wrap ((i : Int) + 1) = ((i + 1 : Nat) : Int):=by rw [wrap64] <;> omega
   obtain ⟨k,hk⟩ : ∃ k,N - i = k + 1:=⟨N - i - 1,by omega⟩
   rw [hk] at hw
   simp (maxSteps:=9999999) only [EV0,zx,zw,zv,zu,zq,zp,zj,zk,zg,leT,zZ,rvC,zY,zX,zW,zV,↓zU,↓zQ,reduceCtorEq,yz,yy,yY,yx,yw,yv,yu,yq,yp,yX,yj,yk,yg,yW,yV,yU,yZ,yQ,xz,df61,TBh,I]
   refine ysw_seq (ysw_ct rfl (ysw_skip (ysw_seq (ysw_block (by decide) (ysw_seq (ysw_seq (ysw_reg (Tab.ok_Γ _) 60 rfl ?_)))))))
   by_cases hy : y = 0
   ·rw [hy] at hw ⊢
    simp only [bw,if_true] at hw
    simp (maxSteps:=9999999) only [EV0,zx,zw,zv,zu,zq,zp,zj,zk,zg,leT,zZ,rvC,zY,zX,zW,zV,↓zU,↓zQ,reduceCtorEq,yz,yy,yY,yx,yw,yv,yu,yq,yp,yX,yj,yk,yg,yW,yV,yU,yZ,yQ,xz,df61,TBh,h1,h2,hmf]
    exact ysw_ct rfl (ysw_ret hw)
   ·have hy' : (y == 0) = false:=by simpa using hy
    simp only [bw,hy,if_false] at hw
    simp (maxSteps:=9999999) only [EV0,zx,zw,zv,zu,zq,zp,zj,zk,zg,leT,zZ,rvC,zY,zX,zW,zV,↓zU,↓zQ,reduceCtorEq,yz,yy,yY,yx,yw,yv,yu,yq,yp,yX,yj,yk,yg,yW,yV,yU,yZ,yQ,xz,df61,TBh,h1,h2,hmf,hy',hy]
    refine ysw_cf rfl (ysw_skip (ysw_seq (ysw_reg (Tab.ok_Γ _) 60 rfl ?_)))
    obtain ⟨⟨⟨c0,c1,c2,c3,c4,c5,c6,c7,c8,c9,c10⟩,p0,q0,r0⟩,hs⟩ : ∃ s,m'.gV y = s:=⟨_,rfl⟩
    simp (maxSteps:=9999999) only [EV0,zx,zw,zv,zu,zq,zp,zj,zk,zg,leT,zZ,rvC,zY,zX,zW,zV,↓zU,↓zQ,reduceCtorEq,yz,yy,yY,yx,yw,yv,yu,yq,yp,yX,yj,yk,yg,yW,yV,yU,yZ,yQ,xz,df61,TBh,h1,h2,hmf,fullG,fullM,hs,Slot.cl,Cap.cl,put,fillP,EVt]
    refine ysw_seq (ysw_seq (ysw_reg (Tab.ok_Γ _) 60 rfl ?_))
    by_cases hf : m'.fE y = 0
    ·simp only [hf,if_true,hs,Slot.cl,Cap.cl] at hw
     simp (maxSteps:=9999999) only [EV0,zx,zw,zv,zu,zq,zp,zj,zk,zg,leT,zZ,rvC,zY,zX,zW,zV,↓zU,↓zQ,reduceCtorEq,yz,yy,yY,yx,yw,yv,yu,yq,yp,yX,yj,yk,yg,yW,yV,yU,yZ,yQ,xz,df61,TBh,hf]
     refine ysw_cf rfl (ysw_skip (ysw_seq (ysw_seq (ysw_yieldAt (Tab.ok_Γ _) 60 3 rfl rfl ?_))))
     simp (maxSteps:=9999999) only [EV0,zx,zw,zv,zu,zq,zp,zj,zk,zg,leT,zZ,rvC,zY,zX,zW,zV,↓zU,↓zQ,reduceCtorEq,yz,yy,yY,yx,yw,yv,yu,yq,yp,yX,yj,yk,yg,yW,yV,yU,yZ,yQ,xz,df61,TBh,h1,h2,hmf,sub,EVt,List.drop_succ_cons]
     refine ywp_y rfl rfl rfl rfl rfl (hw _ fun p' u' h' hk' => ?_)
     obtain ⟨rfl,hk'⟩:=hk'
     refine ywp_run (Tab.ok_Γ _) 60 rfl ?_
     cases p' with
     | some e =>
      simp (maxSteps:=9999999) only [EV0,zx,zw,zv,zu,zq,zp,zj,zk,zg,leT,zZ,rvC,zY,zX,zW,zV,↓zU,↓zQ,reduceCtorEq,yz,yy,yY,yx,yw,yv,yu,yq,yp,yX,yj,yk,yg,yW,yV,yU,yZ,yQ,xz,df61,TBh,Option.isNone_some]
      exact ysw_ct rfl (ysw_ret hk')
     | none =>
      simp (maxSteps:=9999999) only [EV0,zx,zw,zv,zu,zq,zp,zj,zk,zg,leT,zZ,rvC,zY,zX,zW,zV,↓zU,↓zQ,reduceCtorEq,yz,yy,yY,yx,yw,yv,yu,yq,yp,yX,yj,yk,yg,yW,yV,yU,yZ,yQ,xz,df61,TBh,Option.isNone_none]
      refine ysw_cf rfl (ysw_skip (ysw_reg (Tab.ok_Γ _) 60 rfl ?_))
      simp (maxSteps:=9999999) only [EV0,zx,zw,zv,zu,zq,zp,zj,zk,zg,leT,zZ,rvC,zY,zX,zW,zV,↓zU,↓zQ,reduceCtorEq,yz,yy,yY,yx,yw,yv,yu,yq,yp,yX,yj,yk,yg,yW,yV,yU,yZ,yQ,xz,df61,TBh,h1,h2,h3,sub,put,fillP]
      refine ysw_blk (ysw_reg (Tab.ok_Γ _) 60 rfl ?_)
      simp (maxSteps:=9999999) only [EV0,zx,zw,zv,zu,zq,zp,zj,zk,zg,leT,zZ,rvC,zY,zX,zW,zV,↓zU,↓zQ,reduceCtorEq,yz,yy,yY,yx,yw,yv,yu,yq,yp,yX,yj,yk,yg,yW,yV,yU,yZ,yQ,xz,df61,TBh,I2]
      exact IH (i + 1,q0,m'.gX y) _ _ _ (by simp only; omega) ⟨rfl,by simp only; omega,by simp only; rw [show N - (i + 1) = k by omega]; exact hk'⟩ (by simp only [bhH_len]) (Wk.keep 0 rfl rfl (by simp (maxSteps:=9999999) only [EV0,zx,zw,zv,zu,zq,zp,zj,zk,zg,leT,zZ,rvC,zY,zX,zW,zV,↓zU,↓zQ,reduceCtorEq,yz,yy,yY,yx,yw,yv,yu,yq,yp,yX,yj,yk,yg,yW,yV,yU,yZ,yQ,xz,bhH_len]) (by simp (maxSteps:=9999999) only [EV0,zx,zw,zv,zu,zq,zp,zj,zk,zg,leT,zZ,rvC,zY,zX,zW,zV,↓zU,↓zQ,reduceCtorEq,yz,yy,yY,yx,yw,yv,yu,yq,yp,yX,yj,yk,yg,yW,yV,yU,yZ,yQ,xz,yl_below]) (by simp))
    ·simp only [hf,if_false] at hw
     have hf' : (m'.fE y == 0) = false:=by simpa using hf
     simp (maxSteps:=9999999) only [EV0,zx,zw,zv,zu,zq,zp,zj,zk,zg,leT,zZ,rvC,zY,zX,zW,zV,↓zU,↓zQ,reduceCtorEq,yz,yy,yY,yx,yw,yv,yu,yq,yp,yX,yj,yk,yg,yW,yV,yU,yZ,yQ,xz,df61,TBh,hf,hf',bne]
     refine ysw_ct rfl (ysw_seq (ysw_yieldAt (Tab.ok_Γ _) 60 2 rfl rfl ?_))
     simp (maxSteps:=9999999) only [EV0,zx,zw,zv,zu,zq,zp,zj,zk,zg,leT,zZ,rvC,zY,zX,zW,zV,↓zU,↓zQ,reduceCtorEq,yz,yy,yY,yx,yw,yv,yu,yq,yp,yX,yj,yk,yg,yW,yV,yU,yZ,yQ,xz,df61,TBh,h1,h2,hmf,sub,put,fillP,EVt,List.drop_succ_cons]
     refine ywp_y rfl rfl rfl rfl rfl (hw _ fun p' u' h' hk' => ?_)
     refine ywp_run (Tab.ok_Γ _) 60 rfl ?_
     simp (maxSteps:=9999999) only [EV0,zx,zw,zv,zu,zq,zp,zj,zk,zg,leT,zZ,rvC,zY,zX,zW,zV,↓zU,↓zQ,reduceCtorEq,yz,yy,yY,yx,yw,yv,yu,yq,yp,yX,yj,yk,yg,yW,yV,yU,yZ,yQ,xz,df61,TBh]
     exact ysw_ret hk'
  ·have I : ¬ (i : Int) < N:=by omega
   have e0 : N - i = 0:=by omega
   rw [e0] at hw
   clear IH
   simp (maxSteps:=9999999) only [EV0,zx,zw,zv,zu,zq,zp,zj,zk,zg,leT,zZ,rvC,zY,zX,zW,zV,↓zU,↓zQ,reduceCtorEq,yz,yy,yY,yx,yw,yv,yu,yq,yp,yX,yj,yk,yg,yW,yV,yU,yZ,yQ,xz,df61,TBh,I]
   refine ysw_seq (ysw_cf rfl (ysw_exit (by decide) ?_))
   simp only [ysx,if_true]
   refine ysw_seq (ysw_reg (Tab.ok_Γ _) 60 rfl ?_)
   by_cases hy : y = 0
   ·rw [hy] at hw ⊢
    simp only [bw,if_true] at hw
    simp (maxSteps:=9999999) only [EV0,zx,zw,zv,zu,zq,zp,zj,zk,zg,leT,zZ,rvC,zY,zX,zW,zV,↓zU,↓zQ,reduceCtorEq,yz,yy,yY,yx,yw,yv,yu,yq,yp,yX,yj,yk,yg,yW,yV,yU,yZ,yQ,xz,df61,TBh,h1,h2,hmf,bne]
    refine ysw_cf rfl (ysw_skip ?_)
    simp only [ysw]
    exact hw
   ·have hy' : (y == 0) = false:=by simpa using hy
    simp only [bw,hy,if_false] at hw
    simp (maxSteps:=9999999) only [EV0,zx,zw,zv,zu,zq,zp,zj,zk,zg,leT,zZ,rvC,zY,zX,zW,zV,↓zU,↓zQ,reduceCtorEq,yz,yy,yY,yx,yw,yv,yu,yq,yp,yX,yj,yk,yg,yW,yV,yU,yZ,yQ,xz,df61,TBh,h1,h2,hmf,hy',hy,bne]
    refine ysw_ct rfl (ysw_yieldAt (Tab.ok_Γ _) 60 2 rfl rfl ?_)
    simp (maxSteps:=9999999) only [EV0,zx,zw,zv,zu,zq,zp,zj,zk,zg,leT,zZ,rvC,zY,zX,zW,zV,↓zU,↓zQ,reduceCtorEq,yz,yy,yY,yx,yw,yv,yu,yq,yp,yX,yj,yk,yg,yW,yV,yU,yZ,yQ,xz,df61,TBh,h1,h2,hmf,sub,put,fillP,EVt,List.drop_succ_cons]
    refine ywp_y rfl rfl rfl rfl rfl (hw _ fun p' u' h' hk' => ?_)
    refine ywp_run (Tab.ok_Γ _) 60 rfl ?_
    simp (maxSteps:=9999999) only [EV0,zx,zw,zv,zu,zq,zp,zj,zk,zg,leT,zZ,rvC,zY,zX,zW,zV,↓zU,↓zQ,reduceCtorEq,yz,yy,yY,yx,yw,yv,yu,yq,yp,yX,yj,yk,yg,yW,yV,yU,yZ,yQ,xz,df61,TBh]
    simp only [ysw]
    exact hk'
end Go.Proofs.Ytcdfofeolgbnbaa

/- Package cdt: Descendants. -/
namespace Go.Proofs.Ytcdfofeolgbnbaa
open Go.D
open Nat (reduceAdd reducePow reduceMul reduceSub reduceLeDiff reduceLT reduceEqDiff)
open Int (reduceNeg reduceLE reduceEq reduceNe reduceToNat)
open Go.D renaming istep → zx,pickR → zw,bin1R → zv,un1R → zu,eqS → zq,eq1 → zp,cmpS → zj,cmp1 → zk,isNil → zg,shows → zZ,result → zY,q_cond_t → zU,q_cond_f → zQ
open List renaming set → zX,replicate → zW
open Option renaming map → zV
open Nat renaming reduceAdd → yz,reducePow → yy,reduceMul → yx,reduceSub → yw,reduceLeDiff → yv,reduceLT → yu,reduceEqDiff → yq
open Int renaming reduceNeg → yp,reduceLE → yj,reduceEq → yk,reduceNe → yg,reduceToNat → yZ,reducePow → yY,reduceLT → yX,reduceAdd → yW,reduceSub → yV,reduceMul → yU,reduceBEq → yQ,reduceBNe → xz
set_option linter.all false
set_option maxRecDepth 100000
set_option maxHeartbeats 8000000

def dsW (d : Int) : Nat → Int → M → List Int → Option (List Int) × M
 | 0,x,m,l => if x = 0 then (some l,m) else (none,m)
 | k + 1,x,m,l => if x = 0 then (some l,m) else if m.fE x = 0 then
   (if (m.gV x).depth ≤ d then (some l,m.gX x) else dsW d k (m.gV x).next (m.gX x) (l ++ [x])) else (none,m.gX x)
def intsB (l : List Int) : List S:=l.map fun x => .i .i64 x
def dscR (st : M → List Blk) : Option (List Int) × M → Res
 | (none,m) => .ok (.tup [.s .ns, .s (.i .i64 110)]) [] (st m)
 | (some [],m) => .ok (.tup [.s .ns, .s (.i .i64 0)]) [] (st m)
 | (some (x :: l),m) => .all (l.length + 1) fun c => .ok (.tup [.s (.sl (.g (st m).length) 0 (l.length + 1) c), .s (.i .i64 0)]) [] (st m ++ [⟨.rw,intsB (x :: l),c⟩])
def dscM (b : Nat) (m : M) (st : M → List Blk) : List V → Res
 | [.s (.i .i64 x)] => .br (decide (m.fE x = 0)) (dscR st (dsW (m.gV x).depth (m.w.length / 4) (m.gV x).next (m.gX x) [])) (.ok (.tup [.s .ns, .s (.i .i64 (m.fE x))]) [] (st (m.gX x)))
 | _ => .bad
noncomputable def dscG:=memF dscM

theorem fin_of {n0 : Nat} {rs : List RV} {K : V → List Blk → Prop} {s : St} {l : List C} {v : V} {ls h : List Blk} (hr : rvals s rs = some l) (W : Wk n0 ⟨[result l],s.ls,s.h⟩ ⟨[v],ls,h⟩) (hl : leave v ls h K) : fin n0 rs K .ret s:=by
 simp only [fin,hr]
 exact ⟨v,ls,h,W,hl⟩
def dLS (A B : S) (own : Slot) (l : List Int) (c : Nat) : List Blk :=
 match l with
 | [] => [⟨.rw,[A],1⟩,⟨.rw,[B],1⟩,⟨.rw,own.cl,14⟩,⟨.rw,[.ns],1⟩]
 | x :: l => [⟨.rw,[A],1⟩,⟨.rw,[B],1⟩,⟨.rw,own.cl,14⟩,⟨.rw,[.sl (.l 4) 0 (l.length + 1) c],1⟩,⟨.rw,intsB (x :: l),c⟩]
def dT (a n : Nat) : List V:=[.s (.p (.g a) 0), .s .u, .s .u, .s .u, .s (.p (.l 0) 0), .s (.p (.l 1) 0), .s (.p (.l 2) 0), .s .u, .s (.p (.l 3) 0), .s .u, .s .u, .s .u, .s .u, .s .u, .s .u, .s .u, .s .u, .s .u, .s .u, .s .u, .s .u, .s .u, .s .u,
 .s (.fn 61 [(.g n,0),(.g (n + 1),0)]), .s .u, .s .u, .s .u, .s .u, .s .u, .s .u, .s .u, .s .u, .s .u, .s .u, .s .u, .s .u, .s .u, .s .u]
noncomputable def TDs : Tab:=addT 35 fullG (addT 33 behG (noT))
theorem TDs_snd : TDs.Snd Try.prog:=addT_snd ok35 full_snd (addT_snd ok33 beh_snd ((noT_snd _)))
def findRf : DC → Option (DC × DC)
 | .rf _ _ a b => some (a,b)
 | .seq a b => (findRf a).or (findRf b)
 | .cond _ a b => (findRf a).or (findRf b)
 | .block _ c => findRf c
 | .loop c => findRf c
 | _ => none
theorem more_wk {Γ : FuncId → FSpec} {n0 : Nat} {K : Ex → St → Prop} {d : DC} {fs : List Fr} {t t' : List V} {ls ls' h h' : List Blk} (hW : Wk n0 ⟨t,ls,h⟩ ⟨t',ls',h'⟩) (hh : holds Γ n0 K (.more (.c d :: fs) t' ls' h')) : holds Γ n0 K (.more (.c d :: fs) t ls h):=by
 simp only [holds] at hh ⊢
 exact swp_weak hW hh
def rndE (K : Option Ex → U → List Blk → Prop) (ds : List Nat) (n0 : Nat) (e : Ex) (s3 : St) : Prop:=∃ s4,Wk n0 s3 s4 ∧ ob (allRw s4.ls = true) (K (stopOf e) (maskT ds s4.t,s4.ls) s4.h)
theorem rndE_mk {K : Option Ex → U → List Blk → Prop} {ds : List Nat} {n0 : Nat} {e : Ex} {s3 : St} (s4 : St) (W : Wk n0 s3 s4) (h : allRw s4.ls = true) (k : K (stopOf e) (maskT ds s4.t,s4.ls) s4.h) : rndE K ds n0 e s3:=⟨s4,W,h,k⟩
theorem rnd_rule2 {Γ : FuncId → FSpec} {G : Tab} (hG : G.ok Γ) (n j : Nat) {ps : List Nat} {asg body : DC} {args : List V} {u : U} {h : List Blk} {K : Option Ex → U → List Blk → Prop}
  (hh : holds Γ h.length (fun _ _ => False) (run G n [.c asg, .lp fun s => swp Γ s.h.length (rndE K (ps ++ (asg.dsts ++ body.dsts)) s.h.length) [.c body, .lp (rndE K (ps ++ (asg.dsts ++ body.dsts)) s.h.length .nrm), .blk j, .lp (rndE K (ps ++ (asg.dsts ++ body.dsts)) s.h.length (.ext j))] s] (bindT u.1 ps args) u.2 h)) : rndOf Γ ps asg body args u h K:=by
 have h1:=run_sound hG n _ _ _ _ hh
 simp only [swp] at h1
 obtain ⟨s1,W1,h1⟩:=h1
 unfold rndOf
 refine ⟨s1,W1,cast ?_ h1⟩
 congr 1
 funext e s
 cases e with
 | nrm =>
  simp only [swp]
  refine congrArg Exists (funext fun s' => congrArg (And _) ?_)
  congr 1
  funext e s
  cases e with
  | nrm => simp only [swp]; rfl
  | ret => rfl
  | ext id =>
   simp only [swx,swp]
   split
   ·rename_i e; subst e; rfl
   ·rfl
 | ext id => simp only [swx]
 | ret => rfl
structure Ints (B : List S) (n : Nat) : Prop where
 len : B.length = n
 kn : known B = true
 va : ∀ a b,vals a b B = true
 nm : ∀ k,B.all (fun s => !s.names k) = true
 re : ∀ ρ,B.map (S.ren ρ) = B
 be : ∀ k,B.all (S.below k) = true
theorem intsB_is : ∀ l : List Int,Ints (intsB l) l.length
 | [] => ⟨rfl,rfl,fun _ _ => rfl,fun _ => rfl,fun _ => rfl,fun _ => rfl⟩
 | x :: l => by
  obtain ⟨h1,h2,h3,h4,h5,h6⟩:=intsB_is l
  refine ⟨?_, ?_,fun a b => ?_,fun k => ?_,fun ρ => ?_,fun k => ?_⟩
  ·simp [intsB]
  ·simp only [known,intsB,List.map_cons,List.all_cons,Bool.true_and] at h2 ⊢; exact h2
  ·simp only [vals,intsB,List.map_cons,List.all_cons,S.val,Bool.true_and] at h3 ⊢; exact h3 a b
  ·simp only [intsB,List.map_cons,List.all_cons,S.names,Bool.not_false,Bool.true_and] at h4 ⊢; exact h4 k
  ·simp only [intsB,List.map_cons,S.ren] at h5 ⊢; rw [h5 ρ]
  ·simp only [intsB,List.map_cons,List.all_cons,S.below,Bool.true_and] at h6 ⊢; exact h6 k
theorem intsB_kept (ks : List Nat) : ∀ l : List Int,(intsB l).all (S.kept ks) = true
 | [] => rfl
 | x :: l => by have:=intsB_kept ks l; simp only [intsB,List.map_cons,List.all_cons,S.kept,Bool.true_and] at this ⊢; exact this
theorem intsB_app (l : List Int) (x : Int) : intsB l ++ [.i .i64 x] = intsB (l ++ [x]):=by simp [intsB]

section
variable {asg body : DC} {a n : Nat} {own s : Slot} {l : List Int} {c : Nat} {x : Int} {h : List Blk}
theorem dsc_r0 (hab : findRf df13.body = some (asg,body)) : RM (rndOf TDs.Γ [24,25] asg body) [.s (.i .i64 0), .agg slotZ.cl] (dT a n,dLS .ns (.i .i64 0) own l c) h fun p u' h' => p = some .ret ∧ u' = (dT a n,dLS .ns (.i .i64 110) own l c) ∧ h' = h:=by
 intro K' hK
 cases hab
 refine rnd_rule2 (Tab.ok_Γ _) 60 0 ?_
 obtain ⟨⟨c0,c1,c2,c3,c4,c5,c6,c7,c8,c9,c10⟩,p0,q0,r0⟩:=own
 cases l with
 | nil =>
  simp (maxSteps:=9999999) only [EV0,zx,zw,zv,zu,zq,zp,zj,zk,zg,leT,zZ,rvC,zY,zX,zW,zV,↓zU,↓zQ,reduceCtorEq,yz,yy,yY,yx,yw,yv,yu,yq,yp,yX,yj,yk,yg,yW,yV,yU,yZ,yQ,xz,TDs,dT,dLS,bindT,slotZ,capZ,Slot.cl,Cap.cl,put,fillP,sub,EVt]
  refine run_sound (Tab.ok_Γ _) 60 _ _ _ _ ?_
  simp (maxSteps:=9999999) only [EV0,zx,zw,zv,zu,zq,zp,zj,zk,zg,leT,zZ,rvC,zY,zX,zW,zV,↓zU,↓zQ,reduceCtorEq,yz,yy,yY,yx,yw,yv,yu,yq,yp,yX,yj,yk,yg,yW,yV,yU,yZ,yQ,xz,TDs,put,fillP,sub,EVt]
  exact rndE_mk ⟨dT a n,dLS .ns (.i .i64 110) ⟨⟨c0,c1,c2,c3,c4,c5,c6,c7,c8,c9,c10⟩,p0,q0,r0⟩ [] c,h⟩ (Wk.keep 4 rfl rfl (by simp (maxSteps:=9999999) only [EV0,zx,zw,zv,zu,zq,zp,zj,zk,zg,leT,zZ,rvC,zY,zX,zW,zV,↓zU,↓zQ,reduceCtorEq,yz,yy,yY,yx,yw,yv,yu,yq,yp,yX,yj,yk,yg,yW,yV,yU,yZ,yQ,xz,dT]) (by rfl) (by rfl)) rfl (hK _ _ _ ⟨rfl,rfl,rfl⟩)
 | cons y l =>
  have hb:=(intsB_is (y :: l)).be
  simp (maxSteps:=9999999) only [EV0,zx,zw,zv,zu,zq,zp,zj,zk,zg,leT,zZ,rvC,zY,zX,zW,zV,↓zU,↓zQ,reduceCtorEq,yz,yy,yY,yx,yw,yv,yu,yq,yp,yX,yj,yk,yg,yW,yV,yU,yZ,yQ,xz,TDs,dT,dLS,bindT,slotZ,capZ,Slot.cl,Cap.cl,put,fillP,sub,EVt]
  refine run_sound (Tab.ok_Γ _) 60 _ _ _ _ ?_
  simp (maxSteps:=9999999) only [EV0,zx,zw,zv,zu,zq,zp,zj,zk,zg,leT,zZ,rvC,zY,zX,zW,zV,↓zU,↓zQ,reduceCtorEq,yz,yy,yY,yx,yw,yv,yu,yq,yp,yX,yj,yk,yg,yW,yV,yU,yZ,yQ,xz,TDs,put,fillP,sub,EVt]
  exact ⟨⟨dT a n,dLS .ns (.i .i64 110) ⟨⟨c0,c1,c2,c3,c4,c5,c6,c7,c8,c9,c10⟩,p0,q0,r0⟩ (y :: l) c,h⟩,Wk.keep 5 rfl rfl (by simp (maxSteps:=9999999) only [EV0,zx,zw,zv,zu,zq,zp,zj,zk,zg,leT,zZ,rvC,zY,zX,zW,zV,↓zU,↓zQ,reduceCtorEq,yz,yy,yY,yx,yw,yv,yu,yq,yp,yX,yj,yk,yg,yW,yV,yU,yZ,yQ,xz,dT]) (by rfl) (by simp [dLS,Slot.cl,Cap.cl,S.below,R.below,hb]),rfl,hK _ _ _ ⟨rfl,rfl,rfl⟩⟩
theorem dsc_r1 (hab : findRf df13.body = some (asg,body)) (h0 : x ≠ 0) (hd : s.depth ≤ own.depth) : RM (rndOf TDs.Γ [24,25] asg body) [.s (.i .i64 x), .agg s.cl] (dT a n,dLS .ns (.i .i64 0) own l c) h fun p u' h' => p = some (.ext 0) ∧ u' = (dT a n,dLS .ns (.i .i64 0) own l c) ∧ h' = h:=by
 intro K' hK
 cases hab
 refine rnd_rule2 (Tab.ok_Γ _) 60 0 ?_
 obtain ⟨⟨c0,c1,c2,c3,c4,c5,c6,c7,c8,c9,c10⟩,p0,q0,r0⟩:=own
 obtain ⟨⟨d0,d1,d2,d3,d4,d5,d6,d7,d8,d9,d10⟩,p1,q1,r1⟩:=s
 have h0' : (x == 0) = false:=by simpa using h0
 simp only at hd
 cases l with
 | nil =>
  simp (maxSteps:=9999999) only [EV0,zx,zw,zv,zu,zq,zp,zj,zk,zg,leT,zZ,rvC,zY,zX,zW,zV,↓zU,↓zQ,reduceCtorEq,yz,yy,yY,yx,yw,yv,yu,yq,yp,yX,yj,yk,yg,yW,yV,yU,yZ,yQ,xz,TDs,dT,dLS,bindT,Slot.cl,Cap.cl,h0,h0',hd,put,fillP,sub,EVt]
  refine run_sound (Tab.ok_Γ _) 60 _ _ _ _ ?_
  simp (maxSteps:=9999999) only [EV0,zx,zw,zv,zu,zq,zp,zj,zk,zg,leT,zZ,rvC,zY,zX,zW,zV,↓zU,↓zQ,reduceCtorEq,yz,yy,yY,yx,yw,yv,yu,yq,yp,yX,yj,yk,yg,yW,yV,yU,yZ,yQ,xz,TDs,h0,h0',hd,put,fillP,sub,EVt]
  exact rndE_mk ⟨dT a n,dLS .ns (.i .i64 0) ⟨⟨c0,c1,c2,c3,c4,c5,c6,c7,c8,c9,c10⟩,p0,q0,r0⟩ [] c,h⟩ (Wk.keep 4 rfl rfl (by simp (maxSteps:=9999999) only [EV0,zx,zw,zv,zu,zq,zp,zj,zk,zg,leT,zZ,rvC,zY,zX,zW,zV,↓zU,↓zQ,reduceCtorEq,yz,yy,yY,yx,yw,yv,yu,yq,yp,yX,yj,yk,yg,yW,yV,yU,yZ,yQ,xz,dT]) (by rfl) (by rfl)) rfl (hK _ _ _ ⟨rfl,rfl,rfl⟩)
 | cons y l =>
  have hb:=(intsB_is (y :: l)).be
  simp (maxSteps:=9999999) only [EV0,zx,zw,zv,zu,zq,zp,zj,zk,zg,leT,zZ,rvC,zY,zX,zW,zV,↓zU,↓zQ,reduceCtorEq,yz,yy,yY,yx,yw,yv,yu,yq,yp,yX,yj,yk,yg,yW,yV,yU,yZ,yQ,xz,TDs,dT,dLS,bindT,Slot.cl,Cap.cl,h0,h0',hd,put,fillP,sub,EVt]
  refine run_sound (Tab.ok_Γ _) 60 _ _ _ _ ?_
  simp (maxSteps:=9999999) only [EV0,zx,zw,zv,zu,zq,zp,zj,zk,zg,leT,zZ,rvC,zY,zX,zW,zV,↓zU,↓zQ,reduceCtorEq,yz,yy,yY,yx,yw,yv,yu,yq,yp,yX,yj,yk,yg,yW,yV,yU,yZ,yQ,xz,TDs,h0,h0',hd,put,fillP,sub,EVt]
  exact ⟨⟨dT a n,dLS .ns (.i .i64 0) ⟨⟨c0,c1,c2,c3,c4,c5,c6,c7,c8,c9,c10⟩,p0,q0,r0⟩ (y :: l) c,h⟩,Wk.keep 5 rfl rfl (by simp (maxSteps:=9999999) only [EV0,zx,zw,zv,zu,zq,zp,zj,zk,zg,leT,zZ,rvC,zY,zX,zW,zV,↓zU,↓zQ,reduceCtorEq,yz,yy,yY,yx,yw,yv,yu,yq,yp,yX,yj,yk,yg,yW,yV,yU,yZ,yQ,xz,dT]) (by rfl) (by simp [dLS,Slot.cl,Cap.cl,S.below,R.below,hb]),rfl,hK _ _ _ ⟨rfl,rfl,rfl⟩⟩
theorem dsc_r2 (hab : findRf df13.body = some (asg,body)) (hc : clean h.length h = true) (h0 : x ≠ 0) (hd : ¬ s.depth ≤ own.depth) (hl : l.length ≤ 1000000000000) (han : a < h.length ∧ n < h.length ∧ n + 1 < h.length) : RM (rndOf TDs.Γ [24,25] asg body) [.s (.i .i64 x), .agg s.cl] (dT a n,dLS .ns (.i .i64 0) own l c) h fun p u' h' => p = none ∧ (∃ c',l.length + 1 ≤ c' ∧ u' = (dT a n,dLS .ns (.i .i64 0) own (l ++ [x]) c')) ∧ h' = h:=by
 intro K' hK
 cases hab
 refine rnd_rule2 (Tab.ok_Γ _) 60 0 ?_
 obtain ⟨⟨c0,c1',c2,c3,c4,c5,c6,c7,c8,c9,c10⟩,p0,q0,r0⟩:=own
 obtain ⟨⟨d0,d1,d2,d3,d4,d5,d6,d7,d8,d9,d10⟩,p1,q1,r1⟩:=s
 have h0' : (x == 0) = false:=by simpa using h0
 simp only at hd
 have hnq : h.length ≤ h.length:=Nat.le_refl _
 have hcq:=hc
 cases l with
 | nil =>
  simp (maxSteps:=9999999) only [EV0,zx,zw,zv,zu,zq,zp,zj,zk,zg,leT,zZ,rvC,zY,zX,zW,zV,↓zU,↓zQ,reduceCtorEq,yz,yy,yY,yx,yw,yv,yu,yq,yp,yX,yj,yk,yg,yW,yV,yU,yZ,yQ,xz,TDs,dT,dLS,bindT,Slot.cl,Cap.cl,h0,h0',hd,put,fillP,sub,EVt]
  refine run_sound (Tab.ok_Γ _) 60 _ _ _ _ ?_
  simp (maxSteps:=9999999) only [EV0,zx,zw,zv,zu,zq,zp,zj,zk,zg,leT,zZ,rvC,zY,zX,zW,zV,↓zU,↓zQ,reduceCtorEq,yz,yy,yY,yx,yw,yv,yu,yq,yp,yX,yj,yk,yg,yW,yV,yU,yZ,yQ,xz,TDs,h0,h0',hd,put,fillP,sub,EVt]
  intro c1 hle1
  have hw1 : (1 : Nat) ≤ 1:=Nat.le_refl _
  refine rndE_mk ⟨dT a n,dLS .ns (.i .i64 0) ⟨⟨c0,c1',c2,c3,c4,c5,c6,c7,c8,c9,c10⟩,p0,q0,r0⟩ [x] c1,h⟩ ?_ rfl (hK _ _ _ ⟨rfl,⟨c1,by simpa using hle1,rfl⟩,rfl⟩)
  simp only [dT,dLS,intsB,List.map_cons,List.map_nil,List.length_nil,Nat.zero_add,Nat.mul_one,Slot.cl,Cap.cl]
  refine Wk.sel [0,1,2,3,6] (by decide) hnq ?_ ?_ ?_ ?_ hcq (clean_pick hcq _)
  ·simp (maxSteps:=9999999) only [EV0,zx,zw,zv,zu,zq,zp,zj,zk,zg,leT,zZ,rvC,zY,zX,zW,zV,↓zU,↓zQ,reduceCtorEq,yz,yy,yY,yx,yw,yv,yu,yq,yp,yX,yj,yk,yg,yW,yV,yU,yZ,yQ,xz,List.nil_append,Blk.ren,V.ren,C.ren,S_ren,wc_ren,R.pick_g,R.pick_0,R.pick_s,List.map_append,wc_cons,wc_snoc,wc_nil,Nat.mul_one,han]
  ·simp (maxSteps:=9999999) only [EV0,zx,zw,zv,zu,zq,zp,zj,zk,zg,leT,zZ,rvC,zY,zX,zW,zV,↓zU,↓zQ,reduceCtorEq,yz,yy,yY,yx,yw,yv,yu,yq,yp,yX,yj,yk,yg,yW,yV,yU,yZ,yQ,xz,List.nil_append,Blk.ren,V.ren,C.ren,S_ren,wc_ren,R.pick_g,R.pick_0,R.pick_s,Nat.mul_one,han]
  ·simp (maxSteps:=9999999) only [EV0,zx,zw,zv,zu,zq,zp,zj,zk,zg,leT,zZ,rvC,zY,zX,zW,zV,↓zU,↓zQ,reduceCtorEq,yz,yy,yY,yx,yw,yv,yu,yq,yp,yX,yj,yk,yg,yW,yV,yU,yZ,yQ,xz,List.nil_append,app_len,nlt0,nltn,reduceLT,Nat.le_add_right,Nat.mul_one,han]
  ·simp (maxSteps:=9999999) only [EV0,zx,zw,zv,zu,zq,zp,zj,zk,zg,leT,zZ,rvC,zY,zX,zW,zV,↓zU,↓zQ,reduceCtorEq,yz,yy,yY,yx,yw,yv,yu,yq,yp,yX,yj,yk,yg,yW,yV,yU,yZ,yQ,xz,List.nil_append,app_len,nlt0,nltn,reduceLT,Nat.le_add_right,vals_cons,vals_nil,wc_val,wc_vals,Nat.mul_one,han]
 | cons y l =>
  obtain ⟨B,hB⟩ : ∃ B,intsB (y :: l) = B:=⟨_,rfl⟩
  obtain ⟨b1,b2,b3,b4,b5,b6⟩:=intsB_is (y :: l)
  rw [hB] at b1 b2 b3 b4 b5 b6
  simp (maxSteps:=9999999) only [EV0,zx,zw,zv,zu,zq,zp,zj,zk,zg,leT,zZ,rvC,zY,zX,zW,zV,↓zU,↓zQ,reduceCtorEq,yz,yy,yY,yx,yw,yv,yu,yq,yp,yX,yj,yk,yg,yW,yV,yU,yZ,yQ,xz,TDs,dT,dLS,hB,bindT,Slot.cl,Cap.cl,h0,h0',hd,put,fillP,sub,EVt]
  refine run_sound (Tab.ok_Γ _) 60 _ _ _ _ ?_
  simp (maxSteps:=9999999) only [EV0,zx,zw,zv,zu,zq,zp,zj,zk,zg,leT,zZ,rvC,zY,zX,zW,zV,↓zU,↓zQ,reduceCtorEq,yz,yy,yY,yx,yw,yv,yu,yq,yp,yX,yj,yk,yg,yW,yV,yU,yZ,yQ,xz,TDs,h0,h0',hd,b1,b2,b3,b4,put,fillP,sub,EVt]
  refine ⟨by simp only [List.length_cons] at hl; omega,fun c1 hle1 => ?_⟩
  refine rndE_mk ⟨dT a n,dLS .ns (.i .i64 0) ⟨⟨c0,c1',c2,c3,c4,c5,c6,c7,c8,c9,c10⟩,p0,q0,r0⟩ (y :: l ++ [x]) c1,h⟩ ?_ rfl (hK _ _ _ ⟨rfl,⟨c1,by simp only [List.length_cons] at hle1 ⊢; omega,rfl⟩,rfl⟩)
  have hB2 : intsB (y :: (l ++ [x])) = B ++ [.i .i64 x]:=by rw [← hB,intsB_app]; rfl
  have hl2 : (l ++ [x]).length + 1 = l.length + 1 + 1:=by simp
  simp only [dT,dLS,List.cons_append,hB2,hl2,Nat.mul_one,Slot.cl,Cap.cl]
  have hb3 : ∀ a b,B.all (S.val a b) = true:=fun u v => by have:=b3 u v; simpa only [vals] using this
  refine Wk.sel [0,1,2,3,7] (by decide) hnq ?_ ?_ ?_ ?_ hcq (clean_pick hcq _)
  ·simp (maxSteps:=9999999) only [EV0,zx,zw,zv,zu,zq,zp,zj,zk,zg,leT,zZ,rvC,zY,zX,zW,zV,↓zU,↓zQ,reduceCtorEq,yz,yy,yY,yx,yw,yv,yu,yq,yp,yX,yj,yk,yg,yW,yV,yU,yZ,yQ,xz,List.nil_append,Blk.ren,V.ren,C.ren,S_ren,wc_ren,R.pick_g,R.pick_0,R.pick_s,List.map_append,wc_cons,wc_snoc,wc_nil,Nat.mul_one,han,hb3,b5,List.map_append,List.map_cons,List.map_nil,vals,List.all_append]
  ·simp (maxSteps:=9999999) only [EV0,zx,zw,zv,zu,zq,zp,zj,zk,zg,leT,zZ,rvC,zY,zX,zW,zV,↓zU,↓zQ,reduceCtorEq,yz,yy,yY,yx,yw,yv,yu,yq,yp,yX,yj,yk,yg,yW,yV,yU,yZ,yQ,xz,List.nil_append,Blk.ren,V.ren,C.ren,S_ren,wc_ren,R.pick_g,R.pick_0,R.pick_s,Nat.mul_one,han,hb3,b5,List.map_append,List.map_cons,List.map_nil,vals,List.all_append]
  ·simp (maxSteps:=9999999) only [EV0,zx,zw,zv,zu,zq,zp,zj,zk,zg,leT,zZ,rvC,zY,zX,zW,zV,↓zU,↓zQ,reduceCtorEq,yz,yy,yY,yx,yw,yv,yu,yq,yp,yX,yj,yk,yg,yW,yV,yU,yZ,yQ,xz,List.nil_append,app_len,nlt0,nltn,reduceLT,Nat.le_add_right,Nat.mul_one,han,hb3,b5,List.map_append,List.map_cons,List.map_nil,vals,List.all_append]
  ·simp (maxSteps:=9999999) only [EV0,zx,zw,zv,zu,zq,zp,zj,zk,zg,leT,zZ,rvC,zY,zX,zW,zV,↓zU,↓zQ,reduceCtorEq,yz,yy,yY,yx,yw,yv,yu,yq,yp,yX,yj,yk,yg,yW,yV,yU,yZ,yQ,xz,List.nil_append,app_len,nlt0,nltn,reduceLT,Nat.le_add_right,vals_cons,vals_nil,wc_val,wc_vals,Nat.mul_one,han,hb3,b5,List.map_append,List.map_cons,List.map_nil,vals,List.all_append]
end

theorem bhH_clean {h : List Blk} {a b : Nat} {m0 : M} (H : IsMem h a b m0) (hc : clean h.length h = true) (hb : b < h.length) (m : M) (x : Int) : clean (bhH h a b m x).length (bhH h a b m x) = true:=by
 have ha : a < h.length + 2:=bh_lt H
 rw [bhH_len]
 unfold bhH
 refine clean_app (setM_clean H hc hb) (by omega) ?_
 simp [clean,vals,S.val,R.val,ha]
theorem dsc_bw {asg body : DC} {a b : Nat} {own : Slot} {h : List Blk} {m0 : M} {K : Option Ex → U → List Blk → Prop} (hab : findRf df13.body = some (asg,body)) (H : IsMem h a b m0) (hc : clean h.length h = true) (hb : b < h.length) :
  ∀ (k : Nat) (x : Int) (m : M) (l : List Int) (c : Nat),l.length + k ≤ 1000000000000 → l.length ≤ c →
   (∀ l' m2 p c' x',dsW own.depth k x m l = (some l',m2) → l'.length ≤ c' → (p = none ∨ p = some (.ext 0)) → K p (dT a h.length,dLS .ns (.i .i64 0) own l' c') (bhH h a b m2 x')) →
   (∀ m2 l' c' x',dsW own.depth k x m l = (none,m2) → K (some .ret) (dT a h.length,dLS .ns (.i .i64 110) own l' c') (bhH h a b m2 x')) →
   bw (bhH h a b) (rndOf TDs.Γ [24,25] asg body) K k x m (dT a h.length,dLS .ns (.i .i64 0) own l c)
 | 0,x,m,l,c,_,hlc,k1,k2 => by
  simp only [dsW,bw] at k1 k2 ⊢
  by_cases h0 : x = 0
  ·rw [if_pos h0] at k1 ⊢
   exact k1 _ _ _ _ _ rfl hlc (.inl rfl)
  ·rw [if_neg h0] at k2 ⊢
   intro K' hK
   refine dsc_r0 hab _ fun p u' h' hh => ?_
   obtain ⟨rfl,rfl,rfl⟩:=hh
   exact hK _ _ _ (k2 _ _ _ _ rfl)
 | k + 1,x,m,l,c,hl,hlc,k1,k2 => by
  simp only [dsW,bw] at k1 k2 ⊢
  by_cases h0 : x = 0
  ·rw [if_pos h0] at k1 ⊢
   exact k1 _ _ _ _ _ rfl hlc (.inl rfl)
  ·rw [if_neg h0] at k1 k2 ⊢
   by_cases hf : m.fE x = 0
   ·rw [if_pos hf] at k1 k2 ⊢
    by_cases hd : (m.gV x).depth ≤ own.depth
    ·rw [if_pos hd] at k1 k2
     intro K' hK
     refine dsc_r1 hab h0 hd _ fun p u' h' hh => ?_
     obtain ⟨rfl,rfl,rfl⟩:=hh
     exact hK _ _ _ ⟨rfl,k1 _ _ _ _ _ rfl hlc (.inr rfl)⟩
    ·rw [if_neg hd] at k1 k2
     intro K' hK
     have hln:=bhH_len (h:=h) (a:=a) (b:=b) (m.gX x) x
     have ha:=H.lta
     refine dsc_r2 hab (bhH_clean H hc hb _ _) h0 hd (by omega) ⟨by omega,by omega,by omega⟩ _ fun p u' h' hh => ?_
     obtain ⟨rfl,⟨c',hc',rfl⟩,rfl⟩:=hh
     refine hK _ _ _ ⟨rfl, ?_⟩
     exact dsc_bw hab H hc hb k _ _ _ _ (by simp only [List.length_append,List.length_cons,List.length_nil]; omega) (by simp only [List.length_append,List.length_cons,List.length_nil]; omega) k1 k2
   ·rw [if_neg hf] at k1 k2 ⊢
    intro K' hK
    refine dsc_r0 hab _ fun p u' h' hh => ?_
    obtain ⟨rfl,rfl,rfl⟩:=hh
    exact hK _ _ _ (k2 _ _ _ _ rfl)
theorem dsc_snd : Snd Try.prog 13 (FSpec.of dscG):=(fwp_sound (Tab.snd_Γ TDs_snd) mixed Try.func13 dc13).weaken fun args h K hc hS => by
 refine fwp_runW (Tab.ok_Γ _) 200 ?_
 obtain ⟨a,b,m,rest,rfl,H,hS1⟩:=memF_spec (f:=dscM) hS
 clear hS
 have hS:=hS1
 clear hS1
 unfold dscM at hS
 split at hS
 ·rename_i x
  simp only [spec_br] at hS
  obtain ⟨⟨⟨c0,c1,c2,c3,c4,c5,c6,c7,c8,c9,c10⟩,p0,q0,r0⟩,hs⟩ : ∃ s,m.gV x = s:=⟨_,rfl⟩
  by_cases hf : m.fE x = 0
  ·have hS:=hS.1 (by simpa using hf)
   rw [hs] at hS
   simp only at hS
   simp (maxSteps:=9999999) only [EV0,zx,zw,zv,zu,zq,zp,zj,zk,zg,leT,zZ,rvC,zY,zX,zW,zV,↓zU,↓zQ,reduceCtorEq,yz,yy,yY,yx,yw,yv,yu,yq,yp,yX,yj,yk,yg,yW,yV,yU,yZ,yQ,xz,df13,TDs,fullG,memF_eq H,memF_set H,fullM,hs,hf,behG,setM_len,Slot.cl,Cap.cl,put,fillP,sub,EVt]
   refine more_wk (t':=dT a h.length) (ls':=dLS .ns (.i .i64 0) ⟨⟨c0,c1,c2,c3,c4,c5,c6,c7,c8,c9,c10⟩,p0,q0,r0⟩ [] 0) (h':=bhH h a b (m.gX x) q0) (Wk.same (by rfl) (by rfl) (by simp (maxSteps:=9999999) only [EV0,zx,zw,zv,zu,zq,zp,zj,zk,zg,leT,zZ,rvC,zY,zX,zW,zV,↓zU,↓zQ,reduceCtorEq,yz,yy,yY,yx,yw,yv,yu,yq,yp,yX,yj,yk,yg,yW,yV,yU,yZ,yQ,xz,dT])) ?_
   refine rf_rule (cs:=[(.g h.length,0),(.g (h.length + 1),0)]) rfl rfl rfl rfl ?_
   refine behind1_is (m:=m.gX x) H ?_
   have hl0 : (m.gX x).w.length / 4 = m.w.length / 4:=by unfold M.gX; split <;> rfl
   rw [hl0]
   have hml:=m.l
   obtain ⟨N,hN⟩ : ∃ N,m.w.length / 4 = N:=⟨_,rfl⟩
   rw [hN] at hS ⊢
   have key : ∀ l' m2 c' x',dsW r0 N q0 (m.gX x) [] = (some l',m2) → l'.length ≤ c' → swp TDs.Γ h.length (fin h.length [.c 4 none, .c 5 none] K) [.c (.seq (.reg [⟨some 37, .ld (.t 8) none,none⟩,⟨none, .st (.t 4) (.t 37) 1,none⟩,⟨none, .st (.t 5) (.k (.s (.i .i64 0))) 1,none⟩]) .ret)] ⟨dT a h.length,dLS .ns (.i .i64 0) ⟨⟨c0,c1,c2,c3,c4,c5,c6,c7,c8,c9,c10⟩,p0,q0,r0⟩ l' c',bhH h a b m2 x'⟩:=fun l' m2 c' x' e hlc => by
    rw [e] at hS
    refine run_sound (Tab.ok_Γ _) 60 _ _ _ _ ?_
    have hcb:=bhH_clean H hc H.ltb m2 x'
    have hcm : clean h.length (setM h a b m2) = true:=setM_clean H hc H.ltb
    have hnb : h.length ≤ (bhH h a b m2 x').length:=by rw [bhH_len]; omega
    have hlm : (setM h a b m2).length = h.length:=setM_len
    cases l' with
    | nil =>
     simp only [dscR,spec_ok] at hS
     simp (maxSteps:=9999999) only [EV0,zx,zw,zv,zu,zq,zp,zj,zk,zg,leT,zZ,rvC,zY,zX,zW,zV,↓zU,↓zQ,reduceCtorEq,yz,yy,yY,yx,yw,yv,yu,yq,yp,yX,yj,yk,yg,yW,yV,yU,yZ,yQ,xz,dT,dLS,Slot.cl,Cap.cl,put,fillP,sub,EVt]
     refine fin_of (v:=.tup [.s .ns, .s (.i .i64 0)]) (ls:=[]) (h:=setM h a b m2) rfl (.trans (Wk.keep 0 (ls:=[]) (t':=[.tup [.s .ns, .s (.i .i64 0)]]) rfl rfl (by simp (maxSteps:=9999999) only [EV0,zx,zw,zv,zu,zq,zp,zj,zk,zg,leT,zZ,rvC,zY,zX,zW,zV,↓zU,↓zQ,reduceCtorEq,yz,yy,yY,yx,yw,yv,yu,yq,yp,yX,yj,yk,yg,yW,yV,yU,yZ,yQ,xz]) (by rfl) (by rfl)) (Wk.keepH h.length (by unfold bhH; rw [← hlm,List.take_left']; rfl) (Nat.le_of_eq hlm.symm) (by simp (maxSteps:=9999999) only [EV0,zx,zw,zv,zu,zq,zp,zj,zk,zg,leT,zZ,rvC,zY,zX,zW,zV,↓zU,↓zQ,reduceCtorEq,yz,yy,yY,yx,yw,yv,yu,yq,yp,yX,yj,yk,yg,yW,yV,yU,yZ,yQ,xz]) (by rfl) (by rw [hlm]; exact hcm) (by rfl))) ?_
     simp (maxSteps:=9999999) only [EV0,zx,zw,zv,zu,zq,zp,zj,zk,zg,leT,zZ,rvC,zY,zX,zW,zV,↓zU,↓zQ,reduceCtorEq,yz,yy,yY,yx,yw,yv,yu,yq,yp,yX,yj,yk,yg,yW,yV,yU,yZ,yQ,xz]
     exact hS
    | cons y l' =>
     simp only [dscR,spec_all] at hS
     obtain ⟨B,hB⟩ : ∃ B,intsB (y :: l') = B:=⟨_,rfl⟩
     obtain ⟨b1,b2,b3,b4,b5,b6⟩:=intsB_is (y :: l')
     rw [hB] at b1 b2 b3 b4 b5 b6 hS
     have hb3 : ∀ a b,B.all (S.val a b) = true:=fun u v => by have:=b3 u v; simpa only [vals] using this
     have hcq:=hcb
     have hnq:=hnb
     simp (maxSteps:=9999999) only [EV0,zx,zw,zv,zu,zq,zp,zj,zk,zg,leT,zZ,rvC,zY,zX,zW,zV,↓zU,↓zQ,reduceCtorEq,yz,yy,yY,yx,yw,yv,yu,yq,yp,yX,yj,yk,yg,yW,yV,yU,yZ,yQ,xz,dT,dLS,hB,Slot.cl,Cap.cl,put,fillP,sub,EVt]
     refine fin_of (v:=.tup [.s (.sl (.l 0) 0 (l'.length + 1) c'), .s (.i .i64 0)]) (ls:=[⟨.rw,B,c'⟩]) (h:=setM h a b m2) rfl (.trans (s1:=⟨[.tup [.s (.sl (.l 0) 0 (l'.length + 1) c'), .s (.i .i64 0)]],[⟨.rw,B,c'⟩],bhH h a b m2 x'⟩) ?_ (Wk.keepH h.length (by unfold bhH; rw [← hlm,List.take_left']; rfl) (Nat.le_of_eq hlm.symm) (by simp (maxSteps:=9999999) only [EV0,zx,zw,zv,zu,zq,zp,zj,zk,zg,leT,zZ,rvC,zY,zX,zW,zV,↓zU,↓zQ,reduceCtorEq,yz,yy,yY,yx,yw,yv,yu,yq,yp,yX,yj,yk,yg,yW,yV,yU,yZ,yQ,xz]) (by rfl) (by rw [hlm]; exact hcm) (by simp (maxSteps:=9999999) only [EV0,zx,zw,zv,zu,zq,zp,zj,zk,zg,leT,zZ,rvC,zY,zX,zW,zV,↓zU,↓zQ,reduceCtorEq,yz,yy,yY,yx,yw,yv,yu,yq,yp,yX,yj,yk,yg,yW,yV,yU,yZ,yQ,xz,hb3]))) ?_
     ·refine Wk.sel [4] (by decide) hnq ?_ ?_ ?_ ?_ hcq (clean_pick hcq _)
      ·simp (maxSteps:=9999999) only [EV0,zx,zw,zv,zu,zq,zp,zj,zk,zg,leT,zZ,rvC,zY,zX,zW,zV,↓zU,↓zQ,reduceCtorEq,yz,yy,yY,yx,yw,yv,yu,yq,yp,yX,yj,yk,yg,yW,yV,yU,yZ,yQ,xz,List.nil_append,Blk.ren,V.ren,C.ren,S_ren,wc_ren,R.pick_g,R.pick_0,R.pick_s,List.map_append,wc_cons,wc_snoc,wc_nil,hb3,b5,result]
      ·simp (maxSteps:=9999999) only [EV0,zx,zw,zv,zu,zq,zp,zj,zk,zg,leT,zZ,rvC,zY,zX,zW,zV,↓zU,↓zQ,reduceCtorEq,yz,yy,yY,yx,yw,yv,yu,yq,yp,yX,yj,yk,yg,yW,yV,yU,yZ,yQ,xz,List.nil_append,Blk.ren,V.ren,C.ren,S_ren,wc_ren,R.pick_g,R.pick_0,R.pick_s,hb3,b5,result]
      ·simp (maxSteps:=9999999) only [EV0,zx,zw,zv,zu,zq,zp,zj,zk,zg,leT,zZ,rvC,zY,zX,zW,zV,↓zU,↓zQ,reduceCtorEq,yz,yy,yY,yx,yw,yv,yu,yq,yp,yX,yj,yk,yg,yW,yV,yU,yZ,yQ,xz,List.nil_append,app_len,nlt0,nltn,reduceLT,Nat.le_add_right,hb3,b5,result]
      ·simp (maxSteps:=9999999) only [EV0,zx,zw,zv,zu,zq,zp,zj,zk,zg,leT,zZ,rvC,zY,zX,zW,zV,↓zU,↓zQ,reduceCtorEq,yz,yy,yY,yx,yw,yv,yu,yq,yp,yX,yj,yk,yg,yW,yV,yU,yZ,yQ,xz,List.nil_append,app_len,nlt0,nltn,reduceLT,Nat.le_add_right,vals_cons,vals_nil,wc_val,wc_vals,hb3,b5,result]
     ·simp (maxSteps:=9999999) only [EV0,zx,zw,zv,zu,zq,zp,zj,zk,zg,leT,zZ,rvC,zY,zX,zW,zV,↓zU,↓zQ,reduceCtorEq,yz,yy,yY,yx,yw,yv,yu,yq,yp,yX,yj,yk,yg,yW,yV,yU,yZ,yQ,xz]
      refine ⟨[0],by simp,rfl, ?_⟩
      simp only [getAll,List.getElem?_cons_zero]
      refine ⟨?_, ?_⟩
      ·have hk:=intsB_kept [0] (y :: l')
       rw [hB] at hk
       simp only [List.all_cons,List.all_nil,hk,decide_true,Bool.and_true]
      ·refine cast ?_ (hS c' (by simpa using hlc))
       simp only [V.ren,C.ren,S.ren,R.prom,List.map_cons,List.map_nil,Blk.ren,b5,spec_ok,hlm,List.idxOf,List.findIdx,List.findIdx.go,beq_self_eq_true,cond_true,Nat.add_zero,setM_len]
   refine dsc_bw rfl H hc H.ltb _ _ _ _ 0 (by simp only [List.length_nil]; omega) (Nat.le_refl _) ?_ ?_
   ·intro l' m2 p c' x' e hlc hp
    rcases hp with rfl | rfl
    ·simp only [Option.getD_none]
     unfold swp
     exact key _ _ _ _ e hlc
    ·simp only [Option.getD_some,swx,if_true]
     exact key _ _ _ _ e hlc
   ·intro m2 l' c' x' e
    simp only [Option.getD_some]
    rw [e] at hS
    simp only [dscR,spec_ok] at hS
    have hcm : clean h.length (setM h a b m2) = true:=setM_clean H hc H.ltb
    have hlm : (setM h a b m2).length = h.length:=setM_len
    cases l'
    all_goals
     refine fin_of (v:=.tup [.s .ns, .s (.i .i64 110)]) (ls:=[]) (h:=setM h a b m2) rfl (.trans (Wk.keep 0 (ls:=[]) (t':=[.tup [.s .ns, .s (.i .i64 110)]]) rfl rfl (by simp (maxSteps:=9999999) only [EV0,zx,zw,zv,zu,zq,zp,zj,zk,zg,leT,zZ,rvC,zY,zX,zW,zV,↓zU,↓zQ,reduceCtorEq,yz,yy,yY,yx,yw,yv,yu,yq,yp,yX,yj,yk,yg,yW,yV,yU,yZ,yQ,xz]) (by rfl) (by rfl)) (Wk.keepH h.length (by unfold bhH; rw [← hlm,List.take_left']; rfl) (Nat.le_of_eq hlm.symm) (by simp (maxSteps:=9999999) only [EV0,zx,zw,zv,zu,zq,zp,zj,zk,zg,leT,zZ,rvC,zY,zX,zW,zV,↓zU,↓zQ,reduceCtorEq,yz,yy,yY,yx,yw,yv,yu,yq,yp,yX,yj,yk,yg,yW,yV,yU,yZ,yQ,xz]) (by rfl) (by rw [hlm]; exact hcm) (by rfl))) ?_
     simp (maxSteps:=9999999) only [EV0,zx,zw,zv,zu,zq,zp,zj,zk,zg,leT,zZ,rvC,zY,zX,zW,zV,↓zU,↓zQ,reduceCtorEq,yz,yy,yY,yx,yw,yv,yu,yq,yp,yX,yj,yk,yg,yW,yV,yU,yZ,yQ,xz]
     exact hS
  ·have hS:=hS.2 (by simpa using hf)
   have hf' : (m.fE x == 0) = false:=by simpa using hf
   simp only [spec_ok] at hS
   simp (maxSteps:=9999999) only [EV0,zx,zw,zv,zu,zq,zp,zj,zk,zg,leT,zZ,rvC,zY,zX,zW,zV,↓zU,↓zQ,reduceCtorEq,yz,yy,yY,yx,yw,yv,yu,yq,yp,yX,yj,yk,yg,yW,yV,yU,yZ,yQ,xz,df13,TDs,fullG,memF_eq H,memF_set H,fullM,hs,hf,hf',bne,Slot.cl,Cap.cl,put,fillP,sub,EVt]
   refine fin_of (v:=.tup [.s .ns, .s (.i .i64 (m.fE x))]) (ls:=[]) (h:=setM h a b (m.gX x)) rfl (Wk.keep 0 rfl rfl (by simp (maxSteps:=9999999) only [EV0,zx,zw,zv,zu,zq,zp,zj,zk,zg,leT,zZ,rvC,zY,zX,zW,zV,↓zU,↓zQ,reduceCtorEq,yz,yy,yY,yx,yw,yv,yu,yq,yp,yX,yj,yk,yg,yW,yV,yU,yZ,yQ,xz]) (by rfl) (by rfl)) ?_
   simp (maxSteps:=9999999) only [EV0,zx,zw,zv,zu,zq,zp,zj,zk,zg,leT,zZ,rvC,zY,zX,zW,zV,↓zU,↓zQ,reduceCtorEq,yz,yy,yY,yx,yw,yv,yu,yq,yp,yX,yj,yk,yg,yW,yV,yU,yZ,yQ,xz]
   exact hS
 ·exact hS.elim
end Go.Proofs.Ytcdfofeolgbnbaa

