/- Package cdt: behind: the slots from one on,by their links: what its rounds are. -/
import Derived.Test.YtcdfofeolgbnbaaGreatZ13
import Derived.Test.YtcdfofeolgbnbaaGreatZ21
/- Package cdt: turn,join. -/
namespace Go.Proofs.YtcdfofeolgbnbaaGreat
open Go.D
open Nat (reduceAdd reducePow reduceMul reduceSub reduceLeDiff reduceLT reduceEqDiff)
open Int (reduceNeg reduceLE reduceEq reduceNe reduceToNat)
open Go.D renaming istep → zy,pickR → zx,bin1R → zw,un1R → zv,eqS → zu,eq1 → zq,cmpS → zp,cmp1 → zj,isNil → zk,shows → zg,result → zZ,q_cond_t → zV,q_cond_f → zU
open List renaming set → zY,replicate → zX
open Option renaming map → zW
open Nat renaming reduceAdd → zQ,reducePow → yz,reduceMul → yy,reduceSub → yx,reduceLeDiff → yw,reduceLT → yv,reduceEqDiff → yu
open Int renaming reduceNeg → yq,reduceLE → yj,reduceEq → yk,reduceNe → yg,reduceToNat → yZ,reducePow → yY,reduceLT → yX,reduceAdd → yW,reduceSub → yV,reduceMul → yU,reduceBEq → yQ,reduceBNe → xz
set_option linter.all false
set_option maxRecDepth 100000
set_option maxHeartbeats 4000000

def M.turnX (m : M) (a : Int) (g : Slot → Slot) : M:=if a = 0 then m else if m.fE a = 0 then (m.gX a).pX a (g (m.gV a)) else m.gX a
def turnM (b : Nat) (m : M) (st : M → List Blk) : List V → Res
 | [.s (.i .i64 a), .s (.fn f cs)] => match chg (st m) f cs with
  | some g => .ok (.tup []) [] (st (m.turnX a g))
  | none => .bad
 | _ => .bad
noncomputable def turnG:=memF turnM
noncomputable def TTn : Tab:=addT 74 fullG (addT 79 put2G (addT 176 jn1G (addT 177 jn2G (addT 77 depG (addT 78 depG (addT 81 rm3G (addT 82 rm4G (noT))))))))
theorem TTn_snd : TTn.Snd Tryz.prog:=addT_snd ok74 full_snd (addT_snd ok79 put2_snd (addT_snd ok176 jn1_snd (addT_snd ok177 jn2_snd (addT_snd ok77 dep1_snd (addT_snd ok78 dep2_snd (addT_snd ok81 rm3_snd (addT_snd ok82 rm4_snd ((noT_snd _)))))))))
theorem turn_snd : Snd Tryz.prog 76 (FSpec.of turnG):=snd_run TTn_snd mixed Tryz.func76 dc76 200 fun args h K hc hS => by
 obtain ⟨a,b,m,rest,rfl,H,hS1⟩:=memF_spec hS
 clear hS
 have hS:=hS1
 clear hS1
 unfold turnM at hS
 split at hS
 ·rename_i x f cs
  simp only [setM_self H] at hS
  split at hS
  ·rename_i g hg
   simp only [spec_ok] at hS
   have hcm : ∀ m',clean (setM h a b m').length (setM h a b m') = true:=fun m' => by rw [setM_len]; exact setM_clean H hc H.ltb
   have hcm' : ∀ m',clean h.length (setM h a b m') = true:=fun m' => setM_clean H hc H.ltb
   by_cases c0 : x = 0
   ·simp only [M.turnX,c0,if_true,setM_self H] at hS
    simp (maxSteps:=9999999) only [EV0,zy,zx,zw,zv,zu,zq,zp,zj,zk,leT,zg,rvC,zZ,zY,zX,zW,↓zV,↓zU,reduceCtorEq,zQ,yz,yY,yy,yx,yw,yv,yu,yq,yX,yj,yk,yg,yW,yV,yU,yZ,yQ,xz,df76,c0]
    exact hS
   by_cases c1 : m.fE x = 0
   ·simp only [M.turnX,c0,c1,if_false,if_true] at hS
    obtain ⟨s,hs⟩ : ∃ s,m.gV x = s:=⟨_,rfl⟩
    rw [hs] at hS
    have hs1 : ∀ m',slotAt (setM h a b m' ++ [⟨.rw,s.cl,14⟩]) h.length = some s:=fun m' => slotAt_eq (by rw [List.getElem?_append_right (by rw [setM_len]; omega),setM_len,Nat.sub_self]; rfl)
    have hst : ∀ m' B B',(setM h a b m' ++ [B]).set h.length B' = setM h a b m' ++ [B']:=fun m' B B' => by rw [List.set_append_right _ _ (by rw [setM_len]; omega),setM_len,Nat.sub_self]; rfl
    simp only [Slot.cl] at hs1
    unfold chg at hg
    split at hg
    ·split at hg
     ·rename_i hf
      cases hg
      rcases hf with rfl | rfl
      all_goals (simp (maxSteps:=9999999) only [EV0,zy,zx,zw,zv,zu,zq,zp,zj,zk,leT,zg,rvC,zZ,zY,zX,zW,↓zV,↓zU,reduceCtorEq,zQ,yz,yY,yy,yx,yw,yv,yu,yq,yX,yj,yk,yg,yW,yV,yU,yZ,yQ,xz,df76,TTn,fullG,memF_eq H,memF_set H,setM_fun H,fullM,put2G,put2M,slotF,slot_eta,cap_eta,Slot.cl,c0,c1,hs,depG,hs1,hst,R.lend,R.unlend,S_ren,C.ren,V.ren,Blk.ren,take_app,drop_app,Nat.not_lt_zero,Nat.lt_irrefl,Nat.add_sub_cancel_left,Nat.not_lt,Nat.le_add_right,setM_len,hcm,hcm',put,fillP,sub,EVt])
      all_goals exact hS
     ·cases hg
    ·rename_i k
     have hlt : ∀ {B : Blk},h[k]? = some B → k < h.length:=fun e => (List.getElem?_eq_some_iff.1 e).1
     split at hg
     ·rename_i hf
      subst hf
      split at hg
      ·rename_i v hv
       cases hg
       obtain ⟨room,e2⟩:=cellAt_some hv
       have hv1 : ∀ m' B,cellAt (setM h a b m' ++ [B]) k = some v:=fun m' B => cellAt_eq (by rw [List.getElem?_append_left (by rw [setM_len]; exact hlt e2)]; exact cell_setM H e2 m')
       simp (maxSteps:=9999999) only [EV0,zy,zx,zw,zv,zu,zq,zp,zj,zk,leT,zg,rvC,zZ,zY,zX,zW,↓zV,↓zU,reduceCtorEq,zQ,yz,yY,yy,yx,yw,yv,yu,yq,yX,yj,yk,yg,yW,yV,yU,yZ,yQ,xz,df76,TTn,fullG,memF_eq H,memF_set H,setM_fun H,fullM,put2G,put2M,slotF,slot_eta,cap_eta,Slot.cl,c0,c1,hs,jn1G,hs1,hst,hv1,R.lend,R.unlend,S_ren,C.ren,V.ren,Blk.ren,take_app,drop_app,Nat.not_lt_zero,Nat.lt_irrefl,Nat.add_sub_cancel_left,Nat.not_lt,Nat.le_add_right,setM_len,hcm,hcm',put,fillP,sub,EVt]
       exact hS
      ·cases hg
     split at hg
     ·rename_i hf
      subst hf
      split at hg
      ·rename_i v hv
       cases hg
       obtain ⟨room,e2⟩:=cellAt_some hv
       have hv1 : ∀ m' B,cellAt (setM h a b m' ++ [B]) k = some v:=fun m' B => cellAt_eq (by rw [List.getElem?_append_left (by rw [setM_len]; exact hlt e2)]; exact cell_setM H e2 m')
       simp (maxSteps:=9999999) only [EV0,zy,zx,zw,zv,zu,zq,zp,zj,zk,leT,zg,rvC,zZ,zY,zX,zW,↓zV,↓zU,reduceCtorEq,zQ,yz,yY,yy,yx,yw,yv,yu,yq,yX,yj,yk,yg,yW,yV,yU,yZ,yQ,xz,df76,TTn,fullG,memF_eq H,memF_set H,setM_fun H,fullM,put2G,put2M,slotF,slot_eta,cap_eta,Slot.cl,c0,c1,hs,jn2G,hs1,hst,hv1,R.lend,R.unlend,S_ren,C.ren,V.ren,Blk.ren,take_app,drop_app,Nat.not_lt_zero,Nat.lt_irrefl,Nat.add_sub_cancel_left,Nat.not_lt,Nat.le_add_right,setM_len,hcm,hcm',put,fillP,sub,EVt]
       exact hS
      ·cases hg
     split at hg
     ·rename_i hf
      subst hf
      split at hg
      ·rename_i v hv
       cases hg
       have e2:=slotAt_some hv
       have hv1 : ∀ m' B,slotAt (setM h a b m' ++ [B]) k = some v:=fun m' B => slotAt_eq (by rw [List.getElem?_append_left (by rw [setM_len]; exact hlt e2)]; exact slot_setM H e2 m')
       simp (maxSteps:=9999999) only [EV0,zy,zx,zw,zv,zu,zq,zp,zj,zk,leT,zg,rvC,zZ,zY,zX,zW,↓zV,↓zU,reduceCtorEq,zQ,yz,yY,yy,yx,yw,yv,yu,yq,yX,yj,yk,yg,yW,yV,yU,yZ,yQ,xz,df76,TTn,fullG,memF_eq H,memF_set H,setM_fun H,fullM,put2G,put2M,slotF,slot_eta,cap_eta,Slot.cl,c0,c1,hs,rm3G,hs1,hst,hv1,R.lend,R.unlend,S_ren,C.ren,V.ren,Blk.ren,take_app,drop_app,Nat.not_lt_zero,Nat.lt_irrefl,Nat.add_sub_cancel_left,Nat.not_lt,Nat.le_add_right,setM_len,hcm,hcm',put,fillP,sub,EVt]
       exact hS
      ·cases hg
     split at hg
     ·rename_i hf
      subst hf
      split at hg
      ·rename_i v hv
       cases hg
       have e2:=slotAt_some hv
       have hv1 : ∀ m' B,slotAt (setM h a b m' ++ [B]) k = some v:=fun m' B => slotAt_eq (by rw [List.getElem?_append_left (by rw [setM_len]; exact hlt e2)]; exact slot_setM H e2 m')
       simp (maxSteps:=9999999) only [EV0,zy,zx,zw,zv,zu,zq,zp,zj,zk,leT,zg,rvC,zZ,zY,zX,zW,↓zV,↓zU,reduceCtorEq,zQ,yz,yY,yy,yx,yw,yv,yu,yq,yX,yj,yk,yg,yW,yV,yU,yZ,yQ,xz,df76,TTn,fullG,memF_eq H,memF_set H,setM_fun H,fullM,put2G,put2M,slotF,slot_eta,cap_eta,Slot.cl,c0,c1,hs,rm4G,hs1,hst,hv1,R.lend,R.unlend,S_ren,C.ren,V.ren,Blk.ren,take_app,drop_app,Nat.not_lt_zero,Nat.lt_irrefl,Nat.add_sub_cancel_left,Nat.not_lt,Nat.le_add_right,setM_len,hcm,hcm',put,fillP,sub,EVt]
       exact hS
      ·cases hg
     ·cases hg
    ·cases hg
   ·simp only [M.turnX,c0,c1,if_false] at hS
    simp (maxSteps:=9999999) only [EV0,zy,zx,zw,zv,zu,zq,zp,zj,zk,leT,zg,rvC,zZ,zY,zX,zW,↓zV,↓zU,reduceCtorEq,zQ,yz,yY,yy,yx,yw,yv,yu,yq,yX,yj,yk,yg,yW,yV,yU,yZ,yQ,xz,df76,TTn,fullG,memF_eq H,fullM,Slot.cl,c0,c1,put,fillP,sub,EVt]
    exact hS
  ·exact hS.elim
 ·exact hS.elim

def M.joinX (m : M) (p a n : Int) : M:=((if p = 0 then m.sfX a else m).turnX p fun s => ⟨s.cap,s.prev,a,s.depth⟩).turnX n fun s => ⟨s.cap,a,s.next,s.depth⟩
def joinM (b : Nat) (m : M) (st : M → List Blk) : List V → Res
 | [.s (.i .i64 p), .s (.i .i64 a), .s (.i .i64 n)] => .ok (.tup []) [] (st (m.joinX p a n))
 | _ => .bad
noncomputable def joinG:=memF joinM
noncomputable def TJn : Tab:=addT 76 turnG (addT 80 setFirstG (noT))
theorem TJn_snd : TJn.Snd Tryz.prog:=addT_snd ok76 turn_snd (addT_snd ok80 setFirst_snd ((noT_snd _)))
theorem join_snd : Snd Tryz.prog 119 (FSpec.of joinG):=snd_run TJn_snd mixed Tryz.func119 dc119 200 fun args h K hc hS => by
 obtain ⟨a,b,m,rest,rfl,H,hS1⟩:=memF_spec hS
 clear hS
 have hS:=hS1
 clear hS1
 unfold joinM at hS
 split at hS
 ·rename_i p x n
  simp only [spec_ok,M.joinX] at hS
  have hcm : ∀ m',clean h.length (setM h a b m') = true:=fun m' => setM_clean H hc H.ltb
  have hcl : ∀ m',cellAt (setM h a b m' ++ [⟨.rw,[.i .i64 x],1⟩]) h.length = some x:=fun m' => cellAt_eq (room:=1) (by rw [List.getElem?_append_right (by rw [setM_len]; omega),setM_len,Nat.sub_self]; rfl)
  have t1 : ∀ m' q,turnG [.s (.p (.g a) 0), .s (.i .i64 q), .s (.fn 176 [(.g h.length,0)])] (setM h a b m' ++ [⟨.rw,[.i .i64 x],1⟩]) = .ok (.tup []) [] (setM h a b (m'.turnX q fun s => ⟨s.cap,s.prev,x,s.depth⟩) ++ [⟨.rw,[.i .i64 x],1⟩]):=fun m' q => by
   unfold turnG
   rw [memF_app H]
   simp only [turnM,chg,if_true,hcl]
  have t2 : ∀ m' q,turnG [.s (.p (.g a) 0), .s (.i .i64 q), .s (.fn 177 [(.g h.length,0)])] (setM h a b m' ++ [⟨.rw,[.i .i64 x],1⟩]) = .ok (.tup []) [] (setM h a b (m'.turnX q fun s => ⟨s.cap,x,s.next,s.depth⟩) ++ [⟨.rw,[.i .i64 x],1⟩]):=fun m' q => by
   unfold turnG
   rw [memF_app H]
   simp only [turnM,chg,if_true,hcl,reduceEqDiff,if_false]
  have t0 : ∀ q,turnG [.s (.p (.g a) 0), .s (.i .i64 q), .s (.fn 176 [(.g h.length,0)])] (h ++ [⟨.rw,[.i .i64 x],1⟩]) = .ok (.tup []) [] (setM h a b (m.turnX q fun s => ⟨s.cap,s.prev,x,s.depth⟩) ++ [⟨.rw,[.i .i64 x],1⟩]):=fun q => by
   have:=t1 m q
   rw [setM_self H] at this
   exact this
  by_cases c0 : p = 0
  ·simp only [c0,if_true] at hS
   simp (maxSteps:=9999999) only [EV0,zy,zx,zw,zv,zu,zq,zp,zj,zk,leT,zg,rvC,zZ,zY,zX,zW,↓zV,↓zU,reduceCtorEq,zQ,yz,yY,yy,yx,yw,yv,yu,yq,yX,yj,yk,yg,yW,yV,yU,yZ,yQ,xz,df119,TJn,setFirstG,memF_eq H,setFirstM,t1,t2,t0,R.lend,R.unlend,S_ren,C.ren,V.ren,Blk.ren,take_app,drop_app,Nat.not_lt_zero,Nat.lt_irrefl,Nat.add_sub_cancel_left,Nat.not_lt,Nat.le_add_right,setM_len,hcm,hc,c0]
   exact hS
  ·simp only [c0,if_false] at hS
   simp (maxSteps:=9999999) only [EV0,zy,zx,zw,zv,zu,zq,zp,zj,zk,leT,zg,rvC,zZ,zY,zX,zW,↓zV,↓zU,reduceCtorEq,zQ,yz,yY,yy,yx,yw,yv,yu,yq,yX,yj,yk,yg,yW,yV,yU,yZ,yQ,xz,df119,TJn,setFirstG,memF_eq H,setFirstM,t1,t2,t0,R.lend,R.unlend,S_ren,C.ren,V.ren,Blk.ren,take_app,drop_app,Nat.not_lt_zero,Nat.lt_irrefl,Nat.add_sub_cancel_left,Nat.not_lt,Nat.le_add_right,setM_len,hcm,hc,c0]
   exact hS
 ·exact hS.elim

def M.ins (m : M) (p a : Int) : Int × M :=
 if m.fE a = 0 then
  if (m.gX a).liB a (m.gV a) = true then (120,(m.gX a).liX (m.gV a))
  else if p = 0 then (0,((((m.gX a).liX (m.gV a)).fstX.pX a ⟨(m.gV a).cap,(m.gV a).prev,((m.gX a).liX (m.gV a)).fst,(m.gV a).depth⟩).joinX (m.gV a).prev a ((m.gX a).liX (m.gV a)).fst))
  else if (((m.gX a).liX (m.gV a)).fstX).fE p = 0 then
   if p = a ∨ ((((m.gX a).liX (m.gV a)).fstX).gV p).depth = 65535 then (120,(((m.gX a).liX (m.gV a)).fstX).gX p)
   else (0,(((((m.gX a).liX (m.gV a)).fstX).gX p).pX a ⟨(m.gV a).cap,p,((((m.gX a).liX (m.gV a)).fstX).gV p).next,IntKind.i64.wrap (((((m.gX a).liX (m.gV a)).fstX).gV p).depth + 1)⟩).joinX p a ((((m.gX a).liX (m.gV a)).fstX).gV p).next)
  else ((((m.gX a).liX (m.gV a)).fstX).fE p,(((m.gX a).liX (m.gV a)).fstX).gX p)
 else (m.fE a,m.gX a)
def insM (b : Nat) (m : M) (st : M → List Blk) : List V → Res
 | [.s (.i .i64 p), .s (.i .i64 a)] => .ok (.s (.i .i64 (m.ins p a).1)) [] (st (m.ins p a).2)
 | _ => .bad
noncomputable def insG:=memF insM
def M.mov (m : M) (f t : Int) : Int × M :=
 if m.fE f = 0 then
  if (m.gX f).gE t = 0 then
   if (m.gX f).eB t = true then
    (0,if (((m.gX f).gX t).liB f (m.gV f)) = true then (((((m.gX f).gX t).liX (m.gV f)).pX t (m.gV f)).pX f slotZ).joinX (m.gV f).prev t (m.gV f).next else ((((m.gX f).gX t).liX (m.gV f)).pX t (m.gV f)).pX f slotZ)
   else (120,(m.gX f).gX t)
  else ((m.gX f).gE t,(m.gX f).gX t)
 else (m.fE f,m.gX f)
def movM (b : Nat) (m : M) (st : M → List Blk) : List V → Res
 | [.s (.i .i64 f), .s (.i .i64 t)] => .ok (.s (.i .i64 (m.mov f t).1)) [] (st (m.mov f t).2)
 | _ => .bad
noncomputable def movG:=memF movM
noncomputable def TIn : Tab:=addT 74 fullG (addT 75 listedG (addT 100 firstG (addT 79 put2G (addT 125 empty2G (addT 119 joinG (noT))))))
theorem TIn_snd : TIn.Snd Tryz.prog:=addT_snd ok74 full_snd (addT_snd ok75 listed_snd (addT_snd ok100 first_snd (addT_snd ok79 put2_snd (addT_snd ok125 empty2_snd (addT_snd ok119 join_snd ((noT_snd _)))))))
theorem ins_snd : Snd Tryz.prog 45 (FSpec.of insG):=snd_run TIn_snd mixed Tryz.func45 dc45 300 fun args h K hc hS => by
 obtain ⟨a,b,m,rest,rfl,H,hS1⟩:=memF_spec hS
 clear hS
 have hS:=hS1
 clear hS1
 unfold insM at hS
 split at hS
 ·rename_i p x
  simp only [spec_ok] at hS
  by_cases c1 : m.fE x = 0
  ·cases c2 : (m.gX x).liB x (m.gV x) with
   | true =>
    simp only [M.ins,c1,c2,if_true] at hS
    simp (maxSteps:=9999999) only [EV0,zy,zx,zw,zv,zu,zq,zp,zj,zk,leT,zg,rvC,zZ,zY,zX,zW,↓zV,↓zU,reduceCtorEq,zQ,yz,yY,yy,yx,yw,yv,yu,yq,yX,yj,yk,yg,yW,yV,yU,yZ,yQ,xz,df45,TIn,fullG,memF_eq H,memF_set H,setM_fun H,fullM,listedG,listedM,slotF,slot_eta,cap_eta,Slot.cl,c1,c2,put,fillP,sub,EVt]
    exact hS
   | false =>
    by_cases c3 : p = 0
    ·simp only [M.ins,c1,c2,c3,Bool.false_eq_true,if_true,if_false] at hS
     simp (maxSteps:=9999999) only [EV0,zy,zx,zw,zv,zu,zq,zp,zj,zk,leT,zg,rvC,zZ,zY,zX,zW,↓zV,↓zU,reduceCtorEq,zQ,yz,yY,yy,yx,yw,yv,yu,yq,yX,yj,yk,yg,yW,yV,yU,yZ,yQ,xz,df45,TIn,fullG,memF_eq H,memF_set H,setM_fun H,fullM,listedG,listedM,firstG,firstM,put2G,put2M,joinG,joinM,slotF,slot_eta,cap_eta,Slot.cl,c1,c2,c3,put,fillP,sub,EVt]
     exact hS
    ·by_cases c4 : (((m.gX x).liX (m.gV x)).fstX).fE p = 0
     ·by_cases c5 : p = x
      ·subst c5
       simp only [M.ins,c1,c2,c3,c4,Bool.false_eq_true,if_true,if_false,true_or] at hS
       simp (maxSteps:=9999999) only [EV0,zy,zx,zw,zv,zu,zq,zp,zj,zk,leT,zg,rvC,zZ,zY,zX,zW,↓zV,↓zU,reduceCtorEq,zQ,yz,yY,yy,yx,yw,yv,yu,yq,yX,yj,yk,yg,yW,yV,yU,yZ,yQ,xz,df45,TIn,fullG,memF_eq H,memF_set H,setM_fun H,fullM,listedG,listedM,firstG,firstM,put2G,put2M,joinG,joinM,slotF,slot_eta,cap_eta,Slot.cl,c1,c2,c3,c4,put,fillP,sub,EVt]
       exact hS
      ·by_cases c6 : ((((m.gX x).liX (m.gV x)).fstX).gV p).depth = 65535
       ·simp only [M.ins,c1,c2,c3,c4,c5,c6,Bool.false_eq_true,if_true,if_false,or_true] at hS
        simp (maxSteps:=9999999) only [EV0,zy,zx,zw,zv,zu,zq,zp,zj,zk,leT,zg,rvC,zZ,zY,zX,zW,↓zV,↓zU,reduceCtorEq,zQ,yz,yY,yy,yx,yw,yv,yu,yq,yX,yj,yk,yg,yW,yV,yU,yZ,yQ,xz,df45,TIn,fullG,memF_eq H,memF_set H,setM_fun H,fullM,listedG,listedM,firstG,firstM,put2G,put2M,joinG,joinM,slotF,slot_eta,cap_eta,Slot.cl,c1,c2,c3,c4,c5,c6,put,fillP,sub,EVt]
        exact hS
       ·simp only [M.ins,c1,c2,c3,c4,c5,c6,Bool.false_eq_true,if_true,if_false,or_self] at hS
        simp (maxSteps:=9999999) only [EV0,zy,zx,zw,zv,zu,zq,zp,zj,zk,leT,zg,rvC,zZ,zY,zX,zW,↓zV,↓zU,reduceCtorEq,zQ,yz,yY,yy,yx,yw,yv,yu,yq,yX,yj,yk,yg,yW,yV,yU,yZ,yQ,xz,df45,TIn,fullG,memF_eq H,memF_set H,setM_fun H,fullM,listedG,listedM,firstG,firstM,put2G,put2M,joinG,joinM,slotF,slot_eta,cap_eta,Slot.cl,c1,c2,c3,c4,c5,c6,put,fillP,sub,EVt]
        repeat' first | exact hS | intro _ | refine ⟨?_, ?_⟩
     ·simp only [M.ins,c1,c2,c3,c4,Bool.false_eq_true,if_true,if_false] at hS
      simp (maxSteps:=9999999) only [EV0,zy,zx,zw,zv,zu,zq,zp,zj,zk,leT,zg,rvC,zZ,zY,zX,zW,↓zV,↓zU,reduceCtorEq,zQ,yz,yY,yy,yx,yw,yv,yu,yq,yX,yj,yk,yg,yW,yV,yU,yZ,yQ,xz,df45,TIn,fullG,memF_eq H,memF_set H,setM_fun H,fullM,listedG,listedM,firstG,firstM,put2G,put2M,joinG,joinM,slotF,slot_eta,cap_eta,Slot.cl,c1,c2,c3,c4,put,fillP,sub,EVt]
      exact hS
  ·simp only [M.ins,c1,if_false] at hS
   simp (maxSteps:=9999999) only [EV0,zy,zx,zw,zv,zu,zq,zp,zj,zk,leT,zg,rvC,zZ,zY,zX,zW,↓zV,↓zU,reduceCtorEq,zQ,yz,yY,yy,yx,yw,yv,yu,yq,yX,yj,yk,yg,yW,yV,yU,yZ,yQ,xz,df45,TIn,fullG,memF_eq H,memF_set H,setM_fun H,fullM,Slot.cl,c1,put,fillP,sub,EVt]
   exact hS
 ·exact hS.elim
theorem mov_snd : Snd Tryz.prog 53 (FSpec.of movG):=snd_run TIn_snd mixed Tryz.func53 dc53 300 fun args h K hc hS => by
 obtain ⟨a,b,m,rest,rfl,H,hS1⟩:=memF_spec hS
 clear hS
 have hS:=hS1
 clear hS1
 unfold movM at hS
 split at hS
 ·rename_i f t
  simp only [spec_ok] at hS
  by_cases c1 : m.fE f = 0
  ·by_cases c2 : (m.gX f).gE t = 0
   ·cases c3 : (m.gX f).eB t with
    | false =>
     simp only [M.mov,c1,c2,c3,Bool.false_eq_true,if_true,if_false] at hS
     simp (maxSteps:=9999999) only [EV0,zy,zx,zw,zv,zu,zq,zp,zj,zk,leT,zg,rvC,zZ,zY,zX,zW,↓zV,↓zU,reduceCtorEq,zQ,yz,yY,yy,yx,yw,yv,yu,yq,yX,yj,yk,yg,yW,yV,yU,yZ,yQ,xz,df53,TIn,fullG,memF_eq H,memF_set H,setM_fun H,fullM,empty2G,empty2M,slotF,slot_eta,cap_eta,Slot.cl,c1,c2,c3,put,fillP,sub,EVt]
     exact hS
    | true =>
     cases c4 : ((m.gX f).gX t).liB f (m.gV f) with
     | false =>
      simp only [M.mov,c1,c2,c3,c4,Bool.false_eq_true,if_true,if_false] at hS
      simp (maxSteps:=9999999) only [EV0,zy,zx,zw,zv,zu,zq,zp,zj,zk,leT,zg,rvC,zZ,zY,zX,zW,↓zV,↓zU,reduceCtorEq,zQ,yz,yY,yy,yx,yw,yv,yu,yq,yX,yj,yk,yg,yW,yV,yU,yZ,yQ,xz,df53,TIn,fullG,memF_eq H,memF_set H,setM_fun H,fullM,empty2G,empty2M,listedG,listedM,put2G,put2M,joinG,joinM,slotF,slot_eta,cap_eta,slotZ,capZ,Slot.cl,c1,c2,c3,c4,put,fillP,sub,EVt]
      exact hS
     | true =>
      simp only [M.mov,c1,c2,c3,c4,if_true] at hS
      simp (maxSteps:=9999999) only [EV0,zy,zx,zw,zv,zu,zq,zp,zj,zk,leT,zg,rvC,zZ,zY,zX,zW,↓zV,↓zU,reduceCtorEq,zQ,yz,yY,yy,yx,yw,yv,yu,yq,yX,yj,yk,yg,yW,yV,yU,yZ,yQ,xz,df53,TIn,fullG,memF_eq H,memF_set H,setM_fun H,fullM,empty2G,empty2M,listedG,listedM,put2G,put2M,joinG,joinM,slotF,slot_eta,cap_eta,slotZ,capZ,Slot.cl,c1,c2,c3,c4,put,fillP,sub,EVt]
      exact hS
   ·simp only [M.mov,c1,c2,if_true,if_false] at hS
    simp (maxSteps:=9999999) only [EV0,zy,zx,zw,zv,zu,zq,zp,zj,zk,leT,zg,rvC,zZ,zY,zX,zW,↓zV,↓zU,reduceCtorEq,zQ,yz,yY,yy,yx,yw,yv,yu,yq,yX,yj,yk,yg,yW,yV,yU,yZ,yQ,xz,df53,TIn,fullG,memF_eq H,memF_set H,setM_fun H,fullM,empty2G,empty2M,Slot.cl,c1,c2,put,fillP,sub,EVt]
    exact hS
  ·simp only [M.mov,c1,if_false] at hS
   simp (maxSteps:=9999999) only [EV0,zy,zx,zw,zv,zu,zq,zp,zj,zk,leT,zg,rvC,zZ,zY,zX,zW,↓zV,↓zU,reduceCtorEq,zQ,yz,yY,yy,yx,yw,yv,yu,yq,yX,yj,yk,yg,yW,yV,yU,yZ,yQ,xz,df53,TIn,fullG,memF_eq H,memF_set H,setM_fun H,fullM,Slot.cl,c1,put,fillP,sub,EVt]
   exact hS
 ·exact hS.elim

theorem ysw_ct {Γ : FuncId → FSpec} {l np : Nat} {R : Rnd} {K : Ex → St → U → Option Ex → Prop} {fs : List YF} {s : St} {u : U} {p : Option Ex} {a b : DC} {x : Opd} (hx : ev s.t x = .s (.b true)) (h : ysw Γ l np R K (.c a :: fs) s u p) : ysw Γ l np R K (.c (.cond x a b) :: fs) s u p:=ysw_cond hx h
theorem ysw_cf {Γ : FuncId → FSpec} {l np : Nat} {R : Rnd} {K : Ex → St → U → Option Ex → Prop} {fs : List YF} {s : St} {u : U} {p : Option Ex} {a b : DC} {x : Opd} (hx : ev s.t x = .s (.b false)) (h : ysw Γ l np R K (.c b :: fs) s u p) : ysw Γ l np R K (.c (.cond x a b) :: fs) s u p:=ysw_cond hx h

theorem yl_below (n l : Nat) : S.below n (.yl l) = true:=(rfl)
def bhH (h : List Blk) (a b : Nat) (m : M) (x : Int) : List Blk:=setM h a b m ++ [⟨.rw,[.p (.g a) 0],1⟩,⟨.rw,[.i .i64 x],1⟩]
section
variable {h : List Blk} {a b : Nat} {m0 : M}
theorem bhH_len (m : M) (x : Int) : (bhH h a b m x).length = h.length + 2:=by simp [bhH,setM_len]
theorem bhH_1 (m : M) (x : Int) : (bhH h a b m x)[h.length]? = some ⟨.rw,[.p (.g a) 0],1⟩:=by
 unfold bhH; rw [List.getElem?_append_right (by rw [setM_len]; omega),setM_len,Nat.sub_self]; rfl
theorem bhH_2 (m : M) (x : Int) : (bhH h a b m x)[h.length + 1]? = some ⟨.rw,[.i .i64 x],1⟩:=by
 unfold bhH; rw [List.getElem?_append_right (by rw [setM_len]; omega),setM_len,Nat.add_sub_cancel_left]; rfl
theorem bhH_set (m : M) (x y : Int) : (bhH h a b m x).set (h.length + 1) ⟨.rw,[.i .i64 y],1⟩ = bhH h a b m y:=by
 unfold bhH; rw [List.set_append_right _ _ (by rw [setM_len]; omega),setM_len,Nat.add_sub_cancel_left]; rfl
theorem memF_bh {f : Nat → M → (M → List Blk) → List V → Res} {m : M} {x : Int} {rest : List V} (H : IsMem h a b m0) : memF f (.s (.p (.g a) 0) :: rest) (bhH h a b m x) = f b m (fun m => bhH h a b m x) rest:=memF_app H
theorem bh_lt (H : IsMem h a b m0) : a < h.length + 2:=by have:=H.lta; omega
end

def behG : List V → List Blk → Res
 | [.s (.p (.g a) 0), .s (.i .i64 x)],h => .ok (.s (.fn 160 [(.g h.length,0),(.g (h.length + 1),0)])) [] (h ++ [⟨.rw,[.p (.g a) 0],1⟩,⟨.rw,[.i .i64 x],1⟩])
 | _,_ => .bad
theorem beh_snd : Snd Tryz.prog 99 (FSpec.of behG):=snd_run (noT_snd _) mixed Tryz.func99 dc99 100 fun args h K hc hS => by
 unfold behG at hS
 split at hS
 ·rename_i a x
  simp only [spec_ok] at hS
  simp (maxSteps:=9999999) only [EV0,zy,zx,zw,zv,zu,zq,zp,zj,zk,leT,zg,rvC,zZ,zY,zX,zW,↓zV,↓zU,reduceCtorEq,zQ,yz,yY,yy,yx,yw,yv,yu,yq,yX,yj,yk,yg,yW,yV,yU,yZ,yQ,xz,df99]
  refine ⟨[0,1],by simp,rfl, ?_⟩
  simp only [getAll,List.getElem?_cons_zero,List.getElem?_cons_succ]
  refine ⟨?_, ?_⟩
  ·simp [S.kept,R.kept]
  ·refine cast ?_ hS
   simp [Blk.ren,S.ren,R.prom,V.ren,List.idxOf,List.findIdx,List.findIdx.go]
 ·exact hS.elim

def RM (R : Rnd) (args : List V) (u : U) (h : List Blk) (K : Option Ex → U → List Blk → Prop) : Prop:=∀ K' : Option Ex → U → List Blk → Prop,(∀ p u' h',K p u' h' → K' p u' h') → R args u h K'
def bw (g : M → Int → List Blk) (R : Rnd) (K : Option Ex → U → List Blk → Prop) : Nat → Int → M → U → Prop
 | 0,x,m,u => if x = 0 then K none u (g m x) else RM R [.s (.i .i64 0), .agg slotZ.cl] u (g m x) K
 | k + 1,x,m,u => if x = 0 then K none u (g m x) else if m.fE x = 0 then
   RM R [.s (.i .i64 x), .agg (m.gV x).cl] u (g (m.gX x) x) fun p u' h' => h' = g (m.gX x) x ∧ match p with
    | none => bw g R K k (m.gV x).next (m.gX x) u'
    | some e => K (some e) u' h'
  else RM R [.s (.i .i64 0), .agg slotZ.cl] u (g (m.gX x) x) K
noncomputable def TBh : Tab:=addT 150 wordsG (addT 74 fullG (noT))
theorem TBh_snd : TBh.Snd Tryz.prog:=addT_snd ok150 mwords_snd (addT_snd ok74 full_snd ((noT_snd _)))
theorem behind1_is {h : List Blk} {a b : Nat} {m0 m : M} {x : Int} {u : U} {R : Rnd} {K : Option Ex → U → List Blk → Prop} (H : IsMem h a b m0) (hw : bw (bhH h a b) R K (m.w.length / 4) x m u) :
  isem 160 [.s (.p (.g h.length) 0), .s (.p (.g (h.length + 1)) 0)] 2 u (bhH h a b m x) R K:=by
 refine isem_of mixed (Tab.snd_Γ TBh_snd) ok160 Tryz.func160 dc160 rfl rfl rfl fun l => ?_
 have h1:=bhH_1 (h:=h) (a:=a) (b:=b)
 have h2:=bhH_2 (h:=h) (a:=a) (b:=b)
 have h3:=bhH_set (h:=h) (a:=a) (b:=b)
 have hmf:=fun f m x rest => memF_bh (f:=f) (m:=m) (x:=x) (rest:=rest) H
 have hq : IntKind.i64.wrap ((m.w.length : Int).tdiv 4) = ((m.w.length / 4 : Nat) : Int):=by
  have:=m.l
  rw [Int.tdiv_eq_ediv_of_nonneg (by omega),wrap64] <;> omega
 obtain ⟨N,hN⟩ : ∃ N,m.w.length / 4 = N:=⟨_,rfl⟩
 rw [hN] at hw hq
 have hNl : N ≤ 2199023255552:=by have:=m.l; omega
 refine ysw_seq (ysw_seq (ysw_reg (Tab.ok_Γ _) 60 rfl ?_))
 simp (maxSteps:=9999999) only [EV0,zy,zx,zw,zv,zu,zq,zp,zj,zk,leT,zg,rvC,zZ,zY,zX,zW,↓zV,↓zU,reduceCtorEq,zQ,yz,yY,yy,yx,yw,yv,yu,yq,yX,yj,yk,yg,yW,yV,yU,yZ,yQ,xz,df160,TBh,h1,h2,hmf,wordsG,wordsM,hq]
 refine ysw_block (by decide) ?_
 refine ysw_loop (α:=Nat × Int × M) [4,5,9,10,11,12,13,14,15,16,17,18,19,20,21,22,23,24,25,26,27,28,29,30,31] (fun y => [(9, .s (.i .i64 (y.1 : Int)))]) (fun _ => []) (fun y => bhH h a b y.2.2 y.2.1) (fun y u p => p = none ∧ y.1 ≤ N ∧ bw (bhH h a b) R K (N - y.1) y.2.1 y.2.2 u) (fun y => N - y.1) (0,x,m) ⟨rfl,Nat.zero_le _,hw⟩ rfl ?_ ?_
 ·refine Wk.same rfl rfl ?_
  simp (maxSteps:=9999999) only [EV0,zy,zx,zw,zv,zu,zq,zp,zj,zk,leT,zg,rvC,zZ,zY,zX,zW,↓zV,↓zU,reduceCtorEq,zQ,yz,yY,yy,yx,yw,yv,yu,yq,yX,yj,yk,yg,yW,yV,yU,yZ,yQ,xz,Int.natCast_zero]
 ·rintro X ⟨i,y,m'⟩ u p ⟨rfl,hi,hw⟩ IH
  simp only at hi hw ⊢
  clear hq hN
  refine ysw_seq (ysw_reg (Tab.ok_Γ _) 60 rfl ?_)
  rcases Nat.lt_or_ge i N with hlt | hge
  ·have I : (i : Int) < N:=by omega
   have I2 : IntKind.i64.wrap ((i : Int) + 1) = ((i + 1 : Nat) : Int):=by rw [wrap64] <;> omega
   obtain ⟨k,hk⟩ : ∃ k,N - i = k + 1:=⟨N - i - 1,by omega⟩
   rw [hk] at hw
   simp (maxSteps:=9999999) only [EV0,zy,zx,zw,zv,zu,zq,zp,zj,zk,leT,zg,rvC,zZ,zY,zX,zW,↓zV,↓zU,reduceCtorEq,zQ,yz,yY,yy,yx,yw,yv,yu,yq,yX,yj,yk,yg,yW,yV,yU,yZ,yQ,xz,df160,TBh,I]
   refine ysw_seq (ysw_ct rfl (ysw_skip (ysw_seq (ysw_block (by decide) (ysw_seq (ysw_seq (ysw_reg (Tab.ok_Γ _) 60 rfl ?_)))))))
   by_cases hy : y = 0
   ·rw [hy] at hw ⊢
    simp only [bw,if_true] at hw
    simp (maxSteps:=9999999) only [EV0,zy,zx,zw,zv,zu,zq,zp,zj,zk,leT,zg,rvC,zZ,zY,zX,zW,↓zV,↓zU,reduceCtorEq,zQ,yz,yY,yy,yx,yw,yv,yu,yq,yX,yj,yk,yg,yW,yV,yU,yZ,yQ,xz,df160,TBh,h1,h2,hmf]
    exact ysw_ct rfl (ysw_ret hw)
   ·have hy' : (y == 0) = false:=by simpa using hy
    simp only [bw,hy,if_false] at hw
    simp (maxSteps:=9999999) only [EV0,zy,zx,zw,zv,zu,zq,zp,zj,zk,leT,zg,rvC,zZ,zY,zX,zW,↓zV,↓zU,reduceCtorEq,zQ,yz,yY,yy,yx,yw,yv,yu,yq,yX,yj,yk,yg,yW,yV,yU,yZ,yQ,xz,df160,TBh,h1,h2,hmf,hy',hy]
    refine ysw_cf rfl (ysw_skip (ysw_seq (ysw_reg (Tab.ok_Γ _) 60 rfl ?_)))
    obtain ⟨⟨⟨c0,c1,c2,c3,c4,c5,c6,c7,c8,c9,c10⟩,p0,q0,r0⟩,hs⟩ : ∃ s,m'.gV y = s:=⟨_,rfl⟩
    simp (maxSteps:=9999999) only [EV0,zy,zx,zw,zv,zu,zq,zp,zj,zk,leT,zg,rvC,zZ,zY,zX,zW,↓zV,↓zU,reduceCtorEq,zQ,yz,yY,yy,yx,yw,yv,yu,yq,yX,yj,yk,yg,yW,yV,yU,yZ,yQ,xz,df160,TBh,h1,h2,hmf,fullG,fullM,hs,Slot.cl,Cap.cl,put,fillP,EVt]
    refine ysw_seq (ysw_seq (ysw_reg (Tab.ok_Γ _) 60 rfl ?_))
    by_cases hf : m'.fE y = 0
    ·simp only [hf,if_true,hs,Slot.cl,Cap.cl] at hw
     simp (maxSteps:=9999999) only [EV0,zy,zx,zw,zv,zu,zq,zp,zj,zk,leT,zg,rvC,zZ,zY,zX,zW,↓zV,↓zU,reduceCtorEq,zQ,yz,yY,yy,yx,yw,yv,yu,yq,yX,yj,yk,yg,yW,yV,yU,yZ,yQ,xz,df160,TBh,hf]
     refine ysw_cf rfl (ysw_skip (ysw_seq (ysw_seq (ysw_yieldAt (Tab.ok_Γ _) 60 3 rfl rfl ?_))))
     simp (maxSteps:=9999999) only [EV0,zy,zx,zw,zv,zu,zq,zp,zj,zk,leT,zg,rvC,zZ,zY,zX,zW,↓zV,↓zU,reduceCtorEq,zQ,yz,yY,yy,yx,yw,yv,yu,yq,yX,yj,yk,yg,yW,yV,yU,yZ,yQ,xz,df160,TBh,h1,h2,hmf,sub,EVt,List.drop_succ_cons]
     refine ywp_y rfl rfl rfl rfl rfl (hw _ fun p' u' h' hk' => ?_)
     obtain ⟨rfl,hk'⟩:=hk'
     refine ywp_run (Tab.ok_Γ _) 60 rfl ?_
     cases p' with
     | some e =>
      simp (maxSteps:=9999999) only [EV0,zy,zx,zw,zv,zu,zq,zp,zj,zk,leT,zg,rvC,zZ,zY,zX,zW,↓zV,↓zU,reduceCtorEq,zQ,yz,yY,yy,yx,yw,yv,yu,yq,yX,yj,yk,yg,yW,yV,yU,yZ,yQ,xz,df160,TBh,Option.isNone_some]
      exact ysw_ct rfl (ysw_ret hk')
     | none =>
      simp (maxSteps:=9999999) only [EV0,zy,zx,zw,zv,zu,zq,zp,zj,zk,leT,zg,rvC,zZ,zY,zX,zW,↓zV,↓zU,reduceCtorEq,zQ,yz,yY,yy,yx,yw,yv,yu,yq,yX,yj,yk,yg,yW,yV,yU,yZ,yQ,xz,df160,TBh,Option.isNone_none]
      refine ysw_cf rfl (ysw_skip (ysw_reg (Tab.ok_Γ _) 60 rfl ?_))
      simp (maxSteps:=9999999) only [EV0,zy,zx,zw,zv,zu,zq,zp,zj,zk,leT,zg,rvC,zZ,zY,zX,zW,↓zV,↓zU,reduceCtorEq,zQ,yz,yY,yy,yx,yw,yv,yu,yq,yX,yj,yk,yg,yW,yV,yU,yZ,yQ,xz,df160,TBh,h1,h2,h3,sub,put,fillP]
      refine ysw_blk (ysw_reg (Tab.ok_Γ _) 60 rfl ?_)
      simp (maxSteps:=9999999) only [EV0,zy,zx,zw,zv,zu,zq,zp,zj,zk,leT,zg,rvC,zZ,zY,zX,zW,↓zV,↓zU,reduceCtorEq,zQ,yz,yY,yy,yx,yw,yv,yu,yq,yX,yj,yk,yg,yW,yV,yU,yZ,yQ,xz,df160,TBh,I2]
      exact IH (i + 1,q0,m'.gX y) _ _ _ (by simp only; omega) ⟨rfl,by simp only; omega,by simp only; rw [show N - (i + 1) = k by omega]; exact hk'⟩ (by simp only [bhH_len]) (Wk.keep 0 rfl rfl (by simp (maxSteps:=9999999) only [EV0,zy,zx,zw,zv,zu,zq,zp,zj,zk,leT,zg,rvC,zZ,zY,zX,zW,↓zV,↓zU,reduceCtorEq,zQ,yz,yY,yy,yx,yw,yv,yu,yq,yX,yj,yk,yg,yW,yV,yU,yZ,yQ,xz,bhH_len]) (by simp (maxSteps:=9999999) only [EV0,zy,zx,zw,zv,zu,zq,zp,zj,zk,leT,zg,rvC,zZ,zY,zX,zW,↓zV,↓zU,reduceCtorEq,zQ,yz,yY,yy,yx,yw,yv,yu,yq,yX,yj,yk,yg,yW,yV,yU,yZ,yQ,xz,yl_below]) (by simp))
    ·simp only [hf,if_false] at hw
     have hf' : (m'.fE y == 0) = false:=by simpa using hf
     simp (maxSteps:=9999999) only [EV0,zy,zx,zw,zv,zu,zq,zp,zj,zk,leT,zg,rvC,zZ,zY,zX,zW,↓zV,↓zU,reduceCtorEq,zQ,yz,yY,yy,yx,yw,yv,yu,yq,yX,yj,yk,yg,yW,yV,yU,yZ,yQ,xz,df160,TBh,hf,hf',bne]
     refine ysw_ct rfl (ysw_seq (ysw_yieldAt (Tab.ok_Γ _) 60 2 rfl rfl ?_))
     simp (maxSteps:=9999999) only [EV0,zy,zx,zw,zv,zu,zq,zp,zj,zk,leT,zg,rvC,zZ,zY,zX,zW,↓zV,↓zU,reduceCtorEq,zQ,yz,yY,yy,yx,yw,yv,yu,yq,yX,yj,yk,yg,yW,yV,yU,yZ,yQ,xz,df160,TBh,h1,h2,hmf,sub,put,fillP,EVt,List.drop_succ_cons]
     refine ywp_y rfl rfl rfl rfl rfl (hw _ fun p' u' h' hk' => ?_)
     refine ywp_run (Tab.ok_Γ _) 60 rfl ?_
     simp (maxSteps:=9999999) only [EV0,zy,zx,zw,zv,zu,zq,zp,zj,zk,leT,zg,rvC,zZ,zY,zX,zW,↓zV,↓zU,reduceCtorEq,zQ,yz,yY,yy,yx,yw,yv,yu,yq,yX,yj,yk,yg,yW,yV,yU,yZ,yQ,xz,df160,TBh]
     exact ysw_ret hk'
  ·have I : ¬ (i : Int) < N:=by omega
   have e0 : N - i = 0:=by omega
   rw [e0] at hw
   clear IH
   simp (maxSteps:=9999999) only [EV0,zy,zx,zw,zv,zu,zq,zp,zj,zk,leT,zg,rvC,zZ,zY,zX,zW,↓zV,↓zU,reduceCtorEq,zQ,yz,yY,yy,yx,yw,yv,yu,yq,yX,yj,yk,yg,yW,yV,yU,yZ,yQ,xz,df160,TBh,I]
   refine ysw_seq (ysw_cf rfl (ysw_exit (by decide) ?_))
   simp only [ysx,if_true]
   refine ysw_seq (ysw_reg (Tab.ok_Γ _) 60 rfl ?_)
   by_cases hy : y = 0
   ·rw [hy] at hw ⊢
    simp only [bw,if_true] at hw
    simp (maxSteps:=9999999) only [EV0,zy,zx,zw,zv,zu,zq,zp,zj,zk,leT,zg,rvC,zZ,zY,zX,zW,↓zV,↓zU,reduceCtorEq,zQ,yz,yY,yy,yx,yw,yv,yu,yq,yX,yj,yk,yg,yW,yV,yU,yZ,yQ,xz,df160,TBh,h1,h2,hmf,bne]
    refine ysw_cf rfl (ysw_skip ?_)
    simp only [ysw]
    exact hw
   ·have hy' : (y == 0) = false:=by simpa using hy
    simp only [bw,hy,if_false] at hw
    simp (maxSteps:=9999999) only [EV0,zy,zx,zw,zv,zu,zq,zp,zj,zk,leT,zg,rvC,zZ,zY,zX,zW,↓zV,↓zU,reduceCtorEq,zQ,yz,yY,yy,yx,yw,yv,yu,yq,yX,yj,yk,yg,yW,yV,yU,yZ,yQ,xz,df160,TBh,h1,h2,hmf,hy',hy,bne]
    refine ysw_ct rfl (ysw_yieldAt (Tab.ok_Γ _) 60 2 rfl rfl ?_)
    simp (maxSteps:=9999999) only [EV0,zy,zx,zw,zv,zu,zq,zp,zj,zk,leT,zg,rvC,zZ,zY,zX,zW,↓zV,↓zU,reduceCtorEq,zQ,yz,yY,yy,yx,yw,yv,yu,yq,yX,yj,yk,yg,yW,yV,yU,yZ,yQ,xz,df160,TBh,h1,h2,hmf,sub,put,fillP,EVt,List.drop_succ_cons]
    refine ywp_y rfl rfl rfl rfl rfl (hw _ fun p' u' h' hk' => ?_)
    refine ywp_run (Tab.ok_Γ _) 60 rfl ?_
    simp (maxSteps:=9999999) only [EV0,zy,zx,zw,zv,zu,zq,zp,zj,zk,leT,zg,rvC,zZ,zY,zX,zW,↓zV,↓zU,reduceCtorEq,zQ,yz,yY,yy,yx,yw,yv,yu,yq,yX,yj,yk,yg,yW,yV,yU,yZ,yQ,xz,df160,TBh]
    simp only [ysw]
    exact hk'
end Go.Proofs.YtcdfofeolgbnbaaGreat

