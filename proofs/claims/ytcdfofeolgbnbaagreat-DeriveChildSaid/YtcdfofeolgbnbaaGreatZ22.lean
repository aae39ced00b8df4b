/- The document's derivation list: First,SetFirst,links,back,Insert,Move. -/
import Derived.Test.YtcdfofeolgbnbaaGreatZ13
import Derived.Test.YtcdfofeolgbnbaaGreatZ21
/- Package cdt: Insert,Move,Swap. -/
namespace Go.Proofs.YtcdfofeolgbnbaaGreat
open Go.D
open Nat (reduceAdd reducePow reduceMul reduceSub reduceLeDiff reduceLT reduceEqDiff)
open Int (reduceNeg reduceLE reduceEq reduceNe reduceToNat)
open Go.D renaming istep → zy,pickR → zx,bin1R → zw,un1R → zv,eqS → zu,eq1 → zq,cmpS → zp,cmp1 → zj,isNil → zk,shows → zg,result → zZ,q_cond_t → zV,q_cond_f → zU
open List renaming set → zY,replicate → zX
open Option renaming map → zW
open Nat renaming reduceAdd → zQ,reducePow → yz,reduceMul → yy,reduceSub → yx,reduceLeDiff → yw,reduceLT → yv,reduceEqDiff → yu
open Int renaming reduceNeg → yq,reduceLE → yj,reduceEq → yk,reduceNe → yg,reduceToNat → yZ,reducePow → yY,reduceLT → yX,reduceAdd → yW,reduceSub → yV,reduceMul → yU,reduceBEq → yQ,reduceBNe → xz
set_option linter.all false
set_option maxRecDepth 100000
set_option maxHeartbeats 4000000

def M.joinX (m : M) (p a n : Int) : M:=((if p = 0 then m.sfX a else m).turnX p fun s => ⟨s.cap,s.prev,a,s.depth⟩).turnX n fun s => ⟨s.cap,a,s.next,s.depth⟩
def joinM (b : Nat) (m : M) (st : M → List Blk) : List V → Res
 | [.s (.i .i64 p), .s (.i .i64 a), .s (.i .i64 n)] => .ok (.tup []) [] (st (m.joinX p a n))
 | _ => .bad
noncomputable def joinG:=memF joinM
noncomputable def TJn : Tab:=addT 76 turnG (addT 80 setFirstG (noT))
theorem TJn_snd : TJn.Snd Tryz.prog:=addT_snd ok76 turn_snd (addT_snd ok80 setFirst_snd ((noT_snd _)))
theorem join_snd : Snd Tryz.prog 119 (FSpec.of joinG):=snd_run TJn_snd mixed Tryz.func119 dc119 200 fun args h K hc hS => by
 obtain ⟨a,b,m,rest,rfl,H,hS1⟩:=memF_spec hS
 clear hS
 have hS:=hS1
 clear hS1
 unfold joinM at hS
 split at hS
 ·rename_i p x n
  simp only [spec_ok,M.joinX] at hS
  have hcm : ∀ m',clean h.length (setM h a b m') = true:=fun m' => setM_clean H hc H.ltb
  have hcl : ∀ m',cellAt (setM h a b m' ++ [⟨.rw,[.i .i64 x],1⟩]) h.length = some x:=fun m' => cellAt_eq (room:=1) (by rw [List.getElem?_append_right (by rw [setM_len]; omega),setM_len,Nat.sub_self]; rfl)
  have t1 : ∀ m' q,turnG [.s (.p (.g a) 0), .s (.i .i64 q), .s (.fn 176 [(.g h.length,0)])] (setM h a b m' ++ [⟨.rw,[.i .i64 x],1⟩]) = .ok (.tup []) [] (setM h a b (m'.turnX q fun s => ⟨s.cap,s.prev,x,s.depth⟩) ++ [⟨.rw,[.i .i64 x],1⟩]):=fun m' q => by
   unfold turnG
   rw [memF_app H]
   simp only [turnM,chg,if_true,hcl]
  have t2 : ∀ m' q,turnG [.s (.p (.g a) 0), .s (.i .i64 q), .s (.fn 177 [(.g h.length,0)])] (setM h a b m' ++ [⟨.rw,[.i .i64 x],1⟩]) = .ok (.tup []) [] (setM h a b (m'.turnX q fun s => ⟨s.cap,x,s.next,s.depth⟩) ++ [⟨.rw,[.i .i64 x],1⟩]):=fun m' q => by
   unfold turnG
   rw [memF_app H]
   simp only [turnM,chg,if_true,hcl,reduceEqDiff,if_false]
  have t0 : ∀ q,turnG [.s (.p (.g a) 0), .s (.i .i64 q), .s (.fn 176 [(.g h.length,0)])] (h ++ [⟨.rw,[.i .i64 x],1⟩]) = .ok (.tup []) [] (setM h a b (m.turnX q fun s => ⟨s.cap,s.prev,x,s.depth⟩) ++ [⟨.rw,[.i .i64 x],1⟩]):=fun q => by
   have:=t1 m q
   rw [setM_self H] at this
   exact this
  by_cases c0 : p = 0
  ·simp only [c0,if_true] at hS
   simp (maxSteps:=9999999) only [EV0,zy,zx,zw,zv,zu,zq,zp,zj,zk,leT,zg,rvC,zZ,zY,zX,zW,↓zV,↓zU,reduceCtorEq,zQ,yz,yY,yy,yx,yw,yv,yu,yq,yX,yj,yk,yg,yW,yV,yU,yZ,yQ,xz,df119,TJn,setFirstG,memF_eq H,setFirstM,t1,t2,t0,R.lend,R.unlend,S_ren,C.ren,V.ren,Blk.ren,take_app,drop_app,Nat.not_lt_zero,Nat.lt_irrefl,Nat.add_sub_cancel_left,Nat.not_lt,Nat.le_add_right,setM_len,hcm,hc,c0]
   exact hS
  ·simp only [c0,if_false] at hS
   simp (maxSteps:=9999999) only [EV0,zy,zx,zw,zv,zu,zq,zp,zj,zk,leT,zg,rvC,zZ,zY,zX,zW,↓zV,↓zU,reduceCtorEq,zQ,yz,yY,yy,yx,yw,yv,yu,yq,yX,yj,yk,yg,yW,yV,yU,yZ,yQ,xz,df119,TJn,setFirstG,memF_eq H,setFirstM,t1,t2,t0,R.lend,R.unlend,S_ren,C.ren,V.ren,Blk.ren,take_app,drop_app,Nat.not_lt_zero,Nat.lt_irrefl,Nat.add_sub_cancel_left,Nat.not_lt,Nat.le_add_right,setM_len,hcm,hc,c0]
   exact hS
 ·exact hS.elim

def M.ins (m : M) (p a : Int) : Int × M :=
 if m.fE a = 0 then
  if (m.gX a).liB a (m.gV a) = true then (120,(m.gX a).liX (m.gV a))
  else if p = 0 then (0,((((m.gX a).liX (m.gV a)).fstX.pX a ⟨(m.gV a).cap,(m.gV a).prev,((m.gX a).liX (m.gV a)).fst,(m.gV a).depth⟩).joinX (m.gV a).prev a ((m.gX a).liX (m.gV a)).fst))
  else if (((m.gX a).liX (m.gV a)).fstX).fE p = 0 then
   if p = a ∨ ((((m.gX a).liX (m.gV a)).fstX).gV p).depth = 65535 then (120,(((m.gX a).liX (m.gV a)).fstX).gX p)
   else (0,(((((m.gX a).liX (m.gV a)).fstX).gX p).pX a ⟨(m.gV a).cap,p,((((m.gX a).liX (m.gV a)).fstX).gV p).next,IntKind.i64.wrap (((((m.gX a).liX (m.gV a)).fstX).gV p).depth + 1)⟩).joinX p a ((((m.gX a).liX (m.gV a)).fstX).gV p).next)
  else ((((m.gX a).liX (m.gV a)).fstX).fE p,(((m.gX a).liX (m.gV a)).fstX).gX p)
 else (m.fE a,m.gX a)
def insM (b : Nat) (m : M) (st : M → List Blk) : List V → Res
 | [.s (.i .i64 p), .s (.i .i64 a)] => .ok (.s (.i .i64 (m.ins p a).1)) [] (st (m.ins p a).2)
 | _ => .bad
noncomputable def insG:=memF insM
def M.mov (m : M) (f t : Int) : Int × M :=
 if m.fE f = 0 then
  if (m.gX f).gE t = 0 then
   if (m.gX f).eB t = true then
    (0,if (((m.gX f).gX t).liB f (m.gV f)) = true then (((((m.gX f).gX t).liX (m.gV f)).pX t (m.gV f)).pX f slotZ).joinX (m.gV f).prev t (m.gV f).next else ((((m.gX f).gX t).liX (m.gV f)).pX t (m.gV f)).pX f slotZ)
   else (120,(m.gX f).gX t)
  else ((m.gX f).gE t,(m.gX f).gX t)
 else (m.fE f,m.gX f)
def movM (b : Nat) (m : M) (st : M → List Blk) : List V → Res
 | [.s (.i .i64 f), .s (.i .i64 t)] => .ok (.s (.i .i64 (m.mov f t).1)) [] (st (m.mov f t).2)
 | _ => .bad
noncomputable def movG:=memF movM
noncomputable def TIn : Tab:=addT 74 fullG (addT 75 listedG (addT 100 firstG (addT 79 put2G (addT 125 empty2G (addT 119 joinG (noT))))))
theorem TIn_snd : TIn.Snd Tryz.prog:=addT_snd ok74 full_snd (addT_snd ok75 listed_snd (addT_snd ok100 first_snd (addT_snd ok79 put2_snd (addT_snd ok125 empty2_snd (addT_snd ok119 join_snd ((noT_snd _)))))))
theorem ins_snd : Snd Tryz.prog 45 (FSpec.of insG):=snd_run TIn_snd mixed Tryz.func45 dc45 300 fun args h K hc hS => by
 obtain ⟨a,b,m,rest,rfl,H,hS1⟩:=memF_spec hS
 clear hS
 have hS:=hS1
 clear hS1
 unfold insM at hS
 split at hS
 ·rename_i p x
  simp only [spec_ok] at hS
  by_cases c1 : m.fE x = 0
  ·cases c2 : (m.gX x).liB x (m.gV x) with
   | true =>
    simp only [M.ins,c1,c2,if_true] at hS
    simp (maxSteps:=9999999) only [EV0,zy,zx,zw,zv,zu,zq,zp,zj,zk,leT,zg,rvC,zZ,zY,zX,zW,↓zV,↓zU,reduceCtorEq,zQ,yz,yY,yy,yx,yw,yv,yu,yq,yX,yj,yk,yg,yW,yV,yU,yZ,yQ,xz,df45,TIn,fullG,memF_eq H,memF_set H,setM_fun H,fullM,listedG,listedM,slotF,slot_eta,cap_eta,Slot.cl,c1,c2,put,fillP,sub,EVt]
    exact hS
   | false =>
    by_cases c3 : p = 0
    ·simp only [M.ins,c1,c2,c3,Bool.false_eq_true,if_true,if_false] at hS
     simp (maxSteps:=9999999) only [EV0,zy,zx,zw,zv,zu,zq,zp,zj,zk,leT,zg,rvC,zZ,zY,zX,zW,↓zV,↓zU,reduceCtorEq,zQ,yz,yY,yy,yx,yw,yv,yu,yq,yX,yj,yk,yg,yW,yV,yU,yZ,yQ,xz,df45,TIn,fullG,memF_eq H,memF_set H,setM_fun H,fullM,listedG,listedM,firstG,firstM,put2G,put2M,joinG,joinM,slotF,slot_eta,cap_eta,Slot.cl,c1,c2,c3,put,fillP,sub,EVt]
     exact hS
    ·by_cases c4 : (((m.gX x).liX (m.gV x)).fstX).fE p = 0
     ·by_cases c5 : p = x
      ·subst c5
       simp only [M.ins,c1,c2,c3,c4,Bool.false_eq_true,if_true,if_false,true_or] at hS
       simp (maxSteps:=9999999) only [EV0,zy,zx,zw,zv,zu,zq,zp,zj,zk,leT,zg,rvC,zZ,zY,zX,zW,↓zV,↓zU,reduceCtorEq,zQ,yz,yY,yy,yx,yw,yv,yu,yq,yX,yj,yk,yg,yW,yV,yU,yZ,yQ,xz,df45,TIn,fullG,memF_eq H,memF_set H,setM_fun H,fullM,listedG,listedM,firstG,firstM,put2G,put2M,joinG,joinM,slotF,slot_eta,cap_eta,Slot.cl,c1,c2,c3,c4,put,fillP,sub,EVt]
       exact hS
      ·by_cases c6 : ((((m.gX x).liX (m.gV x)).fstX).gV p).depth = 65535
       ·simp only [M.ins,c1,c2,c3,c4,c5,c6,Bool.false_eq_true,if_true,if_false,or_true] at hS
        simp (maxSteps:=9999999) only [EV0,zy,zx,zw,zv,zu,zq,zp,zj,zk,leT,zg,rvC,zZ,zY,zX,zW,↓zV,↓zU,reduceCtorEq,zQ,yz,yY,yy,yx,yw,yv,yu,yq,yX,yj,yk,yg,yW,yV,yU,yZ,yQ,xz,df45,TIn,fullG,memF_eq H,memF_set H,setM_fun H,fullM,listedG,listedM,firstG,firstM,put2G,put2M,joinG,joinM,slotF,slot_eta,cap_eta,Slot.cl,c1,c2,c3,c4,c5,c6,put,fillP,sub,EVt]
        exact hS
       ·simp only [M.ins,c1,c2,c3,c4,c5,c6,Bool.false_eq_true,if_true,if_false,or_self] at hS
        simp (maxSteps:=9999999) only [EV0,zy,zx,zw,zv,zu,zq,zp,zj,zk,leT,zg,rvC,zZ,zY,zX,zW,↓zV,↓zU,reduceCtorEq,zQ,yz,yY,yy,yx,yw,yv,yu,yq,yX,yj,yk,yg,yW,yV,yU,yZ,yQ,xz,df45,TIn,fullG,memF_eq H,memF_set H,setM_fun H,fullM,listedG,listedM,firstG,firstM,put2G,put2M,joinG,joinM,slotF,slot_eta,cap_eta,Slot.cl,c1,c2,c3,c4,c5,c6,put,fillP,sub,EVt]
        repeat' first | exact hS | intro _ | refine ⟨?_, ?_⟩
     ·simp only [M.ins,c1,c2,c3,c4,Bool.false_eq_true,if_true,if_false] at hS
      simp (maxSteps:=9999999) only [EV0,zy,zx,zw,zv,zu,zq,zp,zj,zk,leT,zg,rvC,zZ,zY,zX,zW,↓zV,↓zU,reduceCtorEq,zQ,yz,yY,yy,yx,yw,yv,yu,yq,yX,yj,yk,yg,yW,yV,yU,yZ,yQ,xz,df45,TIn,fullG,memF_eq H,memF_set H,setM_fun H,fullM,listedG,listedM,firstG,firstM,put2G,put2M,joinG,joinM,slotF,slot_eta,cap_eta,Slot.cl,c1,c2,c3,c4,put,fillP,sub,EVt]
      exact hS
  ·simp only [M.ins,c1,if_false] at hS
   simp (maxSteps:=9999999) only [EV0,zy,zx,zw,zv,zu,zq,zp,zj,zk,leT,zg,rvC,zZ,zY,zX,zW,↓zV,↓zU,reduceCtorEq,zQ,yz,yY,yy,yx,yw,yv,yu,yq,yX,yj,yk,yg,yW,yV,yU,yZ,yQ,xz,df45,TIn,fullG,memF_eq H,memF_set H,setM_fun H,fullM,Slot.cl,c1,put,fillP,sub,EVt]
   exact hS
 ·exact hS.elim
theorem mov_snd : Snd Tryz.prog 53 (FSpec.of movG):=snd_run TIn_snd mixed Tryz.func53 dc53 300 fun args h K hc hS => by
 obtain ⟨a,b,m,rest,rfl,H,hS1⟩:=memF_spec hS
 clear hS
 have hS:=hS1
 clear hS1
 unfold movM at hS
 split at hS
 ·rename_i f t
  simp only [spec_ok] at hS
  by_cases c1 : m.fE f = 0
  ·by_cases c2 : (m.gX f).gE t = 0
   ·cases c3 : (m.gX f).eB t with
    | false =>
     simp only [M.mov,c1,c2,c3,Bool.false_eq_true,if_true,if_false] at hS
     simp (maxSteps:=9999999) only [EV0,zy,zx,zw,zv,zu,zq,zp,zj,zk,leT,zg,rvC,zZ,zY,zX,zW,↓zV,↓zU,reduceCtorEq,zQ,yz,yY,yy,yx,yw,yv,yu,yq,yX,yj,yk,yg,yW,yV,yU,yZ,yQ,xz,df53,TIn,fullG,memF_eq H,memF_set H,setM_fun H,fullM,empty2G,empty2M,slotF,slot_eta,cap_eta,Slot.cl,c1,c2,c3,put,fillP,sub,EVt]
     exact hS
    | true =>
     cases c4 : ((m.gX f).gX t).liB f (m.gV f) with
     | false =>
      simp only [M.mov,c1,c2,c3,c4,Bool.false_eq_true,if_true,if_false] at hS
      simp (maxSteps:=9999999) only [EV0,zy,zx,zw,zv,zu,zq,zp,zj,zk,leT,zg,rvC,zZ,zY,zX,zW,↓zV,↓zU,reduceCtorEq,zQ,yz,yY,yy,yx,yw,yv,yu,yq,yX,yj,yk,yg,yW,yV,yU,yZ,yQ,xz,df53,TIn,fullG,memF_eq H,memF_set H,setM_fun H,fullM,empty2G,empty2M,listedG,listedM,put2G,put2M,joinG,joinM,slotF,slot_eta,cap_eta,slotZ,capZ,Slot.cl,c1,c2,c3,c4,put,fillP,sub,EVt]
      exact hS
     | true =>
      simp only [M.mov,c1,c2,c3,c4,if_true] at hS
      simp (maxSteps:=9999999) only [EV0,zy,zx,zw,zv,zu,zq,zp,zj,zk,leT,zg,rvC,zZ,zY,zX,zW,↓zV,↓zU,reduceCtorEq,zQ,yz,yY,yy,yx,yw,yv,yu,yq,yX,yj,yk,yg,yW,yV,yU,yZ,yQ,xz,df53,TIn,fullG,memF_eq H,memF_set H,setM_fun H,fullM,empty2G,empty2M,listedG,listedM,put2G,put2M,joinG,joinM,slotF,slot_eta,cap_eta,slotZ,capZ,Slot.cl,c1,c2,c3,c4,put,fillP,sub,EVt]
      exact hS
   ·simp only [M.mov,c1,c2,if_true,if_false] at hS
    simp (maxSteps:=9999999) only [EV0,zy,zx,zw,zv,zu,zq,zp,zj,zk,leT,zg,rvC,zZ,zY,zX,zW,↓zV,↓zU,reduceCtorEq,zQ,yz,yY,yy,yx,yw,yv,yu,yq,yX,yj,yk,yg,yW,yV,yU,yZ,yQ,xz,df53,TIn,fullG,memF_eq H,memF_set H,setM_fun H,fullM,empty2G,empty2M,Slot.cl,c1,c2,put,fillP,sub,EVt]
    exact hS
  ·simp only [M.mov,c1,if_false] at hS
   simp (maxSteps:=9999999) only [EV0,zy,zx,zw,zv,zu,zq,zp,zj,zk,leT,zg,rvC,zZ,zY,zX,zW,↓zV,↓zU,reduceCtorEq,zQ,yz,yY,yy,yx,yw,yv,yu,yq,yX,yj,yk,yg,yW,yV,yU,yZ,yQ,xz,df53,TIn,fullG,memF_eq H,memF_set H,setM_fun H,fullM,Slot.cl,c1,put,fillP,sub,EVt]
   exact hS
 ·exact hS.elim

def saidM (b : Nat) (m : M) (st : M → List Blk) : List V → Res
 | [.s (.i .i64 2), .s (.i .i64 4), .s (.i .i64 4)] => .ok (.s (.i .i64 m.fst)) [] (st m.fstX)
 | _ => .bad
noncomputable def saidG:=memF saidM
def saysM (b : Nat) (m : M) (st : M → List Blk) : List V → Res
 | [.s (.i .i64 2), .s (.i .i64 n), .s (.i .i64 4), .s (.i .i64 4)] => .ok (.s (.i .i64 (m.sfE n))) [] (st (m.sfX n))
 | _ => .bad
noncomputable def saysG:=memF saysM
theorem kept_there (m : M) (n : Int) : keptB 4 4 m n = (m.has n 4 && (decide (4 ≤ n) && n.tmod 4 == 0)):=by
 have hl:=m.l
 have w1 : IntKind.i64.wrap ((m.w.length : Int) - 4) = m.w.length - 4:=wrap64 (by omega) (by omega)
 rw [Bool.eq_iff_iff]
 simp only [keptB,w1,M.has,Bool.and_eq_true,decide_eq_true_eq,beq_iff_eq]
 omega
noncomputable def TSd : Tab:=addT 189 thereG (addT 179 readG (addT 175 writeG (noT)))
theorem TSd_snd : TSd.Snd Tryz.prog:=addT_snd ok189 rthere_snd (addT_snd ok179 rread_snd (addT_snd ok175 rwrite_snd ((noT_snd _))))
theorem said_snd : Snd Tryz.prog 178 (FSpec.of saidG):=snd_run TSd_snd mixed Tryz.func178 dc178 200 fun args h K hc hS => by
 obtain ⟨a,b,m,rest,rfl,H,hS1⟩:=memF_spec hS
 clear hS
 have hS:=hS1
 clear hS1
 unfold saidM at hS
 split at hS
 ·simp only [spec_ok,M.fst,M.fstX,keptV,kept_there] at hS
  have w0 : IntKind.i64.wrap 0 = 0:=by decide
  cases hh : m.has 2 1 with
  | false =>
   simp only [hh,w0,Bool.false_eq_true,if_false,reduceLE,decide_false,Bool.false_and,Bool.and_false,and_false,setM_self H] at hS
   cases h1 : m.has 0 4
   all_goals (simp (maxSteps:=9999999) only [EV0,zy,zx,zw,zv,zu,zq,zp,zj,zk,leT,zg,rvC,zZ,zY,zX,zW,↓zV,↓zU,reduceCtorEq,zQ,yz,yY,yy,yx,yw,yv,yu,yq,yX,yj,yk,yg,yW,yV,yU,yZ,yQ,xz,df178,TSd,readG,thereG,memF_eq H,memF_set H,setM_fun H,readM,thereM,setM_self H,hh,h1,w0])
   all_goals exact hS
  | true =>
   simp only [hh,if_true] at hS
   have hu:=m.at_u 2
   obtain ⟨n,hn⟩ : ∃ n,m.at 2 = n:=⟨_,rfl⟩
   rw [hn] at hS hu
   by_cases c1 : n ≤ 65535
   ·have c1' : ¬ (65535 < n):=by omega
    have wn : IntKind.i64.wrap n = n:=wrap64 (by have:=hu.1; omega) (by omega)
    simp only [c1,wn,true_and] at hS
    cases c2 : m.has n 4 with
    | false =>
     simp only [c2,Bool.false_and,Bool.false_eq_true,if_false] at hS
     simp (maxSteps:=9999999) only [EV0,zy,zx,zw,zv,zu,zq,zp,zj,zk,leT,zg,rvC,zZ,zY,zX,zW,↓zV,↓zU,reduceCtorEq,zQ,yz,yY,yy,yx,yw,yv,yu,yq,yX,yj,yk,yg,yW,yV,yU,yZ,yQ,xz,df178,TSd,readG,thereG,memF_eq H,memF_set H,setM_fun H,readM,thereM,setM_self H,M.tick_has,hh,hn,c1',wn,c2]
     exact hS
    | true =>
     by_cases c3 : 4 ≤ n
     ·have c3' : ¬ n < 4:=by omega
      by_cases c4 : n.tmod 4 = 0
      ·simp only [c2,c3,c4,decide_true,beq_self_eq_true,Bool.and_self,if_true] at hS
       simp (maxSteps:=9999999) only [EV0,zy,zx,zw,zv,zu,zq,zp,zj,zk,leT,zg,rvC,zZ,zY,zX,zW,↓zV,↓zU,reduceCtorEq,zQ,yz,yY,yy,yx,yw,yv,yu,yq,yX,yj,yk,yg,yW,yV,yU,yZ,yQ,xz,df178,TSd,readG,thereG,memF_eq H,memF_set H,setM_fun H,readM,thereM,setM_self H,M.tick_has,hh,hn,c1',wn,c2,c3',c4]
       exact hS
      ·have c4' : (n.tmod 4 == 0) = false:=by simpa using c4
       simp only [c2,c3,c4',decide_true,Bool.and_false,Bool.false_eq_true,if_false] at hS
       simp (maxSteps:=9999999) only [EV0,zy,zx,zw,zv,zu,zq,zp,zj,zk,leT,zg,rvC,zZ,zY,zX,zW,↓zV,↓zU,reduceCtorEq,zQ,yz,yY,yy,yx,yw,yv,yu,yq,yX,yj,yk,yg,yW,yV,yU,yZ,yQ,xz,df178,TSd,readG,thereG,memF_eq H,memF_set H,setM_fun H,readM,thereM,setM_self H,M.tick_has,hh,hn,c1',wn,c2,c3',c4]
       exact hS
     ·have c3' : n < 4:=by omega
      simp only [c2,c3,decide_false,Bool.false_and,Bool.and_false,Bool.false_eq_true,if_false] at hS
      simp (maxSteps:=9999999) only [EV0,zy,zx,zw,zv,zu,zq,zp,zj,zk,leT,zg,rvC,zZ,zY,zX,zW,↓zV,↓zU,reduceCtorEq,zQ,yz,yY,yy,yx,yw,yv,yu,yq,yX,yj,yk,yg,yW,yV,yU,yZ,yQ,xz,df178,TSd,readG,thereG,memF_eq H,memF_set H,setM_fun H,readM,thereM,setM_self H,M.tick_has,hh,hn,c1',wn,c2,c3']
      exact hS
   ·have c1' : 65535 < n:=by omega
    simp only [c1,false_and,if_false] at hS
    simp (maxSteps:=9999999) only [EV0,zy,zx,zw,zv,zu,zq,zp,zj,zk,leT,zg,rvC,zZ,zY,zX,zW,↓zV,↓zU,reduceCtorEq,zQ,yz,yY,yy,yx,yw,yv,yu,yq,yX,yj,yk,yg,yW,yV,yU,yZ,yQ,xz,df178,TSd,readG,thereG,memF_eq H,memF_set H,setM_fun H,readM,thereM,setM_self H,hh,hn,c1']
    exact hS
 ·exact hS.elim
theorem says_snd : Snd Tryz.prog 181 (FSpec.of saysG):=snd_run TSd_snd mixed Tryz.func181 dc181 200 fun args h K hc hS => by
 obtain ⟨a,b,m,rest,rfl,H,hS1⟩:=memF_spec hS
 clear hS
 have hS:=hS1
 clear hS1
 unfold saysM at hS
 split at hS
 ·rename_i n
  simp only [spec_ok,M.sfE,M.sfX,kept_there] at hS
  have hun:=wrapu_u n
  by_cases c0 : n = 0
  ·subst c0
   have c5 : IntKind.u64.wrap 0 = 0:=by decide
   have c6 : u64 0:=u64_0
   simp only [beq_self_eq_true,Bool.true_or,true_and,c5] at hS
   cases hh : m.has 2 1
   all_goals simp only [hh,Bool.false_eq_true,if_true,if_false,setM_self H] at hS
   all_goals cases h1 : m.has 0 4
   all_goals (simp (maxSteps:=9999999) only [EV0,zy,zx,zw,zv,zu,zq,zp,zj,zk,leT,zg,rvC,zZ,zY,zX,zW,↓zV,↓zU,reduceCtorEq,zQ,yz,yY,yy,yx,yw,yv,yu,yq,yX,yj,yk,yg,yW,yV,yU,yZ,yQ,xz,df181,TSd,writeG,thereG,memF_eq H,memF_set H,setM_fun H,writeM,thereM,setM_self H,hh,h1,c5,c6])
   all_goals exact hS
  ·have c0' : (n == 0) = false:=by simpa using c0
   simp only [c0',Bool.false_or] at hS
   cases c2 : m.has n 4 with
   | false =>
    simp only [c2,Bool.false_and,Bool.false_eq_true,false_and,if_false,setM_self H] at hS
    simp (maxSteps:=9999999) only [EV0,zy,zx,zw,zv,zu,zq,zp,zj,zk,leT,zg,rvC,zZ,zY,zX,zW,↓zV,↓zU,reduceCtorEq,zQ,yz,yY,yy,yx,yw,yv,yu,yq,yX,yj,yk,yg,yW,yV,yU,yZ,yQ,xz,df181,TSd,writeG,thereG,memF_eq H,memF_set H,setM_fun H,writeM,thereM,setM_self H,c0,c2]
    exact hS
   | true =>
    by_cases c3 : 4 ≤ n
    ·have c3' : ¬ n < 4:=by omega
     by_cases c4 : n.tmod 4 = 0
     ·simp only [c2,c3,c4,decide_true,beq_self_eq_true,Bool.and_self,true_and] at hS
      cases hh : m.has 2 1
      all_goals simp only [hh,Bool.false_eq_true,if_true,if_false,setM_self H] at hS
      all_goals (simp (maxSteps:=9999999) only [EV0,zy,zx,zw,zv,zu,zq,zp,zj,zk,leT,zg,rvC,zZ,zY,zX,zW,↓zV,↓zU,reduceCtorEq,zQ,yz,yY,yy,yx,yw,yv,yu,yq,yX,yj,yk,yg,yW,yV,yU,yZ,yQ,xz,df181,TSd,writeG,thereG,memF_eq H,memF_set H,setM_fun H,writeM,thereM,setM_self H,hh,hun,c0,c2,c3',c4])
      all_goals exact hS
     ·have c4' : (n.tmod 4 == 0) = false:=by simpa using c4
      simp only [c2,c3,c4',decide_true,Bool.and_false,Bool.false_eq_true,false_and,if_false,setM_self H] at hS
      simp (maxSteps:=9999999) only [EV0,zy,zx,zw,zv,zu,zq,zp,zj,zk,leT,zg,rvC,zZ,zY,zX,zW,↓zV,↓zU,reduceCtorEq,zQ,yz,yY,yy,yx,yw,yv,yu,yq,yX,yj,yk,yg,yW,yV,yU,yZ,yQ,xz,df181,TSd,writeG,thereG,memF_eq H,memF_set H,setM_fun H,writeM,thereM,setM_self H,c0,c2,c3',c4]
      exact hS
    ·have c3' : n < 4:=by omega
     simp only [c2,c3,decide_false,Bool.false_and,Bool.and_false,Bool.false_eq_true,false_and,if_false,setM_self H] at hS
     simp (maxSteps:=9999999) only [EV0,zy,zx,zw,zv,zu,zq,zp,zj,zk,leT,zg,rvC,zZ,zY,zX,zW,↓zV,↓zU,reduceCtorEq,zQ,yz,yY,yy,yx,yw,yv,yu,yq,yX,yj,yk,yg,yW,yV,yU,yZ,yQ,xz,df181,TSd,writeG,thereG,memF_eq H,memF_set H,setM_fun H,writeM,thereM,setM_self H,c0,c2,c3']
     exact hS
 ·exact hS.elim
noncomputable def TSe : Tab:=addT 178 saidG (addT 181 saysG (noT))
theorem TSe_snd : TSe.Snd Tryz.prog:=addT_snd ok178 said_snd (addT_snd ok181 says_snd ((noT_snd _)))
theorem rfirst_snd : Snd Tryz.prog 122 (FSpec.of firstG):=snd_run TSe_snd mixed Tryz.func122 dc122 100 fun args h K hc hS => by
 obtain ⟨a,b,m,rest,rfl,H,hS1⟩:=memF_spec hS
 clear hS
 have hS:=hS1
 clear hS1
 unfold firstM at hS
 split at hS
 ·simp only [spec_ok] at hS
  simp (maxSteps:=9999999) only [EV0,zy,zx,zw,zv,zu,zq,zp,zj,zk,leT,zg,rvC,zZ,zY,zX,zW,↓zV,↓zU,reduceCtorEq,zQ,yz,yY,yy,yx,yw,yv,yu,yq,yX,yj,yk,yg,yW,yV,yU,yZ,yQ,xz,df122,TSe,saidG,memF_eq H,saidM]
  exact hS
 ·exact hS.elim
theorem rsetFirst_snd : Snd Tryz.prog 128 (FSpec.of setFirstG):=snd_run TSe_snd mixed Tryz.func128 dc128 100 fun args h K hc hS => by
 obtain ⟨a,b,m,rest,rfl,H,hS1⟩:=memF_spec hS
 clear hS
 have hS:=hS1
 clear hS1
 unfold setFirstM at hS
 split at hS
 ·simp only [spec_ok] at hS
  simp (maxSteps:=9999999) only [EV0,zy,zx,zw,zv,zu,zq,zp,zj,zk,leT,zg,rvC,zZ,zY,zX,zW,↓zV,↓zU,reduceCtorEq,zQ,yz,yY,yy,yx,yw,yv,yu,yq,yX,yj,yk,yg,yW,yV,yU,yZ,yQ,xz,df128,TSe,saysG,memF_eq H,saysM]
  exact hS
 ·exact hS.elim

def M.nkX (m : M) (p a : Int) : M:=if m.gE p = 0 then (m.gX p).pX p ⟨(m.gV p).cap,(m.gV p).prev,a,(m.gV p).depth⟩ else m.gX p
def M.lkX (m : M) (p a : Int) : M:=if p = 0 then m.sfX a else m.nkX p a
def M.bkX (m : M) (a n : Int) : M:=if ¬ n = 0 ∧ m.gE n = 0 then (m.gX n).pX n ⟨(m.gV n).cap,a,(m.gV n).next,(m.gV n).depth⟩ else m.gX n
def linksM (b : Nat) (m : M) (st : M → List Blk) : List V → Res
 | [.s (.i .i64 p), .s (.i .i64 a), .s (.i .i64 _)] => .ok (.tup []) [] (st (m.lkX p a))
 | _ => .bad
noncomputable def linksG:=memF linksM
def backM (b : Nat) (m : M) (st : M → List Blk) : List V → Res
 | [.s (.i .i64 a), .s (.i .i64 n)] => .ok (.tup []) [] (st (m.bkX a n))
 | _ => .bad
noncomputable def backG:=memF backM
noncomputable def TLk : Tab:=addT 126 get2G (addT 118 put2G (addT 128 setFirstG (noT)))
theorem TLk_snd : TLk.Snd Tryz.prog:=addT_snd ok126 rget2_snd (addT_snd ok118 rput2_snd (addT_snd ok128 rsetFirst_snd ((noT_snd _))))
theorem links_snd : Snd Tryz.prog 123 (FSpec.of linksG):=snd_run TLk_snd mixed Tryz.func123 dc123 200 fun args h K hc hS => by
 obtain ⟨a,b,m,rest,rfl,H,hS1⟩:=memF_spec hS
 clear hS
 have hS:=hS1
 clear hS1
 unfold linksM at hS
 split at hS
 ·rename_i p x n
  simp only [spec_ok,M.lkX,M.nkX] at hS
  by_cases c0 : p = 0
  ·simp only [c0,if_true] at hS
   simp (maxSteps:=9999999) only [EV0,zy,zx,zw,zv,zu,zq,zp,zj,zk,leT,zg,rvC,zZ,zY,zX,zW,↓zV,↓zU,reduceCtorEq,zQ,yz,yY,yy,yx,yw,yv,yu,yq,yX,yj,yk,yg,yW,yV,yU,yZ,yQ,xz,df123,TLk,setFirstG,memF_eq H,setFirstM,c0]
   exact hS
  ·by_cases c1 : m.gE p = 0
   ·simp only [c0,c1,if_true,if_false] at hS
    simp (maxSteps:=9999999) only [EV0,zy,zx,zw,zv,zu,zq,zp,zj,zk,leT,zg,rvC,zZ,zY,zX,zW,↓zV,↓zU,reduceCtorEq,zQ,yz,yY,yy,yx,yw,yv,yu,yq,yX,yj,yk,yg,yW,yV,yU,yZ,yQ,xz,df123,TLk,get2G,put2G,memF_eq H,memF_set H,setM_fun H,get2M,put2M,slotF,slot_eta,cap_eta,Slot.cl,c0,c1,put,fillP,sub,EVt]
    exact hS
   ·simp only [c0,c1,if_false] at hS
    simp (maxSteps:=9999999) only [EV0,zy,zx,zw,zv,zu,zq,zp,zj,zk,leT,zg,rvC,zZ,zY,zX,zW,↓zV,↓zU,reduceCtorEq,zQ,yz,yY,yy,yx,yw,yv,yu,yq,yX,yj,yk,yg,yW,yV,yU,yZ,yQ,xz,df123,TLk,get2G,put2G,memF_eq H,memF_set H,setM_fun H,get2M,put2M,slotF,slot_eta,cap_eta,Slot.cl,c0,c1,put,fillP,sub,EVt]
    exact hS
 ·exact hS.elim
theorem back_snd : Snd Tryz.prog 124 (FSpec.of backG):=snd_run TLk_snd mixed Tryz.func124 dc124 200 fun args h K hc hS => by
 obtain ⟨a,b,m,rest,rfl,H,hS1⟩:=memF_spec hS
 clear hS
 have hS:=hS1
 clear hS1
 unfold backM at hS
 split at hS
 ·rename_i x n
  simp only [spec_ok,M.bkX] at hS
  by_cases c0 : n = 0
  ·simp only [c0,not_true_eq_false,false_and,if_false] at hS
   simp (maxSteps:=9999999) only [EV0,zy,zx,zw,zv,zu,zq,zp,zj,zk,leT,zg,rvC,zZ,zY,zX,zW,↓zV,↓zU,reduceCtorEq,zQ,yz,yY,yy,yx,yw,yv,yu,yq,yX,yj,yk,yg,yW,yV,yU,yZ,yQ,xz,df124,TLk,get2G,put2G,memF_eq H,memF_set H,setM_fun H,get2M,put2M,slotF,slot_eta,cap_eta,Slot.cl,c0,put,fillP,sub,EVt]
   exact hS
  ·by_cases c1 : m.gE n = 0
   ·simp only [c0,c1,not_false_eq_true,and_self,if_true,if_false] at hS
    simp (maxSteps:=9999999) only [EV0,zy,zx,zw,zv,zu,zq,zp,zj,zk,leT,zg,rvC,zZ,zY,zX,zW,↓zV,↓zU,reduceCtorEq,zQ,yz,yY,yy,yx,yw,yv,yu,yq,yX,yj,yk,yg,yW,yV,yU,yZ,yQ,xz,df124,TLk,get2G,put2G,memF_eq H,memF_set H,setM_fun H,get2M,put2M,slotF,slot_eta,cap_eta,Slot.cl,c0,c1,put,fillP,sub,EVt]
    exact hS
   ·simp only [c0,c1,and_false,if_false] at hS
    simp (maxSteps:=9999999) only [EV0,zy,zx,zw,zv,zu,zq,zp,zj,zk,leT,zg,rvC,zZ,zY,zX,zW,↓zV,↓zU,reduceCtorEq,zQ,yz,yY,yy,yx,yw,yv,yu,yq,yX,yj,yk,yg,yW,yV,yU,yZ,yQ,xz,df124,TLk,get2G,put2G,memF_eq H,memF_set H,setM_fun H,get2M,put2M,slotF,slot_eta,cap_eta,Slot.cl,c0,c1,put,fillP,sub,EVt]
    exact hS
 ·exact hS.elim

def M.rins (m : M) (p a : Int) : Int × M :=
 if m.fE a = 0 then
  if (m.gX a).liB a (m.gV a) = true then (120,(m.gX a).fstX)
  else if p = 0 then (0,(((m.gX a).fstX.lkX (m.gV a).prev a).bkX a (m.gX a).fst).pX a ⟨(m.gV a).cap,(m.gV a).prev,(m.gX a).fst,(m.gV a).depth⟩)
  else if (m.gX a).fstX.fE p = 0 then
   if p = a ∨ ((m.gX a).fstX.gV p).depth = 65535 then (120,(m.gX a).fstX.gX p)
   else (0,((((m.gX a).fstX.gX p).lkX p a).bkX a ((m.gX a).fstX.gV p).next).pX a ⟨(m.gV a).cap,p,((m.gX a).fstX.gV p).next,IntKind.i64.wrap (((m.gX a).fstX.gV p).depth + 1)⟩)
  else ((m.gX a).fstX.fE p,(m.gX a).fstX.gX p)
 else (m.fE a,m.gX a)
def rinsM (b : Nat) (m : M) (st : M → List Blk) : List V → Res
 | [.s (.i .i64 p), .s (.i .i64 a)] => .ok (.s (.i .i64 (m.rins p a).1)) [] (st (m.rins p a).2)
 | _ => .bad
noncomputable def rinsG:=memF rinsM
def M.rmov (m : M) (f t : Int) : Int × M :=
 if m.fE f = 0 then
  if (m.gX f).gE t = 0 then
   if ((m.gX f).gV t).cap.ty = 0 then
    if (m.gV f).prev = 0 then
     (0,(if ((m.gX f).gX t).fst = f then (((((m.gX f).gX t).fstX.pX t (m.gV f)).pX f slotZ).lkX (m.gV f).prev t) else ((((m.gX f).gX t).fstX.pX t (m.gV f)).pX f slotZ)).bkX t (m.gV f).next)
    else (0,(((((m.gX f).gX t).pX t (m.gV f)).pX f slotZ).lkX (m.gV f).prev t).bkX t (m.gV f).next)
   else (120,(m.gX f).gX t)
  else ((m.gX f).gE t,(m.gX f).gX t)
 else (m.fE f,m.gX f)
def rmovM (b : Nat) (m : M) (st : M → List Blk) : List V → Res
 | [.s (.i .i64 f), .s (.i .i64 t)] => .ok (.s (.i .i64 (m.rmov f t).1)) [] (st (m.rmov f t).2)
 | _ => .bad
noncomputable def rmovG:=memF rmovM
noncomputable def TRi : Tab:=addT 98 fullG (addT 122 firstG (addT 126 get2G (addT 118 put2G (addT 123 linksG (addT 124 backG (addT 128 setFirstG (noT)))))))
theorem TRi_snd : TRi.Snd Tryz.prog:=addT_snd ok98 rfull_snd (addT_snd ok122 rfirst_snd (addT_snd ok126 rget2_snd (addT_snd ok118 rput2_snd (addT_snd ok123 links_snd (addT_snd ok124 back_snd (addT_snd ok128 rsetFirst_snd ((noT_snd _))))))))
theorem rins_snd : Snd Tryz.prog 52 (FSpec.of rinsG):=snd_run TRi_snd mixed Tryz.func52 dc52 300 fun args h K hc hS => by
 obtain ⟨a,b,m,rest,rfl,H,hS1⟩:=memF_spec hS
 clear hS
 have hS:=hS1
 clear hS1
 unfold rinsM at hS
 split at hS
 ·rename_i p x
  simp only [spec_ok] at hS
  by_cases c1 : m.fE x = 0
  ·obtain ⟨s,hs⟩ : ∃ s,m.gV x = s:=⟨_,rfl⟩
   cases c2 : (m.gX x).liB x (m.gV x) with
   | true =>
    simp only [M.rins,c1,c2,if_true] at hS
    simp only [M.liB,hs] at c2
    by_cases d1 : s.prev = 0
    ·by_cases d2 : s.next = 0
     ·by_cases d3 : s.depth = 0
      ·simp only [d1,d2,d3,beq_self_eq_true,Bool.and_self,Bool.not_true,Bool.false_or,beq_iff_eq] at c2
       simp (maxSteps:=9999999) only [EV0,zy,zx,zw,zv,zu,zq,zp,zj,zk,leT,zg,rvC,zZ,zY,zX,zW,↓zV,↓zU,reduceCtorEq,zQ,yz,yY,yy,yx,yw,yv,yu,yq,yX,yj,yk,yg,yW,yV,yU,yZ,yQ,xz,df52,TRi,fullG,memF_eq H,memF_set H,setM_fun H,fullM,firstG,firstM,Slot.cl,c1,c2,hs,d1,d2,d3,put,fillP,sub,EVt]
       exact hS
      ·simp (maxSteps:=9999999) only [EV0,zy,zx,zw,zv,zu,zq,zp,zj,zk,leT,zg,rvC,zZ,zY,zX,zW,↓zV,↓zU,reduceCtorEq,zQ,yz,yY,yy,yx,yw,yv,yu,yq,yX,yj,yk,yg,yW,yV,yU,yZ,yQ,xz,df52,TRi,fullG,memF_eq H,memF_set H,setM_fun H,fullM,firstG,firstM,Slot.cl,c1,hs,d1,d2,d3,put,fillP,sub,EVt]
       exact hS
     ·simp (maxSteps:=9999999) only [EV0,zy,zx,zw,zv,zu,zq,zp,zj,zk,leT,zg,rvC,zZ,zY,zX,zW,↓zV,↓zU,reduceCtorEq,zQ,yz,yY,yy,yx,yw,yv,yu,yq,yX,yj,yk,yg,yW,yV,yU,yZ,yQ,xz,df52,TRi,fullG,memF_eq H,memF_set H,setM_fun H,fullM,firstG,firstM,Slot.cl,c1,hs,d1,d2,put,fillP,sub,EVt]
      exact hS
    ·simp (maxSteps:=9999999) only [EV0,zy,zx,zw,zv,zu,zq,zp,zj,zk,leT,zg,rvC,zZ,zY,zX,zW,↓zV,↓zU,reduceCtorEq,zQ,yz,yY,yy,yx,yw,yv,yu,yq,yX,yj,yk,yg,yW,yV,yU,yZ,yQ,xz,df52,TRi,fullG,memF_eq H,memF_set H,setM_fun H,fullM,firstG,firstM,Slot.cl,c1,hs,d1,put,fillP,sub,EVt]
     exact hS
   | false =>
    have c2':=c2
    simp only [M.liB,hs,Bool.or_eq_false_iff,Bool.not_eq_false',Bool.and_eq_true,beq_iff_eq,beq_eq_false_iff_ne,ne_eq] at c2'
    obtain ⟨⟨d1,d2,d3⟩,d4⟩:=c2'
    have c2 : (m.gX x).liB x s = false:=by rw [← hs]; exact c2
    by_cases c3 : p = 0
    ·simp only [M.rins,c1,c2,c3,hs,d1,d3,Bool.false_eq_true,if_true,if_false] at hS
     simp (maxSteps:=9999999) only [EV0,zy,zx,zw,zv,zu,zq,zp,zj,zk,leT,zg,rvC,zZ,zY,zX,zW,↓zV,↓zU,reduceCtorEq,zQ,yz,yY,yy,yx,yw,yv,yu,yq,yX,yj,yk,yg,yW,yV,yU,yZ,yQ,xz,df52,TRi,fullG,memF_eq H,memF_set H,setM_fun H,fullM,firstG,firstM,linksG,linksM,backG,backM,put2G,put2M,slotF,slot_eta,cap_eta,Slot.cl,c1,c3,hs,d1,d2,d3,d4,put,fillP,sub,EVt]
     exact hS
    ·by_cases c4 : (m.gX x).fstX.fE p = 0
     ·by_cases c5 : p = x
      ·subst c5
       simp only [M.rins,c1,hs,c2,c3,c4,Bool.false_eq_true,if_true,if_false,true_or] at hS
       simp (maxSteps:=9999999) only [EV0,zy,zx,zw,zv,zu,zq,zp,zj,zk,leT,zg,rvC,zZ,zY,zX,zW,↓zV,↓zU,reduceCtorEq,zQ,yz,yY,yy,yx,yw,yv,yu,yq,yX,yj,yk,yg,yW,yV,yU,yZ,yQ,xz,df52,TRi,fullG,memF_eq H,memF_set H,setM_fun H,fullM,firstG,firstM,linksG,linksM,backG,backM,put2G,put2M,slotF,slot_eta,cap_eta,Slot.cl,c1,c3,c4,hs,d1,d2,d3,d4,put,fillP,sub,EVt]
       exact hS
      ·by_cases c6 : ((m.gX x).fstX.gV p).depth = 65535
       ·simp only [M.rins,c1,hs,c2,c3,c4,c5,c6,Bool.false_eq_true,if_true,if_false,or_true] at hS
        simp (maxSteps:=9999999) only [EV0,zy,zx,zw,zv,zu,zq,zp,zj,zk,leT,zg,rvC,zZ,zY,zX,zW,↓zV,↓zU,reduceCtorEq,zQ,yz,yY,yy,yx,yw,yv,yu,yq,yX,yj,yk,yg,yW,yV,yU,yZ,yQ,xz,df52,TRi,fullG,memF_eq H,memF_set H,setM_fun H,fullM,firstG,firstM,linksG,linksM,backG,backM,put2G,put2M,slotF,slot_eta,cap_eta,Slot.cl,c1,c3,c4,c5,c6,hs,d1,d2,d3,d4,put,fillP,sub,EVt]
        exact hS
       ·simp only [M.rins,c1,c2,c3,c4,c5,c6,hs,Bool.false_eq_true,if_true,if_false,or_self] at hS
        simp (maxSteps:=9999999) only [EV0,zy,zx,zw,zv,zu,zq,zp,zj,zk,leT,zg,rvC,zZ,zY,zX,zW,↓zV,↓zU,reduceCtorEq,zQ,yz,yY,yy,yx,yw,yv,yu,yq,yX,yj,yk,yg,yW,yV,yU,yZ,yQ,xz,df52,TRi,fullG,memF_eq H,memF_set H,setM_fun H,fullM,firstG,firstM,linksG,linksM,backG,backM,put2G,put2M,slotF,slot_eta,cap_eta,Slot.cl,c1,c3,c4,c5,c6,hs,d1,d2,d3,d4,put,fillP,sub,EVt]
        exact hS
     ·simp only [M.rins,c1,hs,c2,c3,c4,Bool.false_eq_true,if_true,if_false] at hS
      simp (maxSteps:=9999999) only [EV0,zy,zx,zw,zv,zu,zq,zp,zj,zk,leT,zg,rvC,zZ,zY,zX,zW,↓zV,↓zU,reduceCtorEq,zQ,yz,yY,yy,yx,yw,yv,yu,yq,yX,yj,yk,yg,yW,yV,yU,yZ,yQ,xz,df52,TRi,fullG,memF_eq H,memF_set H,setM_fun H,fullM,firstG,firstM,linksG,linksM,backG,backM,put2G,put2M,slotF,slot_eta,cap_eta,Slot.cl,c1,c3,c4,hs,d1,d2,d3,d4,put,fillP,sub,EVt]
      exact hS
  ·simp only [M.rins,c1,if_false] at hS
   simp (maxSteps:=9999999) only [EV0,zy,zx,zw,zv,zu,zq,zp,zj,zk,leT,zg,rvC,zZ,zY,zX,zW,↓zV,↓zU,reduceCtorEq,zQ,yz,yY,yy,yx,yw,yv,yu,yq,yX,yj,yk,yg,yW,yV,yU,yZ,yQ,xz,df52,TRi,fullG,memF_eq H,memF_set H,setM_fun H,fullM,Slot.cl,c1,put,fillP,sub,EVt]
   exact hS
 ·exact hS.elim
theorem rmov_snd : Snd Tryz.prog 54 (FSpec.of rmovG):=snd_run TRi_snd mixed Tryz.func54 dc54 300 fun args h K hc hS => by
 obtain ⟨a,b,m,rest,rfl,H,hS1⟩:=memF_spec hS
 clear hS
 have hS:=hS1
 clear hS1
 unfold rmovM at hS
 split at hS
 ·rename_i f t
  simp only [spec_ok] at hS
  by_cases c1 : m.fE f = 0
  ·by_cases c2 : (m.gX f).gE t = 0
   ·by_cases c3 : ((m.gX f).gV t).cap.ty = 0
    ·by_cases c4 : (m.gV f).prev = 0
     ·have he : m.gV f = ⟨(m.gV f).cap,0,(m.gV f).next,(m.gV f).depth⟩:=by rw [← c4]
      by_cases c5 : ((m.gX f).gX t).fst = f
      ·simp only [M.rmov,c1,c2,c3,c4,c5,if_true] at hS
       simp (maxSteps:=9999999) only [EV0,zy,zx,zw,zv,zu,zq,zp,zj,zk,leT,zg,rvC,zZ,zY,zX,zW,↓zV,↓zU,reduceCtorEq,zQ,yz,yY,yy,yx,yw,yv,yu,yq,yX,yj,yk,yg,yW,yV,yU,yZ,yQ,xz,df54,TRi,fullG,memF_eq H,memF_set H,setM_fun H,fullM,get2G,get2M,firstG,firstM,linksG,linksM,backG,backM,put2G,put2M,slotF,slot_eta,cap_eta,slotZ,capZ,Slot.cl,c1,c2,c3,c4,c5,put,fillP,sub,EVt]
       rw [he] at hS
       exact hS
      ·simp only [M.rmov,c1,c2,c3,c4,c5,if_true,if_false] at hS
       simp (maxSteps:=9999999) only [EV0,zy,zx,zw,zv,zu,zq,zp,zj,zk,leT,zg,rvC,zZ,zY,zX,zW,↓zV,↓zU,reduceCtorEq,zQ,yz,yY,yy,yx,yw,yv,yu,yq,yX,yj,yk,yg,yW,yV,yU,yZ,yQ,xz,df54,TRi,fullG,memF_eq H,memF_set H,setM_fun H,fullM,get2G,get2M,firstG,firstM,linksG,linksM,backG,backM,put2G,put2M,slotF,slot_eta,cap_eta,slotZ,capZ,Slot.cl,c1,c2,c3,c4,c5,put,fillP,sub,EVt]
       rw [he] at hS
       exact hS
     ·simp only [M.rmov,c1,c2,c3,c4,if_true,if_false] at hS
      simp (maxSteps:=9999999) only [EV0,zy,zx,zw,zv,zu,zq,zp,zj,zk,leT,zg,rvC,zZ,zY,zX,zW,↓zV,↓zU,reduceCtorEq,zQ,yz,yY,yy,yx,yw,yv,yu,yq,yX,yj,yk,yg,yW,yV,yU,yZ,yQ,xz,df54,TRi,fullG,memF_eq H,memF_set H,setM_fun H,fullM,get2G,get2M,firstG,firstM,linksG,linksM,backG,backM,put2G,put2M,slotF,slot_eta,cap_eta,slotZ,capZ,Slot.cl,c1,c2,c3,c4,put,fillP,sub,EVt]
      exact hS
    ·simp only [M.rmov,c1,c2,c3,if_true,if_false] at hS
     simp (maxSteps:=9999999) only [EV0,zy,zx,zw,zv,zu,zq,zp,zj,zk,leT,zg,rvC,zZ,zY,zX,zW,↓zV,↓zU,reduceCtorEq,zQ,yz,yY,yy,yx,yw,yv,yu,yq,yX,yj,yk,yg,yW,yV,yU,yZ,yQ,xz,df54,TRi,fullG,memF_eq H,memF_set H,setM_fun H,fullM,get2G,get2M,Slot.cl,c1,c2,c3,put,fillP,sub,EVt]
     exact hS
   ·simp only [M.rmov,c1,c2,if_true,if_false] at hS
    simp (maxSteps:=9999999) only [EV0,zy,zx,zw,zv,zu,zq,zp,zj,zk,leT,zg,rvC,zZ,zY,zX,zW,↓zV,↓zU,reduceCtorEq,zQ,yz,yY,yy,yx,yw,yv,yu,yq,yX,yj,yk,yg,yW,yV,yU,yZ,yQ,xz,df54,TRi,fullG,memF_eq H,memF_set H,setM_fun H,fullM,get2G,get2M,Slot.cl,c1,c2,put,fillP,sub,EVt]
    exact hS
  ·simp only [M.rmov,c1,if_false] at hS
   simp (maxSteps:=9999999) only [EV0,zy,zx,zw,zv,zu,zq,zp,zj,zk,leT,zg,rvC,zZ,zY,zX,zW,↓zV,↓zU,reduceCtorEq,zQ,yz,yY,yy,yx,yw,yv,yu,yq,yX,yj,yk,yg,yW,yV,yU,yZ,yQ,xz,df54,TRi,fullG,memF_eq H,memF_set H,setM_fun H,fullM,Slot.cl,c1,put,fillP,sub,EVt]
   exact hS
 ·exact hS.elim
end Go.Proofs.YtcdfofeolgbnbaaGreat

