/- A memory seen slot by slot: what a put slot,a new beginning change,and nothing else. -/
import Derived.Test.YtcdfofeolgbnbaaGreatZ11
import Derived.Test.YtcdfofeolgbnbaaGreatZ19
/- Package cdt: turn,join. -/
namespace Go.Proofs.YtcdfofeolgbnbaaGreat
open Go.D
set_option linter.all false
set_option maxRecDepth 100000
set_option maxHeartbeats 4000000

def M.turnX (m:M) (a:Int) (g:Slot->Slot):M:=if a=0 then m else if m.fE a=0 then (m.gX a).pX a (g (m.gV a)) else m.gX a
def turnM (b:Nat) (m:M) (st:M->List Blk):List V->Res
 | [.s (.i .i64 a), .s (.fn f cs)]=>match chg (st m) f cs with
  | some g=>.ok (.tup []) [] (st (m.turnX a g))
  | none=>.bad
 | _=>.bad
noncomputable def turnG:=memF turnM
noncomputable def TTn:Tab:=addT 74 fullG (addT 79 put2G (addT 176 jn1G (addT 177 jn2G (addT 77 depG (addT 78 depG (addT 81 rm3G (addT 82 rm4G (noT))))))))
theorem TTn_snd:TTn.Snd Tryz.prog:=addT_snd ok74 full_snd (addT_snd ok79 put2_snd (addT_snd ok176 jn1_snd (addT_snd ok177 jn2_snd (addT_snd ok77 dep1_snd (addT_snd ok78 dep2_snd (addT_snd ok81 rm3_snd (addT_snd ok82 rm4_snd ((noT_snd _)))))))))
theorem turn_snd:Snd Tryz.prog 76 (FSpec.of turnG):=snd_run TTn_snd mixed Tryz.func76 dc76 200 fun args h K hc hS=>by
 obtain ⟨a,b,m,rest,rfl,H,hS1⟩:=memF_spec hS
 clear hS
 have hS:=hS1
 clear hS1
 unfold turnM at hS
 split at hS
 ·rename_i x f cs
  simp only [setM_self H] at hS
  split at hS
  ·rename_i g hg
   simp only [spec_ok] at hS
   have hcm:∀ m',clean (setM h a b m').length (setM h a b m')=true:=fun m'=>by rw [setM_len]; exact setM_clean H hc H.ltb
   have hcm':∀ m',clean h.length (setM h a b m')=true:=fun m'=>setM_clean H hc H.ltb
   by_cases c0:x=0
   ·simp only [M.turnX,c0,if_true,setM_self H] at hS
    simp (maxSteps:=999999) only [go_sem,simprocAttr,↓qT,↓qF,df76,c0]
    exact hS
   by_cases c1:m.fE x=0
   ·simp only [M.turnX,c0,c1,if_false,if_true] at hS
    obtain ⟨s,hs⟩:∃ s,m.gV x=s:=⟨_,rfl⟩
    rw [hs] at hS
    have hs1:∀ m',slotAt (setM h a b m'++[⟨.rw,s.cl,14⟩]) h.length=some s:=fun m'=>slotAt_eq (by rw [List.getElem?_append_right (by rw [setM_len]; omega),setM_len,Nat.sub_self]; rfl)
    have hst:∀ m' B B',(setM h a b m'++[B]).set h.length B'=setM h a b m'++[B']:=fun m' B B'=>by rw [List.set_append_right _ _ (by rw [setM_len]; omega),setM_len,Nat.sub_self]; rfl
    simp only [Slot.cl] at hs1
    unfold chg at hg
    split at hg
    ·split at hg
     ·rename_i hf
      cases hg
      rcases hf with rfl|rfl
      all_goals (simp (maxSteps:=999999) only [go_sem,simprocAttr,↓qT,↓qF,df76,TTn,fullG,memF_eq H,memF_set H,setM_fun H,fullM,put2G,put2M,slotF,slot_eta,cap_eta,Slot.cl,c0,c1,hs,depG,hs1,hst,R.lend,R.unlend,S_ren,C.ren,V.ren,Blk.ren,take_app,drop_app,Nat.not_lt_zero,Nat.lt_irrefl,Nat.add_sub_cancel_left,Nat.not_lt,Nat.le_add_right,setM_len,hcm,hcm',put,fillP,sub,EVt])
      all_goals exact hS
     ·cases hg
    ·rename_i k
     have hlt:∀ {B:Blk},h[k]?=some B->k<h.length:=fun e=>(List.getElem?_eq_some_iff.1 e).1
     split at hg
     ·rename_i hf
      subst hf
      split at hg
      ·rename_i v hv
       cases hg
       obtain ⟨room,e2⟩:=cellAt_some hv
       have hv1:∀ m' B,cellAt (setM h a b m'++[B]) k=some v:=fun m' B=>cellAt_eq (by rw [List.getElem?_append_left (by rw [setM_len]; exact hlt e2)]; exact cell_setM H e2 m')
       simp (maxSteps:=999999) only [go_sem,simprocAttr,↓qT,↓qF,df76,TTn,fullG,memF_eq H,memF_set H,setM_fun H,fullM,put2G,put2M,slotF,slot_eta,cap_eta,Slot.cl,c0,c1,hs,jn1G,hs1,hst,hv1,R.lend,R.unlend,S_ren,C.ren,V.ren,Blk.ren,take_app,drop_app,Nat.not_lt_zero,Nat.lt_irrefl,Nat.add_sub_cancel_left,Nat.not_lt,Nat.le_add_right,setM_len,hcm,hcm',put,fillP,sub,EVt]
       exact hS
      ·cases hg
     split at hg
     ·rename_i hf
      subst hf
      split at hg
      ·rename_i v hv
       cases hg
       obtain ⟨room,e2⟩:=cellAt_some hv
       have hv1:∀ m' B,cellAt (setM h a b m'++[B]) k=some v:=fun m' B=>cellAt_eq (by rw [List.getElem?_append_left (by rw [setM_len]; exact hlt e2)]; exact cell_setM H e2 m')
       simp (maxSteps:=999999) only [go_sem,simprocAttr,↓qT,↓qF,df76,TTn,fullG,memF_eq H,memF_set H,setM_fun H,fullM,put2G,put2M,slotF,slot_eta,cap_eta,Slot.cl,c0,c1,hs,jn2G,hs1,hst,hv1,R.lend,R.unlend,S_ren,C.ren,V.ren,Blk.ren,take_app,drop_app,Nat.not_lt_zero,Nat.lt_irrefl,Nat.add_sub_cancel_left,Nat.not_lt,Nat.le_add_right,setM_len,hcm,hcm',put,fillP,sub,EVt]
       exact hS
      ·cases hg
     split at hg
     ·rename_i hf
      subst hf
      split at hg
      ·rename_i v hv
       cases hg
       have e2:=slotAt_some hv
       have hv1:∀ m' B,slotAt (setM h a b m'++[B]) k=some v:=fun m' B=>slotAt_eq (by rw [List.getElem?_append_left (by rw [setM_len]; exact hlt e2)]; exact slot_setM H e2 m')
       simp (maxSteps:=999999) only [go_sem,simprocAttr,↓qT,↓qF,df76,TTn,fullG,memF_eq H,memF_set H,setM_fun H,fullM,put2G,put2M,slotF,slot_eta,cap_eta,Slot.cl,c0,c1,hs,rm3G,hs1,hst,hv1,R.lend,R.unlend,S_ren,C.ren,V.ren,Blk.ren,take_app,drop_app,Nat.not_lt_zero,Nat.lt_irrefl,Nat.add_sub_cancel_left,Nat.not_lt,Nat.le_add_right,setM_len,hcm,hcm',put,fillP,sub,EVt]
       exact hS
      ·cases hg
     split at hg
     ·rename_i hf
      subst hf
      split at hg
      ·rename_i v hv
       cases hg
       have e2:=slotAt_some hv
       have hv1:∀ m' B,slotAt (setM h a b m'++[B]) k=some v:=fun m' B=>slotAt_eq (by rw [List.getElem?_append_left (by rw [setM_len]; exact hlt e2)]; exact slot_setM H e2 m')
       simp (maxSteps:=999999) only [go_sem,simprocAttr,↓qT,↓qF,df76,TTn,fullG,memF_eq H,memF_set H,setM_fun H,fullM,put2G,put2M,slotF,slot_eta,cap_eta,Slot.cl,c0,c1,hs,rm4G,hs1,hst,hv1,R.lend,R.unlend,S_ren,C.ren,V.ren,Blk.ren,take_app,drop_app,Nat.not_lt_zero,Nat.lt_irrefl,Nat.add_sub_cancel_left,Nat.not_lt,Nat.le_add_right,setM_len,hcm,hcm',put,fillP,sub,EVt]
       exact hS
      ·cases hg
     ·cases hg
    ·cases hg
   ·simp only [M.turnX,c0,c1,if_false] at hS
    simp (maxSteps:=999999) only [go_sem,simprocAttr,↓qT,↓qF,df76,TTn,fullG,memF_eq H,fullM,Slot.cl,c0,c1,put,fillP,sub,EVt]
    exact hS
  ·exact hS.elim
 ·exact hS.elim

def M.joinX (m:M) (p a n:Int):M:=((if p=0 then m.sfX a else m).turnX p fun s=>⟨s.cap,s.prev,a,s.depth⟩).turnX n fun s=>⟨s.cap,a,s.next,s.depth⟩
def joinM (b:Nat) (m:M) (st:M->List Blk):List V->Res
 | [.s (.i .i64 p), .s (.i .i64 a), .s (.i .i64 n)]=>.ok (.tup []) [] (st (m.joinX p a n))
 | _=>.bad
noncomputable def joinG:=memF joinM
noncomputable def TJn:Tab:=addT 76 turnG (addT 80 setFirstG (noT))
theorem TJn_snd:TJn.Snd Tryz.prog:=addT_snd ok76 turn_snd (addT_snd ok80 setFirst_snd ((noT_snd _)))
theorem join_snd:Snd Tryz.prog 119 (FSpec.of joinG):=snd_run TJn_snd mixed Tryz.func119 dc119 200 fun args h K hc hS=>by
 obtain ⟨a,b,m,rest,rfl,H,hS1⟩:=memF_spec hS
 clear hS
 have hS:=hS1
 clear hS1
 unfold joinM at hS
 split at hS
 ·rename_i p x n
  simp only [spec_ok,M.joinX] at hS
  have hcm:∀ m',clean h.length (setM h a b m')=true:=fun m'=>setM_clean H hc H.ltb
  have hcl:∀ m',cellAt (setM h a b m'++[⟨.rw,[.i .i64 x],1⟩]) h.length=some x:=fun m'=>cellAt_eq (room:=1) (by rw [List.getElem?_append_right (by rw [setM_len]; omega),setM_len,Nat.sub_self]; rfl)
  have t1:∀ m' q,turnG [.s (.p (.g a) 0), .s (.i .i64 q), .s (.fn 176 [(.g h.length,0)])] (setM h a b m'++[⟨.rw,[.i .i64 x],1⟩])=.ok (.tup []) [] (setM h a b (m'.turnX q fun s=>⟨s.cap,s.prev,x,s.depth⟩)++[⟨.rw,[.i .i64 x],1⟩]):=fun m' q=>by
   unfold turnG
   rw [memF_app H]
   simp only [turnM,chg,if_true,hcl]
  have t2:∀ m' q,turnG [.s (.p (.g a) 0), .s (.i .i64 q), .s (.fn 177 [(.g h.length,0)])] (setM h a b m'++[⟨.rw,[.i .i64 x],1⟩])=.ok (.tup []) [] (setM h a b (m'.turnX q fun s=>⟨s.cap,x,s.next,s.depth⟩)++[⟨.rw,[.i .i64 x],1⟩]):=fun m' q=>by
   unfold turnG
   rw [memF_app H]
   simp only [turnM,chg,if_true,hcl,Nat.reduceEqDiff,if_false]
  have t0:∀ q,turnG [.s (.p (.g a) 0), .s (.i .i64 q), .s (.fn 176 [(.g h.length,0)])] (h++[⟨.rw,[.i .i64 x],1⟩])=.ok (.tup []) [] (setM h a b (m.turnX q fun s=>⟨s.cap,s.prev,x,s.depth⟩)++[⟨.rw,[.i .i64 x],1⟩]):=fun q=>by
   have:=t1 m q
   rw [setM_self H] at this
   exact this
  by_cases c0:p=0
  ·simp only [c0,if_true] at hS
   simp (maxSteps:=999999) only [go_sem,simprocAttr,↓qT,↓qF,df119,TJn,setFirstG,memF_eq H,setFirstM,t1,t2,t0,R.lend,R.unlend,S_ren,C.ren,V.ren,Blk.ren,take_app,drop_app,Nat.not_lt_zero,Nat.lt_irrefl,Nat.add_sub_cancel_left,Nat.not_lt,Nat.le_add_right,setM_len,hcm,hc,c0]
   exact hS
  ·simp only [c0,if_false] at hS
   simp (maxSteps:=999999) only [go_sem,simprocAttr,↓qT,↓qF,df119,TJn,setFirstG,memF_eq H,setFirstM,t1,t2,t0,R.lend,R.unlend,S_ren,C.ren,V.ren,Blk.ren,take_app,drop_app,Nat.not_lt_zero,Nat.lt_irrefl,Nat.add_sub_cancel_left,Nat.not_lt,Nat.le_add_right,setM_len,hcm,hc,c0]
   exact hS
 ·exact hS.elim

def M.ins (m:M) (p a:Int):Int×M :=
 if m.fE a=0 then
  if (m.gX a).liB a (m.gV a)=true then (120,(m.gX a).liX (m.gV a))
  else if p=0 then (0,((((m.gX a).liX (m.gV a)).fstX.pX a ⟨(m.gV a).cap,(m.gV a).prev,((m.gX a).liX (m.gV a)).fst,(m.gV a).depth⟩).joinX (m.gV a).prev a ((m.gX a).liX (m.gV a)).fst))
  else if (((m.gX a).liX (m.gV a)).fstX).fE p=0 then
   if p=a\/((((m.gX a).liX (m.gV a)).fstX).gV p).depth=65535 then (120,(((m.gX a).liX (m.gV a)).fstX).gX p)
   else (0,(((((m.gX a).liX (m.gV a)).fstX).gX p).pX a ⟨(m.gV a).cap,p,((((m.gX a).liX (m.gV a)).fstX).gV p).next,IntKind.i64.wrap (((((m.gX a).liX (m.gV a)).fstX).gV p).depth+1)⟩).joinX p a ((((m.gX a).liX (m.gV a)).fstX).gV p).next)
  else ((((m.gX a).liX (m.gV a)).fstX).fE p,(((m.gX a).liX (m.gV a)).fstX).gX p)
 else (m.fE a,m.gX a)
def insM (b:Nat) (m:M) (st:M->List Blk):List V->Res
 | [.s (.i .i64 p), .s (.i .i64 a)]=>.ok (.s (.i .i64 (m.ins p a).1)) [] (st (m.ins p a).2)
 | _=>.bad
noncomputable def insG:=memF insM
noncomputable def TIn:Tab:=addT 74 fullG (addT 75 listedG (addT 100 firstG (addT 79 put2G (addT 125 empty2G (addT 119 joinG (noT))))))
theorem TIn_snd:TIn.Snd Tryz.prog:=addT_snd ok74 full_snd (addT_snd ok75 listed_snd (addT_snd ok100 first_snd (addT_snd ok79 put2_snd (addT_snd ok125 empty2_snd (addT_snd ok119 join_snd ((noT_snd _)))))))
theorem ins_snd:Snd Tryz.prog 45 (FSpec.of insG):=snd_run TIn_snd mixed Tryz.func45 dc45 300 fun args h K hc hS=>by
 obtain ⟨a,b,m,rest,rfl,H,hS1⟩:=memF_spec hS
 clear hS
 have hS:=hS1
 clear hS1
 unfold insM at hS
 split at hS
 ·rename_i p x
  simp only [spec_ok] at hS
  by_cases c1:m.fE x=0
  ·cases c2:(m.gX x).liB x (m.gV x) with
   | true =>
    simp only [M.ins,c1,c2,if_true] at hS
    simp (maxSteps:=999999) only [go_sem,simprocAttr,↓qT,↓qF,df45,TIn,fullG,memF_eq H,memF_set H,setM_fun H,fullM,listedG,listedM,slotF,slot_eta,cap_eta,Slot.cl,c1,c2,put,fillP,sub,EVt]
    exact hS
   | false =>
    by_cases c3:p=0
    ·simp only [M.ins,c1,c2,c3,Bool.false_eq_true,if_true,if_false] at hS
     simp (maxSteps:=999999) only [go_sem,simprocAttr,↓qT,↓qF,df45,TIn,fullG,memF_eq H,memF_set H,setM_fun H,fullM,listedG,listedM,firstG,firstM,put2G,put2M,joinG,joinM,slotF,slot_eta,cap_eta,Slot.cl,c1,c2,c3,put,fillP,sub,EVt]
     exact hS
    ·by_cases c4:(((m.gX x).liX (m.gV x)).fstX).fE p=0
     ·by_cases c5:p=x
      ·subst c5
       simp only [M.ins,c1,c2,c3,c4,Bool.false_eq_true,if_true,if_false,true_or] at hS
       simp (maxSteps:=999999) only [go_sem,simprocAttr,↓qT,↓qF,df45,TIn,fullG,memF_eq H,memF_set H,setM_fun H,fullM,listedG,listedM,firstG,firstM,put2G,put2M,joinG,joinM,slotF,slot_eta,cap_eta,Slot.cl,c1,c2,c3,c4,put,fillP,sub,EVt]
       exact hS
      ·by_cases c6:((((m.gX x).liX (m.gV x)).fstX).gV p).depth=65535
       ·simp only [M.ins,c1,c2,c3,c4,c5,c6,Bool.false_eq_true,if_true,if_false,or_true] at hS
        simp (maxSteps:=999999) only [go_sem,simprocAttr,↓qT,↓qF,df45,TIn,fullG,memF_eq H,memF_set H,setM_fun H,fullM,listedG,listedM,firstG,firstM,put2G,put2M,joinG,joinM,slotF,slot_eta,cap_eta,Slot.cl,c1,c2,c3,c4,c5,c6,put,fillP,sub,EVt]
        exact hS
       ·simp only [M.ins,c1,c2,c3,c4,c5,c6,Bool.false_eq_true,if_true,if_false,or_self] at hS
        simp (maxSteps:=999999) only [go_sem,simprocAttr,↓qT,↓qF,df45,TIn,fullG,memF_eq H,memF_set H,setM_fun H,fullM,listedG,listedM,firstG,firstM,put2G,put2M,joinG,joinM,slotF,slot_eta,cap_eta,Slot.cl,c1,c2,c3,c4,c5,c6,put,fillP,sub,EVt]
        repeat' first|exact hS|intro _|refine ⟨?_, ?_⟩
     ·simp only [M.ins,c1,c2,c3,c4,Bool.false_eq_true,if_true,if_false] at hS
      simp (maxSteps:=999999) only [go_sem,simprocAttr,↓qT,↓qF,df45,TIn,fullG,memF_eq H,memF_set H,setM_fun H,fullM,listedG,listedM,firstG,firstM,put2G,put2M,joinG,joinM,slotF,slot_eta,cap_eta,Slot.cl,c1,c2,c3,c4,put,fillP,sub,EVt]
      exact hS
  ·simp only [M.ins,c1,if_false] at hS
   simp (maxSteps:=999999) only [go_sem,simprocAttr,↓qT,↓qF,df45,TIn,fullG,memF_eq H,memF_set H,setM_fun H,fullM,Slot.cl,c1,put,fillP,sub,EVt]
   exact hS
 ·exact hS.elim

def saidM (b:Nat) (m:M) (st:M->List Blk):List V->Res
 | [.s (.i .i64 2), .s (.i .i64 4), .s (.i .i64 4)]=>.ok (.s (.i .i64 m.fst)) [] (st m.fstX)
 | _=>.bad
noncomputable def saidG:=memF saidM
def saysM (b:Nat) (m:M) (st:M->List Blk):List V->Res
 | [.s (.i .i64 2), .s (.i .i64 n), .s (.i .i64 4), .s (.i .i64 4)]=>.ok (.s (.i .i64 (m.sfE n))) [] (st (m.sfX n))
 | _=>.bad
noncomputable def saysG:=memF saysM
theorem kept_there (m:M) (n:Int):keptB 4 4 m n=(m.has n 4&&(decide (4<=n)&&n.tmod 4==0)):=by
 have hl:=m.l
 have w1:IntKind.i64.wrap ((m.w.length:Int)-4)=m.w.length-4:=wrap64 (by omega) (by omega)
 rw [Bool.eq_iff_iff]
 simp only [keptB,w1,M.has,Bool.and_eq_true,decide_eq_true_eq,beq_iff_eq]
 omega
noncomputable def TSd:Tab:=addT 189 thereG (addT 179 readG (addT 175 writeG (noT)))
theorem TSd_snd:TSd.Snd Tryz.prog:=addT_snd ok189 rthere_snd (addT_snd ok179 rread_snd (addT_snd ok175 rwrite_snd ((noT_snd _))))
theorem said_snd:Snd Tryz.prog 178 (FSpec.of saidG):=snd_run TSd_snd mixed Tryz.func178 dc178 200 fun args h K hc hS=>by
 obtain ⟨a,b,m,rest,rfl,H,hS1⟩:=memF_spec hS
 clear hS
 have hS:=hS1
 clear hS1
 unfold saidM at hS
 split at hS
 ·simp only [spec_ok,M.fst,M.fstX,keptV,kept_there] at hS
  have w0:IntKind.i64.wrap 0=0:=by decide
  cases hh:m.has 2 1 with
  | false =>
   simp only [hh,w0,Bool.false_eq_true,if_false,Int.reduceLE,decide_false,Bool.false_and,Bool.and_false,and_false,setM_self H] at hS
   cases h1:m.has 0 4
   all_goals (simp (maxSteps:=999999) only [go_sem,simprocAttr,↓qT,↓qF,df178,TSd,readG,thereG,memF_eq H,memF_set H,setM_fun H,readM,thereM,setM_self H,hh,h1,w0])
   all_goals exact hS
  | true =>
   simp only [hh,if_true] at hS
   have hu:=m.at_u 2
   obtain ⟨n,hn⟩:∃ n,m.at 2=n:=⟨_,rfl⟩
   rw [hn] at hS hu
   by_cases c1:n<=65535
   ·have c1':¬ (65535<n):=by omega
    have wn:IntKind.i64.wrap n=n:=wrap64 (by have:=hu.1; omega) (by omega)
    simp only [c1,wn,true_and] at hS
    cases c2:m.has n 4 with
    | false =>
     simp only [c2,Bool.false_and,Bool.false_eq_true,if_false] at hS
     simp (maxSteps:=999999) only [go_sem,simprocAttr,↓qT,↓qF,df178,TSd,readG,thereG,memF_eq H,memF_set H,setM_fun H,readM,thereM,setM_self H,M.tick_has,hh,hn,c1',wn,c2]
     exact hS
    | true =>
     by_cases c3:4<=n
     ·have c3':¬ n<4:=by omega
      by_cases c4:n.tmod 4=0
      ·simp only [c2,c3,c4,decide_true,beq_self_eq_true,Bool.and_self,if_true] at hS
       simp (maxSteps:=999999) only [go_sem,simprocAttr,↓qT,↓qF,df178,TSd,readG,thereG,memF_eq H,memF_set H,setM_fun H,readM,thereM,setM_self H,M.tick_has,hh,hn,c1',wn,c2,c3',c4]
       exact hS
      ·have c4':(n.tmod 4==0)=false:=by simpa using c4
       simp only [c2,c3,c4',decide_true,Bool.and_false,Bool.false_eq_true,if_false] at hS
       simp (maxSteps:=999999) only [go_sem,simprocAttr,↓qT,↓qF,df178,TSd,readG,thereG,memF_eq H,memF_set H,setM_fun H,readM,thereM,setM_self H,M.tick_has,hh,hn,c1',wn,c2,c3',c4]
       exact hS
     ·have c3':n<4:=by omega
      simp only [c2,c3,decide_false,Bool.false_and,Bool.and_false,Bool.false_eq_true,if_false] at hS
      simp (maxSteps:=999999) only [go_sem,simprocAttr,↓qT,↓qF,df178,TSd,readG,thereG,memF_eq H,memF_set H,setM_fun H,readM,thereM,setM_self H,M.tick_has,hh,hn,c1',wn,c2,c3']
      exact hS
   ·have c1':65535<n:=by omega
    simp only [c1,false_and,if_false] at hS
    simp (maxSteps:=999999) only [go_sem,simprocAttr,↓qT,↓qF,df178,TSd,readG,thereG,memF_eq H,memF_set H,setM_fun H,readM,thereM,setM_self H,hh,hn,c1']
    exact hS
 ·exact hS.elim
theorem says_snd:Snd Tryz.prog 181 (FSpec.of saysG):=snd_run TSd_snd mixed Tryz.func181 dc181 200 fun args h K hc hS=>by
 obtain ⟨a,b,m,rest,rfl,H,hS1⟩:=memF_spec hS
 clear hS
 have hS:=hS1
 clear hS1
 unfold saysM at hS
 split at hS
 ·rename_i n
  simp only [spec_ok,M.sfE,M.sfX,kept_there] at hS
  have hun:=wrapu_u n
  by_cases c0:n=0
  ·subst c0
   have c5:IntKind.u64.wrap 0=0:=by decide
   have c6:u64 0:=u64_0
   simp only [beq_self_eq_true,Bool.true_or,true_and,c5] at hS
   cases hh:m.has 2 1
   all_goals simp only [hh,Bool.false_eq_true,if_true,if_false,setM_self H] at hS
   all_goals cases h1:m.has 0 4
   all_goals (simp (maxSteps:=999999) only [go_sem,simprocAttr,↓qT,↓qF,df181,TSd,writeG,thereG,memF_eq H,memF_set H,setM_fun H,writeM,thereM,setM_self H,hh,h1,c5,c6])
   all_goals exact hS
  ·have c0':(n==0)=false:=by simpa using c0
   simp only [c0',Bool.false_or] at hS
   cases c2:m.has n 4 with
   | false =>
    simp only [c2,Bool.false_and,Bool.false_eq_true,false_and,if_false,setM_self H] at hS
    simp (maxSteps:=999999) only [go_sem,simprocAttr,↓qT,↓qF,df181,TSd,writeG,thereG,memF_eq H,memF_set H,setM_fun H,writeM,thereM,setM_self H,c0,c2]
    exact hS
   | true =>
    by_cases c3:4<=n
    ·have c3':¬ n<4:=by omega
     by_cases c4:n.tmod 4=0
     ·simp only [c2,c3,c4,decide_true,beq_self_eq_true,Bool.and_self,true_and] at hS
      cases hh:m.has 2 1
      all_goals simp only [hh,Bool.false_eq_true,if_true,if_false,setM_self H] at hS
      all_goals (simp (maxSteps:=999999) only [go_sem,simprocAttr,↓qT,↓qF,df181,TSd,writeG,thereG,memF_eq H,memF_set H,setM_fun H,writeM,thereM,setM_self H,hh,hun,c0,c2,c3',c4])
      all_goals exact hS
     ·have c4':(n.tmod 4==0)=false:=by simpa using c4
      simp only [c2,c3,c4',decide_true,Bool.and_false,Bool.false_eq_true,false_and,if_false,setM_self H] at hS
      simp (maxSteps:=999999) only [go_sem,simprocAttr,↓qT,↓qF,df181,TSd,writeG,thereG,memF_eq H,memF_set H,setM_fun H,writeM,thereM,setM_self H,c0,c2,c3',c4]
      exact hS
    ·have c3':n<4:=by omega
     simp only [c2,c3,decide_false,Bool.false_and,Bool.and_false,Bool.false_eq_true,false_and,if_false,setM_self H] at hS
     simp (maxSteps:=999999) only [go_sem,simprocAttr,↓qT,↓qF,df181,TSd,writeG,thereG,memF_eq H,memF_set H,setM_fun H,writeM,thereM,setM_self H,c0,c2,c3']
     exact hS
 ·exact hS.elim
noncomputable def TSe:Tab:=addT 178 saidG (addT 181 saysG (noT))
theorem TSe_snd:TSe.Snd Tryz.prog:=addT_snd ok178 said_snd (addT_snd ok181 says_snd ((noT_snd _)))
theorem rfirst_snd:Snd Tryz.prog 122 (FSpec.of firstG):=snd_run TSe_snd mixed Tryz.func122 dc122 100 fun args h K hc hS=>by
 obtain ⟨a,b,m,rest,rfl,H,hS1⟩:=memF_spec hS
 clear hS
 have hS:=hS1
 clear hS1
 unfold firstM at hS
 split at hS
 ·simp only [spec_ok] at hS
  simp (maxSteps:=999999) only [go_sem,simprocAttr,↓qT,↓qF,df122,TSe,saidG,memF_eq H,saidM]
  exact hS
 ·exact hS.elim
theorem rsetFirst_snd:Snd Tryz.prog 128 (FSpec.of setFirstG):=snd_run TSe_snd mixed Tryz.func128 dc128 100 fun args h K hc hS=>by
 obtain ⟨a,b,m,rest,rfl,H,hS1⟩:=memF_spec hS
 clear hS
 have hS:=hS1
 clear hS1
 unfold setFirstM at hS
 split at hS
 ·simp only [spec_ok] at hS
  simp (maxSteps:=999999) only [go_sem,simprocAttr,↓qT,↓qF,df128,TSe,saysG,memF_eq H,saysM]
  exact hS
 ·exact hS.elim

def M.nkX (m:M) (p a:Int):M:=if m.gE p=0 then (m.gX p).pX p ⟨(m.gV p).cap,(m.gV p).prev,a,(m.gV p).depth⟩ else m.gX p
def M.lkX (m:M) (p a:Int):M:=if p=0 then m.sfX a else m.nkX p a
def M.bkX (m:M) (a n:Int):M:=if ¬ n=0/\m.gE n=0 then (m.gX n).pX n ⟨(m.gV n).cap,a,(m.gV n).next,(m.gV n).depth⟩ else m.gX n
def linksM (b:Nat) (m:M) (st:M->List Blk):List V->Res
 | [.s (.i .i64 p), .s (.i .i64 a), .s (.i .i64 _)]=>.ok (.tup []) [] (st (m.lkX p a))
 | _=>.bad
noncomputable def linksG:=memF linksM
def backM (b:Nat) (m:M) (st:M->List Blk):List V->Res
 | [.s (.i .i64 a), .s (.i .i64 n)]=>.ok (.tup []) [] (st (m.bkX a n))
 | _=>.bad
noncomputable def backG:=memF backM
noncomputable def TLk:Tab:=addT 126 get2G (addT 118 put2G (addT 128 setFirstG (noT)))
theorem TLk_snd:TLk.Snd Tryz.prog:=addT_snd ok126 rget2_snd (addT_snd ok118 rput2_snd (addT_snd ok128 rsetFirst_snd ((noT_snd _))))
theorem links_snd:Snd Tryz.prog 123 (FSpec.of linksG):=snd_run TLk_snd mixed Tryz.func123 dc123 200 fun args h K hc hS=>by
 obtain ⟨a,b,m,rest,rfl,H,hS1⟩:=memF_spec hS
 clear hS
 have hS:=hS1
 clear hS1
 unfold linksM at hS
 split at hS
 ·rename_i p x n
  simp only [spec_ok,M.lkX,M.nkX] at hS
  by_cases c0:p=0
  ·simp only [c0,if_true] at hS
   simp (maxSteps:=999999) only [go_sem,simprocAttr,↓qT,↓qF,df123,TLk,setFirstG,memF_eq H,setFirstM,c0]
   exact hS
  ·by_cases c1:m.gE p=0
   ·simp only [c0,c1,if_true,if_false] at hS
    simp (maxSteps:=999999) only [go_sem,simprocAttr,↓qT,↓qF,df123,TLk,get2G,put2G,memF_eq H,memF_set H,setM_fun H,get2M,put2M,slotF,slot_eta,cap_eta,Slot.cl,c0,c1,put,fillP,sub,EVt]
    exact hS
   ·simp only [c0,c1,if_false] at hS
    simp (maxSteps:=999999) only [go_sem,simprocAttr,↓qT,↓qF,df123,TLk,get2G,put2G,memF_eq H,memF_set H,setM_fun H,get2M,put2M,slotF,slot_eta,cap_eta,Slot.cl,c0,c1,put,fillP,sub,EVt]
    exact hS
 ·exact hS.elim
theorem back_snd:Snd Tryz.prog 124 (FSpec.of backG):=snd_run TLk_snd mixed Tryz.func124 dc124 200 fun args h K hc hS=>by
 obtain ⟨a,b,m,rest,rfl,H,hS1⟩:=memF_spec hS
 clear hS
 have hS:=hS1
 clear hS1
 unfold backM at hS
 split at hS
 ·rename_i x n
  simp only [spec_ok,M.bkX] at hS
  by_cases c0:n=0
  ·simp only [c0,not_true_eq_false,false_and,if_false] at hS
   simp (maxSteps:=999999) only [go_sem,simprocAttr,↓qT,↓qF,df124,TLk,get2G,put2G,memF_eq H,memF_set H,setM_fun H,get2M,put2M,slotF,slot_eta,cap_eta,Slot.cl,c0,put,fillP,sub,EVt]
   exact hS
  ·by_cases c1:m.gE n=0
   ·simp only [c0,c1,not_false_eq_true,and_self,if_true,if_false] at hS
    simp (maxSteps:=999999) only [go_sem,simprocAttr,↓qT,↓qF,df124,TLk,get2G,put2G,memF_eq H,memF_set H,setM_fun H,get2M,put2M,slotF,slot_eta,cap_eta,Slot.cl,c0,c1,put,fillP,sub,EVt]
    exact hS
   ·simp only [c0,c1,and_false,if_false] at hS
    simp (maxSteps:=999999) only [go_sem,simprocAttr,↓qT,↓qF,df124,TLk,get2G,put2G,memF_eq H,memF_set H,setM_fun H,get2M,put2M,slotF,slot_eta,cap_eta,Slot.cl,c0,c1,put,fillP,sub,EVt]
    exact hS
 ·exact hS.elim

def M.rins (m:M) (p a:Int):Int×M :=
 if m.fE a=0 then
  if (m.gX a).liB a (m.gV a)=true then (120,(m.gX a).fstX)
  else if p=0 then (0,(((m.gX a).fstX.lkX (m.gV a).prev a).bkX a (m.gX a).fst).pX a ⟨(m.gV a).cap,(m.gV a).prev,(m.gX a).fst,(m.gV a).depth⟩)
  else if (m.gX a).fstX.fE p=0 then
   if p=a\/((m.gX a).fstX.gV p).depth=65535 then (120,(m.gX a).fstX.gX p)
   else (0,((((m.gX a).fstX.gX p).lkX p a).bkX a ((m.gX a).fstX.gV p).next).pX a ⟨(m.gV a).cap,p,((m.gX a).fstX.gV p).next,IntKind.i64.wrap (((m.gX a).fstX.gV p).depth+1)⟩)
  else ((m.gX a).fstX.fE p,(m.gX a).fstX.gX p)
 else (m.fE a,m.gX a)
def rinsM (b:Nat) (m:M) (st:M->List Blk):List V->Res
 | [.s (.i .i64 p), .s (.i .i64 a)]=>.ok (.s (.i .i64 (m.rins p a).1)) [] (st (m.rins p a).2)
 | _=>.bad
noncomputable def rinsG:=memF rinsM
noncomputable def TRi:Tab:=addT 98 fullG (addT 122 firstG (addT 126 get2G (addT 118 put2G (addT 123 linksG (addT 124 backG (addT 128 setFirstG (noT)))))))
theorem TRi_snd:TRi.Snd Tryz.prog:=addT_snd ok98 rfull_snd (addT_snd ok122 rfirst_snd (addT_snd ok126 rget2_snd (addT_snd ok118 rput2_snd (addT_snd ok123 links_snd (addT_snd ok124 back_snd (addT_snd ok128 rsetFirst_snd ((noT_snd _))))))))
theorem rins_snd:Snd Tryz.prog 52 (FSpec.of rinsG):=snd_run TRi_snd mixed Tryz.func52 dc52 300 fun args h K hc hS=>by
 obtain ⟨a,b,m,rest,rfl,H,hS1⟩:=memF_spec hS
 clear hS
 have hS:=hS1
 clear hS1
 unfold rinsM at hS
 split at hS
 ·rename_i p x
  simp only [spec_ok] at hS
  by_cases c1:m.fE x=0
  ·obtain ⟨s,hs⟩:∃ s,m.gV x=s:=⟨_,rfl⟩
   cases c2:(m.gX x).liB x (m.gV x) with
   | true =>
    simp only [M.rins,c1,c2,if_true] at hS
    simp only [M.liB,hs] at c2
    by_cases d1:s.prev=0
    ·by_cases d2:s.next=0
     ·by_cases d3:s.depth=0
      ·simp only [d1,d2,d3,beq_self_eq_true,Bool.and_self,Bool.not_true,Bool.false_or,beq_iff_eq] at c2
       simp (maxSteps:=999999) only [go_sem,simprocAttr,↓qT,↓qF,df52,TRi,fullG,memF_eq H,memF_set H,setM_fun H,fullM,firstG,firstM,Slot.cl,c1,c2,hs,d1,d2,d3,put,fillP,sub,EVt]
       exact hS
      ·simp (maxSteps:=999999) only [go_sem,simprocAttr,↓qT,↓qF,df52,TRi,fullG,memF_eq H,memF_set H,setM_fun H,fullM,firstG,firstM,Slot.cl,c1,hs,d1,d2,d3,put,fillP,sub,EVt]
       exact hS
     ·simp (maxSteps:=999999) only [go_sem,simprocAttr,↓qT,↓qF,df52,TRi,fullG,memF_eq H,memF_set H,setM_fun H,fullM,firstG,firstM,Slot.cl,c1,hs,d1,d2,put,fillP,sub,EVt]
      exact hS
    ·simp (maxSteps:=999999) only [go_sem,simprocAttr,↓qT,↓qF,df52,TRi,fullG,memF_eq H,memF_set H,setM_fun H,fullM,firstG,firstM,Slot.cl,c1,hs,d1,put,fillP,sub,EVt]
     exact hS
   | false =>
    have c2':=c2
    simp only [M.liB,hs,Bool.or_eq_false_iff,Bool.not_eq_false',Bool.and_eq_true,beq_iff_eq,beq_eq_false_iff_ne,ne_eq] at c2'
    obtain ⟨⟨d1,d2,d3⟩,d4⟩:=c2'
    have c2:(m.gX x).liB x s=false:=by rw [<-hs]; exact c2
    by_cases c3:p=0
    ·simp only [M.rins,c1,c2,c3,hs,d1,d3,Bool.false_eq_true,if_true,if_false] at hS
     simp (maxSteps:=999999) only [go_sem,simprocAttr,↓qT,↓qF,df52,TRi,fullG,memF_eq H,memF_set H,setM_fun H,fullM,firstG,firstM,linksG,linksM,backG,backM,put2G,put2M,slotF,slot_eta,cap_eta,Slot.cl,c1,c3,hs,d1,d2,d3,d4,put,fillP,sub,EVt]
     exact hS
    ·by_cases c4:(m.gX x).fstX.fE p=0
     ·by_cases c5:p=x
      ·subst c5
       simp only [M.rins,c1,hs,c2,c3,c4,Bool.false_eq_true,if_true,if_false,true_or] at hS
       simp (maxSteps:=999999) only [go_sem,simprocAttr,↓qT,↓qF,df52,TRi,fullG,memF_eq H,memF_set H,setM_fun H,fullM,firstG,firstM,linksG,linksM,backG,backM,put2G,put2M,slotF,slot_eta,cap_eta,Slot.cl,c1,c3,c4,hs,d1,d2,d3,d4,put,fillP,sub,EVt]
       exact hS
      ·by_cases c6:((m.gX x).fstX.gV p).depth=65535
       ·simp only [M.rins,c1,hs,c2,c3,c4,c5,c6,Bool.false_eq_true,if_true,if_false,or_true] at hS
        simp (maxSteps:=999999) only [go_sem,simprocAttr,↓qT,↓qF,df52,TRi,fullG,memF_eq H,memF_set H,setM_fun H,fullM,firstG,firstM,linksG,linksM,backG,backM,put2G,put2M,slotF,slot_eta,cap_eta,Slot.cl,c1,c3,c4,c5,c6,hs,d1,d2,d3,d4,put,fillP,sub,EVt]
        exact hS
       ·simp only [M.rins,c1,c2,c3,c4,c5,c6,hs,Bool.false_eq_true,if_true,if_false,or_self] at hS
        simp (maxSteps:=999999) only [go_sem,simprocAttr,↓qT,↓qF,df52,TRi,fullG,memF_eq H,memF_set H,setM_fun H,fullM,firstG,firstM,linksG,linksM,backG,backM,put2G,put2M,slotF,slot_eta,cap_eta,Slot.cl,c1,c3,c4,c5,c6,hs,d1,d2,d3,d4,put,fillP,sub,EVt]
        exact hS
     ·simp only [M.rins,c1,hs,c2,c3,c4,Bool.false_eq_true,if_true,if_false] at hS
      simp (maxSteps:=999999) only [go_sem,simprocAttr,↓qT,↓qF,df52,TRi,fullG,memF_eq H,memF_set H,setM_fun H,fullM,firstG,firstM,linksG,linksM,backG,backM,put2G,put2M,slotF,slot_eta,cap_eta,Slot.cl,c1,c3,c4,hs,d1,d2,d3,d4,put,fillP,sub,EVt]
      exact hS
  ·simp only [M.rins,c1,if_false] at hS
   simp (maxSteps:=999999) only [go_sem,simprocAttr,↓qT,↓qF,df52,TRi,fullG,memF_eq H,memF_set H,setM_fun H,fullM,Slot.cl,c1,put,fillP,sub,EVt]
   exact hS
 ·exact hS.elim

section
variable {m:M} {a x n:Int} {s:Slot}
theorem gX_w (m:M) (a:Int):(m.gX a).w=m.w:=by unfold M.gX; split<;>rfl
theorem fstX_w (m:M):m.fstX.w=m.w:=by unfold M.fstX; split<;>rfl
theorem liX_w (m:M) (s:Slot):(m.liX s).w=m.w:=by unfold M.liX; split; exact fstX_w m; rfl
theorem at_w {m m':M} (h:m'.w=m.w) (j:Int):m'.at j=m.at j:=by simp only [M.at,h]
theorem there_w {m m':M} (h:m'.w=m.w) (x:Int):thereB m' x=thereB m x:=by simp only [thereB,h]
theorem gE_w {m m':M} (h:m'.w=m.w) (x:Int):m'.gE x=m.gE x:=by simp only [M.gE,M.slotB,there_w h,at_w h]; rfl
theorem gV_w {m m':M} (h:m'.w=m.w) (x:Int):m'.gV x=m.gV x:=by simp only [M.gV,M.slotB,M.slotC,there_w h,at_w h]; rfl
theorem fst_w {m m':M} (h:m'.w=m.w):m'.fst=m.fst:=by simp only [M.fst,keptV,keptB,M.has,at_w h,h]; rfl
theorem fE_w {m m':M} (h:m'.w=m.w) (x:Int):m'.fE x=m.fE x:=by simp only [M.fE,gE_w h,gV_w h]
theorem liB_w {m m':M} (h:m'.w=m.w) (x:Int) (s:Slot):m'.liB x s=m.liB x s:=by simp only [M.liB,fst_w h]
theorem gX_gV (m:M) (a x:Int):(m.gX a).gV x=m.gV x:=gV_w (gX_w m a) x
theorem gX_fE (m:M) (a x:Int):(m.gX a).fE x=m.fE x:=fE_w (gX_w m a) x
theorem gX_fst (m:M) (a:Int):(m.gX a).fst=m.fst:=fst_w (gX_w m a)
theorem gX_liB (m:M) (a x:Int) (s:Slot):(m.gX a).liB x s=m.liB x s:=liB_w (gX_w m a) x s
theorem fstX_gV (m:M) (x:Int):m.fstX.gV x=m.gV x:=gV_w (fstX_w m) x
theorem fstX_fE (m:M) (x:Int):m.fstX.fE x=m.fE x:=fE_w (fstX_w m) x
theorem liX_gV (m:M) (s:Slot) (x:Int):(m.liX s).gV x=m.gV x:=gV_w (liX_w m s) x
theorem liX_fE (m:M) (s:Slot) (x:Int):(m.liX s).fE x=m.fE x:=fE_w (liX_w m s) x
theorem liX_fst (m:M) (s:Slot):(m.liX s).fst=m.fst:=fst_w (liX_w m s)
theorem gE_there (h:m.gE x=0):thereB m x=true/\m.slotB x=true:=by
 unfold M.gE at h
 split at h
 ·rename_i ht
  split at h
  ·rename_i hb; exact ⟨ht,hb⟩
  ·cases h
 ·cases h
theorem gE_zero (h1:thereB m x=true) (h2:m.slotB x=true):m.gE x=0:=by simp only [M.gE,h1,h2,if_true]
theorem there_ne0 (h:thereB m x=true):x≠0:=by have:=there_iff.1 h; omega

theorem pX_len (m:M) (a:Int) (s:Slot):(m.pX a s).w.length=m.w.length:=by
 unfold M.pX; split
 ·exact M.putS_len _ _ _
 ·rfl
theorem pX_gE (ht:thereB m a=true) (hr:slotRB s=true) (x:Int):(m.pX a s).gE x=if x=a then 0 else m.gE x:=by
 unfold M.pX
 rw [if_pos ⟨ht,hr⟩]
 by_cases e:x=a
 ·subst e
  rw [if_pos rfl]
  exact gE_zero (by rw [M.putS_there]; exact ht) (M.putS_slot ht hr).1
 ·rw [if_neg e]
  unfold M.gE
  rw [M.putS_there]
  by_cases hx:thereB m x=true
  ·rw [(M.putS_other ht hr hx (Ne.symm e)).1]
  ·rw [if_neg hx,if_neg hx]
theorem pX_gV (ht:thereB m a=true) (hr:slotRB s=true) (x:Int):(m.pX a s).gV x=if x=a then s else m.gV x:=by
 unfold M.pX
 rw [if_pos ⟨ht,hr⟩]
 by_cases e:x=a
 ·subst e
  rw [if_pos rfl]
  unfold M.gV
  rw [if_pos ⟨by rw [M.putS_there]; exact ht,(M.putS_slot ht hr).1⟩]
  exact (M.putS_slot ht hr).2
 ·rw [if_neg e]
  unfold M.gV
  rw [M.putS_there]
  by_cases hx:thereB m x=true
  ·rw [(M.putS_other ht hr hx (Ne.symm e)).1,(M.putS_other ht hr hx (Ne.symm e)).2]
  ·rw [if_neg fun h=>hx h.1,if_neg fun h=>hx h.1]
theorem pX_at (ht:thereB m a=true) (hr:slotRB s=true) {j:Int} (hj:0<=j) (hn:j<a\/a+3<j):(m.pX a s).at j=m.at j:=by
 unfold M.pX
 rw [if_pos ⟨ht,hr⟩,M.at_putS ht hr hj,if_neg (by omega),if_neg (by omega),if_neg (by omega),if_neg (by omega)]
theorem pX_fst (ht:thereB m a=true) (hr:slotRB s=true):(m.pX a s).fst=m.fst:=by
 have h1:=there_iff.1 ht
 have h2:=pX_at ht hr (j:=2) (by omega) (by omega)
 simp only [M.fst,keptV,keptB,M.has,h2,pX_len]
 rfl
theorem sfX_len (m:M) (n:Int):(m.sfX n).w.length=m.w.length:=by
 unfold M.sfX; split
 ·exact M.put_len _ _ _
 ·rfl
theorem sfX_there (m:M) (n x:Int):thereB (m.sfX n) x=thereB m x:=by simp only [thereB,sfX_len]
theorem sfX_at (m:M) (n:Int) {j:Int} (hj:0<=j) (h2:j≠2):(m.sfX n).at j=m.at j:=by
 unfold M.sfX; split
 ·simp only [M.at_tick,M.at_put]
  rw [if_neg (by omega)]
 ·rfl
theorem sfX_slotB (m:M) (n x:Int) (h:4<=x):(m.sfX n).slotB x=m.slotB x/\(m.sfX n).slotC x=m.slotC x:=by
 simp only [M.slotB,M.slotC,sfX_at m n (j:=x) (by omega) (by omega),sfX_at m n (j:=x+1) (by omega) (by omega),sfX_at m n (j:=x+2) (by omega) (by omega),sfX_at m n (j:=x+3) (by omega) (by omega),and_self]
theorem sfX_gE (m:M) (n x:Int):(m.sfX n).gE x=m.gE x:=by
 unfold M.gE
 rw [sfX_there]
 by_cases hx:thereB m x=true
 ·rw [(sfX_slotB m n x (there_iff.1 hx).1).1]
 ·rw [if_neg hx,if_neg hx]
theorem sfX_gV (m:M) (n x:Int):(m.sfX n).gV x=m.gV x:=by
 unfold M.gV
 rw [sfX_there]
 by_cases hx:thereB m x=true
 ·rw [(sfX_slotB m n x (there_iff.1 hx).1).1,(sfX_slotB m n x (there_iff.1 hx).1).2]
 ·rw [if_neg fun h=>hx h.1,if_neg fun h=>hx h.1]
theorem kept_is (m:M) (n:Int):keptB 4 4 m n=thereB m n:=by
 have hl:=m.l
 have w1:IntKind.i64.wrap ((m.w.length:Int)-4)=m.w.length-4:=wrap64 (by omega) (by omega)
 simp only [keptB,thereB,w1]
theorem sfX_two (hn:n=0\/thereB m n=true) (hl:4<=m.w.length):(m.sfX n).at 2=n:=by
 have hlt:=m.l
 have hh:m.has 2 1=true:=M.has_iff.2 (by omega)
 have hc:(n==0||keptB 4 4 m n)=true:=by
  rw [kept_is]
  rcases hn with rfl|h
  ·rfl
  ·rw [h,Bool.or_true]
 have hb:0<=n/\n<65536:=by
  rcases hn with rfl|h
  ·omega
  ·have:=there_iff.1 h; omega
 unfold M.sfX
 rw [if_pos ⟨hc,hh⟩,M.at_tick,M.at_put,if_pos (by simp; omega),IntKind.wrap_u64]
 simp only [uw]; omega
theorem sfX_fst (hn:n=0\/thereB m n=true) (hl:4<=m.w.length):(m.sfX n).fst=n:=by
 have hlt:=m.l
 have hh:(m.sfX n).has 2 1=true:=M.has_iff.2 (by rw [sfX_len]; omega)
 unfold M.fst
 rw [if_pos hh,sfX_two hn hl]
 unfold keptV
 rw [kept_is,sfX_there]
 rcases hn with rfl|h
 ·simp only [IntKind.wrap_i64]
  split<;>rfl
 ·have hb:=there_iff.1 h
  have hw:IntKind.i64.wrap n=n:=wrap64 (by omega) (by omega)
  rw [hw,if_pos ⟨by omega,h⟩]
end

structure M.Fr (m m':M):Prop where
 len:m'.w.length=m.w.length
 low:∀ j:Int,j=0\/j=1\/j=3->m'.at j=m.at j
 slot:∀ x,thereB m x=true->m'.gE x=0\/∀ k:Int,0<=k->k<=3->m'.at (x+k)=m.at (x+k)
 two:m.at 2=m.fst->m'.at 2=m'.fst
theorem M.Fr.refl (m:M):M.Fr m m:=⟨rfl,fun _ _=>rfl,fun _ _=>.inr fun _ _ _=>rfl,fun h=>h⟩
theorem M.Fr.there {m m':M} (h:M.Fr m m') (x:Int):thereB m' x=thereB m x:=by simp only [thereB,h.len]
theorem M.Fr.of_w {m m1 m2:M} (h:M.Fr m m1) (e:m2.w=m1.w):M.Fr m m2 :=
 ⟨by rw [e]; exact h.len,fun j hj=>by rw [at_w e]; exact h.low j hj,fun x hx=>by
  rcases h.slot x hx with h1|h1
  ·exact .inl (by rw [gE_w e]; exact h1)
  ·exact .inr fun k h2 h3=>by rw [at_w e]; exact h1 k h2 h3,fun h2=>by rw [at_w e,fst_w e]; exact h.two h2⟩
theorem M.Fr.from_w {m m' m1:M} (h:M.Fr m m1) (e:m'.w=m.w):M.Fr m' m1 :=
 ⟨by rw [e]; exact h.len,fun j hj=>by rw [at_w e]; exact h.low j hj,fun x hx=>by
  rcases h.slot x (by rw [<-there_w e]; exact hx) with h1|h1
  ·exact .inl h1
  ·exact .inr fun k h2 h3=>by rw [at_w e]; exact h1 k h2 h3,fun h2=>by rw [at_w e,fst_w e] at h2; exact h.two h2⟩
theorem M.Fr.pX {m m':M} (h:M.Fr m m') (a:Int) (s:Slot):M.Fr m (m'.pX a s):=by
 by_cases hc:thereB m' a=true/\slotRB s=true
 ·obtain ⟨ht,hr⟩:=hc
  have hb:=there_iff.1 ht
  refine ⟨by rw [pX_len]; exact h.len,fun j hj=>by rw [pX_at ht hr (by omega) (by omega)]; exact h.low j hj,fun x hx=>?_,fun h2=>by rw [pX_at ht hr (by omega) (by omega),pX_fst ht hr]; exact h.two h2⟩
  rw [pX_gE ht hr]
  by_cases e:x=a
  ·exact .inl (if_pos e)
  ·rw [if_neg e]
   rcases h.slot x hx with h1|h1
   ·exact .inl h1
   ·refine .inr fun k h2 h3=>?_
    have hx':=there_iff.1 hx
    rw [Int.tmod_eq_emod_of_nonneg (by omega)] at hx' hb
    rw [pX_at ht hr (by omega) (by omega)]
    exact h1 k h2 h3
 ·have:m'.pX a s=m':=by unfold M.pX; rw [if_neg hc]
  rw [this]; exact h
theorem M.Fr.sfX {m m':M} (h:M.Fr m m') {n:Int} (hl:4<=m.w.length):M.Fr m (m'.sfX n):=by
 by_cases hn:n=0\/thereB m' n=true
 ·refine ⟨by rw [sfX_len]; exact h.len,fun j hj=>by rw [sfX_at _ _ (by omega) (by omega)]; exact h.low j hj,fun x hx=>?_,fun _=>?_⟩
  ·rw [sfX_gE]
   rcases h.slot x hx with h1|h1
   ·exact .inl h1
   ·refine .inr fun k h2 h3=>?_
    have hx':=there_iff.1 hx
    rw [sfX_at _ _ (by omega) (by omega)]
    exact h1 k h2 h3
  ·rw [sfX_two hn (by rw [h.len]; exact hl),sfX_fst hn (by rw [h.len]; exact hl)]
 ·have:m'.sfX n=m':=by
   unfold M.sfX
   rw [kept_is,if_neg]
   simp only [Bool.or_eq_true,beq_iff_eq,not_and]
   exact fun hh=>absurd hh hn
  rw [this]; exact h
theorem slot_words {m:M} {x:Int} (h:m.gE x=0):m.at x=(m.gV x).cap.w0/\m.at (x+1)=(m.gV x).cap.num/\m.at (x+2)=(m.gV x).links/\m.at (x+3)=0:=by
 obtain ⟨h1,h2⟩:=gE_there h
 have e:m.gV x=m.slotC x:=by unfold M.gV; rw [if_pos ⟨h1,h2⟩]
 rw [e]
 simp only [M.slotB,slotB,Bool.and_eq_true,decide_eq_true_eq,beq_iff_eq] at h2
 obtain ⟨d1,d2,d3,d4⟩:=h2
 obtain ⟨_,b1,b2⟩:=dec_back (m.at_u x) d1
 have u2:=m.at_u (x+2)
 simp only [u64] at u2
 simp only [M.slotC,slotC,Slot.links]
 refine ⟨b1.symm,b2.symm, ?_,d3⟩
 omega
theorem M.Fr.det {m m1 m2:M} (h1:M.Fr m m1) (h2:M.Fr m m2) (hE:∀ x,m1.gE x=m2.gE x) (hV:∀ x,m1.gV x=m2.gV x) (hF:m1.fst=m2.fst) (h4:m.w.length%4=0) (htwo:m.at 2=m.fst):m1.w=m2.w:=by
 refine eq_of_nth (h1.len.trans h2.len.symm) fun i hi=>?_
 have key:m1.at (i:Int)=m2.at (i:Int):=by
  rcases Nat.lt_or_ge i 4 with hlt|hge
  ·have hc:(i:Int)=2\/((i:Int)=0\/(i:Int)=1\/(i:Int)=3):=by omega
   rcases hc with hc|hc
   ·rw [hc,h1.two htwo,h2.two htwo,hF]
   ·rw [h1.low _ hc,h2.low _ hc]
  ·obtain ⟨x,hx⟩:∃ x:Int,x=(i:Int)-(i:Int)%4:=⟨_,rfl⟩
   have hil:i<m.w.length:=by rw [<-h1.len]; exact hi
   have ht:thereB m x=true:=there_iff.2 ⟨by omega,by rw [Int.tmod_eq_emod_of_nonneg (by omega)]; omega,by omega⟩
   have hk:(i:Int)=x\/(i:Int)=x+1\/(i:Int)=x+2\/(i:Int)=x+3:=by omega
   by_cases e:m1.gE x=0
   ·obtain ⟨p0,p1,p2,p3⟩:=slot_words e
    obtain ⟨q0,q1,q2,q3⟩:=slot_words (show m2.gE x=0 by rw [<-hE]; exact e)
    rw [hV] at p0 p1 p2
    rcases hk with hk|hk|hk|hk<;>rw [hk]
    ·rw [p0,q0]
    ·rw [p1,q1]
    ·rw [p2,q2]
    ·rw [p3,q3]
   ·have w1:=(h1.slot x ht).resolve_left e
    have w2:=(h2.slot x ht).resolve_left (by rw [<-hE]; exact e)
    obtain ⟨k,hk2⟩:∃ k:Int,k=(i:Int)-x:=⟨_,rfl⟩
    have:(i:Int)=x+k:=by omega
    rw [this,w1 k (by omega) (by omega),w2 k (by omega) (by omega)]
 simpa [M.at] using key
end Go.Proofs.YtcdfofeolgbnbaaGreat

