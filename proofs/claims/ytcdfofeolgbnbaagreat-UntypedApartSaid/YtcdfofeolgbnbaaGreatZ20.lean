/- Links turned at a place's neighbours; Insert and Move,of the code and of the document,at slots that are in order. -/
import Derived.Test.YtcdfofeolgbnbaaGreatZ11
import Derived.Test.YtcdfofeolgbnbaaGreatZ19
/- The document's derivation list: First,SetFirst,links,back,Insert,Move. -/
namespace Go.Proofs.YtcdfofeolgbnbaaGreat
open Go.D
set_option linter.all false
set_option maxRecDepth 100000
set_option maxHeartbeats 4000000

def saidM (b:Nat) (m:M) (st:M->List Blk):List V->Res
 | [.s (.i .i64 2), .s (.i .i64 4), .s (.i .i64 4)]=>.ok (.s (.i .i64 m.fst)) [] (st m.fstX)
 | _=>.bad
noncomputable def saidG:=memF saidM
def saysM (b:Nat) (m:M) (st:M->List Blk):List V->Res
 | [.s (.i .i64 2), .s (.i .i64 n), .s (.i .i64 4), .s (.i .i64 4)]=>.ok (.s (.i .i64 (m.sfE n))) [] (st (m.sfX n))
 | _=>.bad
noncomputable def saysG:=memF saysM
theorem kept_there (m:M) (n:Int):keptB 4 4 m n=(m.has n 4&&(decide (4<=n)&&n.tmod 4==0)):=by
 have hl:=m.l
 have w1:IntKind.i64.wrap ((m.w.length:Int)-4)=m.w.length-4:=wrap64 (by omega) (by omega)
 rw [Bool.eq_iff_iff]
 simp only [keptB,w1,M.has,Bool.and_eq_true,decide_eq_true_eq,beq_iff_eq]
 omega
noncomputable def TSd:Tab:=addT 189 thereG (addT 179 readG (addT 175 writeG (noT)))
theorem TSd_snd:TSd.Snd Tryz.prog:=addT_snd ok189 rthere_snd (addT_snd ok179 rread_snd (addT_snd ok175 rwrite_snd ((noT_snd _))))
theorem said_snd:Snd Tryz.prog 178 (FSpec.of saidG):=snd_run TSd_snd mixed Tryz.func178 dc178 200 fun args h K hc hS=>by
 obtain ⟨a,b,m,rest,rfl,H,hS1⟩:=memF_spec hS
 clear hS
 have hS:=hS1
 clear hS1
 unfold saidM at hS
 split at hS
 ·simp only [spec_ok,M.fst,M.fstX,keptV,kept_there] at hS
  have w0:IntKind.i64.wrap 0=0:=by decide
  cases hh:m.has 2 1 with
  | false =>
   simp only [hh,w0,Bool.false_eq_true,if_false,Int.reduceLE,decide_false,Bool.false_and,Bool.and_false,and_false,setM_self H] at hS
   cases h1:m.has 0 4
   all_goals (simp (maxSteps:=999999) only [go_sem,simprocAttr,↓qT,↓qF,df178,TSd,readG,thereG,memF_eq H,memF_set H,setM_fun H,readM,thereM,setM_self H,hh,h1,w0])
   all_goals exact hS
  | true =>
   simp only [hh,if_true] at hS
   have hu:=m.at_u 2
   obtain ⟨n,hn⟩:∃ n,m.at 2=n:=⟨_,rfl⟩
   rw [hn] at hS hu
   by_cases c1:n<=65535
   ·have c1':¬ (65535<n):=by omega
    have wn:IntKind.i64.wrap n=n:=wrap64 (by have:=hu.1; omega) (by omega)
    simp only [c1,wn,true_and] at hS
    cases c2:m.has n 4 with
    | false =>
     simp only [c2,Bool.false_and,Bool.false_eq_true,if_false] at hS
     simp (maxSteps:=999999) only [go_sem,simprocAttr,↓qT,↓qF,df178,TSd,readG,thereG,memF_eq H,memF_set H,setM_fun H,readM,thereM,setM_self H,M.tick_has,hh,hn,c1',wn,c2]
     exact hS
    | true =>
     by_cases c3:4<=n
     ·have c3':¬ n<4:=by omega
      by_cases c4:n.tmod 4=0
      ·simp only [c2,c3,c4,decide_true,beq_self_eq_true,Bool.and_self,if_true] at hS
       simp (maxSteps:=999999) only [go_sem,simprocAttr,↓qT,↓qF,df178,TSd,readG,thereG,memF_eq H,memF_set H,setM_fun H,readM,thereM,setM_self H,M.tick_has,hh,hn,c1',wn,c2,c3',c4]
       exact hS
      ·have c4':(n.tmod 4==0)=false:=by simpa using c4
       simp only [c2,c3,c4',decide_true,Bool.and_false,Bool.false_eq_true,if_false] at hS
       simp (maxSteps:=999999) only [go_sem,simprocAttr,↓qT,↓qF,df178,TSd,readG,thereG,memF_eq H,memF_set H,setM_fun H,readM,thereM,setM_self H,M.tick_has,hh,hn,c1',wn,c2,c3',c4]
       exact hS
     ·have c3':n<4:=by omega
      simp only [c2,c3,decide_false,Bool.false_and,Bool.and_false,Bool.false_eq_true,if_false] at hS
      simp (maxSteps:=999999) only [go_sem,simprocAttr,↓qT,↓qF,df178,TSd,readG,thereG,memF_eq H,memF_set H,setM_fun H,readM,thereM,setM_self H,M.tick_has,hh,hn,c1',wn,c2,c3']
      exact hS
   ·have c1':65535<n:=by omega
    simp only [c1,false_and,if_false] at hS
    simp (maxSteps:=999999) only [go_sem,simprocAttr,↓qT,↓qF,df178,TSd,readG,thereG,memF_eq H,memF_set H,setM_fun H,readM,thereM,setM_self H,hh,hn,c1']
    exact hS
 ·exact hS.elim
theorem says_snd:Snd Tryz.prog 181 (FSpec.of saysG):=snd_run TSd_snd mixed Tryz.func181 dc181 200 fun args h K hc hS=>by
 obtain ⟨a,b,m,rest,rfl,H,hS1⟩:=memF_spec hS
 clear hS
 have hS:=hS1
 clear hS1
 unfold saysM at hS
 split at hS
 ·rename_i n
  simp only [spec_ok,M.sfE,M.sfX,kept_there] at hS
  have hun:=wrapu_u n
  by_cases c0:n=0
  ·subst c0
   have c5:IntKind.u64.wrap 0=0:=by decide
   have c6:u64 0:=u64_0
   simp only [beq_self_eq_true,Bool.true_or,true_and,c5] at hS
   cases hh:m.has 2 1
   all_goals simp only [hh,Bool.false_eq_true,if_true,if_false,setM_self H] at hS
   all_goals cases h1:m.has 0 4
   all_goals (simp (maxSteps:=999999) only [go_sem,simprocAttr,↓qT,↓qF,df181,TSd,writeG,thereG,memF_eq H,memF_set H,setM_fun H,writeM,thereM,setM_self H,hh,h1,c5,c6])
   all_goals exact hS
  ·have c0':(n==0)=false:=by simpa using c0
   simp only [c0',Bool.false_or] at hS
   cases c2:m.has n 4 with
   | false =>
    simp only [c2,Bool.false_and,Bool.false_eq_true,false_and,if_false,setM_self H] at hS
    simp (maxSteps:=999999) only [go_sem,simprocAttr,↓qT,↓qF,df181,TSd,writeG,thereG,memF_eq H,memF_set H,setM_fun H,writeM,thereM,setM_self H,c0,c2]
    exact hS
   | true =>
    by_cases c3:4<=n
    ·have c3':¬ n<4:=by omega
     by_cases c4:n.tmod 4=0
     ·simp only [c2,c3,c4,decide_true,beq_self_eq_true,Bool.and_self,true_and] at hS
      cases hh:m.has 2 1
      all_goals simp only [hh,Bool.false_eq_true,if_true,if_false,setM_self H] at hS
      all_goals (simp (maxSteps:=999999) only [go_sem,simprocAttr,↓qT,↓qF,df181,TSd,writeG,thereG,memF_eq H,memF_set H,setM_fun H,writeM,thereM,setM_self H,hh,hun,c0,c2,c3',c4])
      all_goals exact hS
     ·have c4':(n.tmod 4==0)=false:=by simpa using c4
      simp only [c2,c3,c4',decide_true,Bool.and_false,Bool.false_eq_true,false_and,if_false,setM_self H] at hS
      simp (maxSteps:=999999) only [go_sem,simprocAttr,↓qT,↓qF,df181,TSd,writeG,thereG,memF_eq H,memF_set H,setM_fun H,writeM,thereM,setM_self H,c0,c2,c3',c4]
      exact hS
    ·have c3':n<4:=by omega
     simp only [c2,c3,decide_false,Bool.false_and,Bool.and_false,Bool.false_eq_true,false_and,if_false,setM_self H] at hS
     simp (maxSteps:=999999) only [go_sem,simprocAttr,↓qT,↓qF,df181,TSd,writeG,thereG,memF_eq H,memF_set H,setM_fun H,writeM,thereM,setM_self H,c0,c2,c3']
     exact hS
 ·exact hS.elim
noncomputable def TSe:Tab:=addT 178 saidG (addT 181 saysG (noT))
theorem TSe_snd:TSe.Snd Tryz.prog:=addT_snd ok178 said_snd (addT_snd ok181 says_snd ((noT_snd _)))
theorem rfirst_snd:Snd Tryz.prog 122 (FSpec.of firstG):=snd_run TSe_snd mixed Tryz.func122 dc122 100 fun args h K hc hS=>by
 obtain ⟨a,b,m,rest,rfl,H,hS1⟩:=memF_spec hS
 clear hS
 have hS:=hS1
 clear hS1
 unfold firstM at hS
 split at hS
 ·simp only [spec_ok] at hS
  simp (maxSteps:=999999) only [go_sem,simprocAttr,↓qT,↓qF,df122,TSe,saidG,memF_eq H,saidM]
  exact hS
 ·exact hS.elim
theorem rsetFirst_snd:Snd Tryz.prog 128 (FSpec.of setFirstG):=snd_run TSe_snd mixed Tryz.func128 dc128 100 fun args h K hc hS=>by
 obtain ⟨a,b,m,rest,rfl,H,hS1⟩:=memF_spec hS
 clear hS
 have hS:=hS1
 clear hS1
 unfold setFirstM at hS
 split at hS
 ·simp only [spec_ok] at hS
  simp (maxSteps:=999999) only [go_sem,simprocAttr,↓qT,↓qF,df128,TSe,saysG,memF_eq H,saysM]
  exact hS
 ·exact hS.elim

def M.nkX (m:M) (p a:Int):M:=if m.gE p=0 then (m.gX p).pX p ⟨(m.gV p).cap,(m.gV p).prev,a,(m.gV p).depth⟩ else m.gX p
def M.lkX (m:M) (p a:Int):M:=if p=0 then m.sfX a else m.nkX p a
def M.bkX (m:M) (a n:Int):M:=if ¬ n=0/\m.gE n=0 then (m.gX n).pX n ⟨(m.gV n).cap,a,(m.gV n).next,(m.gV n).depth⟩ else m.gX n
def linksM (b:Nat) (m:M) (st:M->List Blk):List V->Res
 | [.s (.i .i64 p), .s (.i .i64 a), .s (.i .i64 _)]=>.ok (.tup []) [] (st (m.lkX p a))
 | _=>.bad
noncomputable def linksG:=memF linksM
def backM (b:Nat) (m:M) (st:M->List Blk):List V->Res
 | [.s (.i .i64 a), .s (.i .i64 n)]=>.ok (.tup []) [] (st (m.bkX a n))
 | _=>.bad
noncomputable def backG:=memF backM
noncomputable def TLk:Tab:=addT 126 get2G (addT 118 put2G (addT 128 setFirstG (noT)))
theorem TLk_snd:TLk.Snd Tryz.prog:=addT_snd ok126 rget2_snd (addT_snd ok118 rput2_snd (addT_snd ok128 rsetFirst_snd ((noT_snd _))))
theorem links_snd:Snd Tryz.prog 123 (FSpec.of linksG):=snd_run TLk_snd mixed Tryz.func123 dc123 200 fun args h K hc hS=>by
 obtain ⟨a,b,m,rest,rfl,H,hS1⟩:=memF_spec hS
 clear hS
 have hS:=hS1
 clear hS1
 unfold linksM at hS
 split at hS
 ·rename_i p x n
  simp only [spec_ok,M.lkX,M.nkX] at hS
  by_cases c0:p=0
  ·simp only [c0,if_true] at hS
   simp (maxSteps:=999999) only [go_sem,simprocAttr,↓qT,↓qF,df123,TLk,setFirstG,memF_eq H,setFirstM,c0]
   exact hS
  ·by_cases c1:m.gE p=0
   ·simp only [c0,c1,if_true,if_false] at hS
    simp (maxSteps:=999999) only [go_sem,simprocAttr,↓qT,↓qF,df123,TLk,get2G,put2G,memF_eq H,memF_set H,setM_fun H,get2M,put2M,slotF,slot_eta,cap_eta,Slot.cl,c0,c1,put,fillP,sub,EVt]
    exact hS
   ·simp only [c0,c1,if_false] at hS
    simp (maxSteps:=999999) only [go_sem,simprocAttr,↓qT,↓qF,df123,TLk,get2G,put2G,memF_eq H,memF_set H,setM_fun H,get2M,put2M,slotF,slot_eta,cap_eta,Slot.cl,c0,c1,put,fillP,sub,EVt]
    exact hS
 ·exact hS.elim
theorem back_snd:Snd Tryz.prog 124 (FSpec.of backG):=snd_run TLk_snd mixed Tryz.func124 dc124 200 fun args h K hc hS=>by
 obtain ⟨a,b,m,rest,rfl,H,hS1⟩:=memF_spec hS
 clear hS
 have hS:=hS1
 clear hS1
 unfold backM at hS
 split at hS
 ·rename_i x n
  simp only [spec_ok,M.bkX] at hS
  by_cases c0:n=0
  ·simp only [c0,not_true_eq_false,false_and,if_false] at hS
   simp (maxSteps:=999999) only [go_sem,simprocAttr,↓qT,↓qF,df124,TLk,get2G,put2G,memF_eq H,memF_set H,setM_fun H,get2M,put2M,slotF,slot_eta,cap_eta,Slot.cl,c0,put,fillP,sub,EVt]
   exact hS
  ·by_cases c1:m.gE n=0
   ·simp only [c0,c1,not_false_eq_true,and_self,if_true,if_false] at hS
    simp (maxSteps:=999999) only [go_sem,simprocAttr,↓qT,↓qF,df124,TLk,get2G,put2G,memF_eq H,memF_set H,setM_fun H,get2M,put2M,slotF,slot_eta,cap_eta,Slot.cl,c0,c1,put,fillP,sub,EVt]
    exact hS
   ·simp only [c0,c1,and_false,if_false] at hS
    simp (maxSteps:=999999) only [go_sem,simprocAttr,↓qT,↓qF,df124,TLk,get2G,put2G,memF_eq H,memF_set H,setM_fun H,get2M,put2M,slotF,slot_eta,cap_eta,Slot.cl,c0,c1,put,fillP,sub,EVt]
    exact hS
 ·exact hS.elim

def M.rins (m:M) (p a:Int):Int×M :=
 if m.fE a=0 then
  if (m.gX a).liB a (m.gV a)=true then (120,(m.gX a).fstX)
  else if p=0 then (0,(((m.gX a).fstX.lkX (m.gV a).prev a).bkX a (m.gX a).fst).pX a ⟨(m.gV a).cap,(m.gV a).prev,(m.gX a).fst,(m.gV a).depth⟩)
  else if (m.gX a).fstX.fE p=0 then
   if p=a\/((m.gX a).fstX.gV p).depth=65535 then (120,(m.gX a).fstX.gX p)
   else (0,((((m.gX a).fstX.gX p).lkX p a).bkX a ((m.gX a).fstX.gV p).next).pX a ⟨(m.gV a).cap,p,((m.gX a).fstX.gV p).next,IntKind.i64.wrap (((m.gX a).fstX.gV p).depth+1)⟩)
  else ((m.gX a).fstX.fE p,(m.gX a).fstX.gX p)
 else (m.fE a,m.gX a)
def rinsM (b:Nat) (m:M) (st:M->List Blk):List V->Res
 | [.s (.i .i64 p), .s (.i .i64 a)]=>.ok (.s (.i .i64 (m.rins p a).1)) [] (st (m.rins p a).2)
 | _=>.bad
noncomputable def rinsG:=memF rinsM
noncomputable def TRi:Tab:=addT 98 fullG (addT 122 firstG (addT 126 get2G (addT 118 put2G (addT 123 linksG (addT 124 backG (addT 128 setFirstG (noT)))))))
theorem TRi_snd:TRi.Snd Tryz.prog:=addT_snd ok98 rfull_snd (addT_snd ok122 rfirst_snd (addT_snd ok126 rget2_snd (addT_snd ok118 rput2_snd (addT_snd ok123 links_snd (addT_snd ok124 back_snd (addT_snd ok128 rsetFirst_snd ((noT_snd _))))))))
theorem rins_snd:Snd Tryz.prog 52 (FSpec.of rinsG):=snd_run TRi_snd mixed Tryz.func52 dc52 300 fun args h K hc hS=>by
 obtain ⟨a,b,m,rest,rfl,H,hS1⟩:=memF_spec hS
 clear hS
 have hS:=hS1
 clear hS1
 unfold rinsM at hS
 split at hS
 ·rename_i p x
  simp only [spec_ok] at hS
  by_cases c1:m.fE x=0
  ·obtain ⟨s,hs⟩:∃ s,m.gV x=s:=⟨_,rfl⟩
   cases c2:(m.gX x).liB x (m.gV x) with
   | true =>
    simp only [M.rins,c1,c2,if_true] at hS
    simp only [M.liB,hs] at c2
    by_cases d1:s.prev=0
    ·by_cases d2:s.next=0
     ·by_cases d3:s.depth=0
      ·simp only [d1,d2,d3,beq_self_eq_true,Bool.and_self,Bool.not_true,Bool.false_or,beq_iff_eq] at c2
       simp (maxSteps:=999999) only [go_sem,simprocAttr,↓qT,↓qF,df52,TRi,fullG,memF_eq H,memF_set H,setM_fun H,fullM,firstG,firstM,Slot.cl,c1,c2,hs,d1,d2,d3,put,fillP,sub,EVt]
       exact hS
      ·simp (maxSteps:=999999) only [go_sem,simprocAttr,↓qT,↓qF,df52,TRi,fullG,memF_eq H,memF_set H,setM_fun H,fullM,firstG,firstM,Slot.cl,c1,hs,d1,d2,d3,put,fillP,sub,EVt]
       exact hS
     ·simp (maxSteps:=999999) only [go_sem,simprocAttr,↓qT,↓qF,df52,TRi,fullG,memF_eq H,memF_set H,setM_fun H,fullM,firstG,firstM,Slot.cl,c1,hs,d1,d2,put,fillP,sub,EVt]
      exact hS
    ·simp (maxSteps:=999999) only [go_sem,simprocAttr,↓qT,↓qF,df52,TRi,fullG,memF_eq H,memF_set H,setM_fun H,fullM,firstG,firstM,Slot.cl,c1,hs,d1,put,fillP,sub,EVt]
     exact hS
   | false =>
    have c2':=c2
    simp only [M.liB,hs,Bool.or_eq_false_iff,Bool.not_eq_false',Bool.and_eq_true,beq_iff_eq,beq_eq_false_iff_ne,ne_eq] at c2'
    obtain ⟨⟨d1,d2,d3⟩,d4⟩:=c2'
    have c2:(m.gX x).liB x s=false:=by rw [<-hs]; exact c2
    by_cases c3:p=0
    ·simp only [M.rins,c1,c2,c3,hs,d1,d3,Bool.false_eq_true,if_true,if_false] at hS
     simp (maxSteps:=999999) only [go_sem,simprocAttr,↓qT,↓qF,df52,TRi,fullG,memF_eq H,memF_set H,setM_fun H,fullM,firstG,firstM,linksG,linksM,backG,backM,put2G,put2M,slotF,slot_eta,cap_eta,Slot.cl,c1,c3,hs,d1,d2,d3,d4,put,fillP,sub,EVt]
     exact hS
    ·by_cases c4:(m.gX x).fstX.fE p=0
     ·by_cases c5:p=x
      ·subst c5
       simp only [M.rins,c1,hs,c2,c3,c4,Bool.false_eq_true,if_true,if_false,true_or] at hS
       simp (maxSteps:=999999) only [go_sem,simprocAttr,↓qT,↓qF,df52,TRi,fullG,memF_eq H,memF_set H,setM_fun H,fullM,firstG,firstM,linksG,linksM,backG,backM,put2G,put2M,slotF,slot_eta,cap_eta,Slot.cl,c1,c3,c4,hs,d1,d2,d3,d4,put,fillP,sub,EVt]
       exact hS
      ·by_cases c6:((m.gX x).fstX.gV p).depth=65535
       ·simp only [M.rins,c1,hs,c2,c3,c4,c5,c6,Bool.false_eq_true,if_true,if_false,or_true] at hS
        simp (maxSteps:=999999) only [go_sem,simprocAttr,↓qT,↓qF,df52,TRi,fullG,memF_eq H,memF_set H,setM_fun H,fullM,firstG,firstM,linksG,linksM,backG,backM,put2G,put2M,slotF,slot_eta,cap_eta,Slot.cl,c1,c3,c4,c5,c6,hs,d1,d2,d3,d4,put,fillP,sub,EVt]
        exact hS
       ·simp only [M.rins,c1,c2,c3,c4,c5,c6,hs,Bool.false_eq_true,if_true,if_false,or_self] at hS
        simp (maxSteps:=999999) only [go_sem,simprocAttr,↓qT,↓qF,df52,TRi,fullG,memF_eq H,memF_set H,setM_fun H,fullM,firstG,firstM,linksG,linksM,backG,backM,put2G,put2M,slotF,slot_eta,cap_eta,Slot.cl,c1,c3,c4,c5,c6,hs,d1,d2,d3,d4,put,fillP,sub,EVt]
        exact hS
     ·simp only [M.rins,c1,hs,c2,c3,c4,Bool.false_eq_true,if_true,if_false] at hS
      simp (maxSteps:=999999) only [go_sem,simprocAttr,↓qT,↓qF,df52,TRi,fullG,memF_eq H,memF_set H,setM_fun H,fullM,firstG,firstM,linksG,linksM,backG,backM,put2G,put2M,slotF,slot_eta,cap_eta,Slot.cl,c1,c3,c4,hs,d1,d2,d3,d4,put,fillP,sub,EVt]
      exact hS
  ·simp only [M.rins,c1,if_false] at hS
   simp (maxSteps:=999999) only [go_sem,simprocAttr,↓qT,↓qF,df52,TRi,fullG,memF_eq H,memF_set H,setM_fun H,fullM,Slot.cl,c1,put,fillP,sub,EVt]
   exact hS
 ·exact hS.elim

section
variable {m:M} {a x n:Int} {s:Slot}
theorem gX_w (m:M) (a:Int):(m.gX a).w=m.w:=by unfold M.gX; split<;>rfl
theorem fstX_w (m:M):m.fstX.w=m.w:=by unfold M.fstX; split<;>rfl
theorem liX_w (m:M) (s:Slot):(m.liX s).w=m.w:=by unfold M.liX; split; exact fstX_w m; rfl
theorem at_w {m m':M} (h:m'.w=m.w) (j:Int):m'.at j=m.at j:=by simp only [M.at,h]
theorem there_w {m m':M} (h:m'.w=m.w) (x:Int):thereB m' x=thereB m x:=by simp only [thereB,h]
theorem gE_w {m m':M} (h:m'.w=m.w) (x:Int):m'.gE x=m.gE x:=by simp only [M.gE,M.slotB,there_w h,at_w h]; rfl
theorem gV_w {m m':M} (h:m'.w=m.w) (x:Int):m'.gV x=m.gV x:=by simp only [M.gV,M.slotB,M.slotC,there_w h,at_w h]; rfl
theorem fst_w {m m':M} (h:m'.w=m.w):m'.fst=m.fst:=by simp only [M.fst,keptV,keptB,M.has,at_w h,h]; rfl
theorem fE_w {m m':M} (h:m'.w=m.w) (x:Int):m'.fE x=m.fE x:=by simp only [M.fE,gE_w h,gV_w h]
theorem liB_w {m m':M} (h:m'.w=m.w) (x:Int) (s:Slot):m'.liB x s=m.liB x s:=by simp only [M.liB,fst_w h]
theorem gX_gV (m:M) (a x:Int):(m.gX a).gV x=m.gV x:=gV_w (gX_w m a) x
theorem gX_fE (m:M) (a x:Int):(m.gX a).fE x=m.fE x:=fE_w (gX_w m a) x
theorem gX_fst (m:M) (a:Int):(m.gX a).fst=m.fst:=fst_w (gX_w m a)
theorem gX_liB (m:M) (a x:Int) (s:Slot):(m.gX a).liB x s=m.liB x s:=liB_w (gX_w m a) x s
theorem fstX_gV (m:M) (x:Int):m.fstX.gV x=m.gV x:=gV_w (fstX_w m) x
theorem fstX_fE (m:M) (x:Int):m.fstX.fE x=m.fE x:=fE_w (fstX_w m) x
theorem liX_gV (m:M) (s:Slot) (x:Int):(m.liX s).gV x=m.gV x:=gV_w (liX_w m s) x
theorem liX_fE (m:M) (s:Slot) (x:Int):(m.liX s).fE x=m.fE x:=fE_w (liX_w m s) x
theorem liX_fst (m:M) (s:Slot):(m.liX s).fst=m.fst:=fst_w (liX_w m s)
theorem gE_there (h:m.gE x=0):thereB m x=true/\m.slotB x=true:=by
 unfold M.gE at h
 split at h
 ·rename_i ht
  split at h
  ·rename_i hb; exact ⟨ht,hb⟩
  ·cases h
 ·cases h
theorem gE_zero (h1:thereB m x=true) (h2:m.slotB x=true):m.gE x=0:=by simp only [M.gE,h1,h2,if_true]
theorem there_ne0 (h:thereB m x=true):x≠0:=by have:=there_iff.1 h; omega

theorem pX_len (m:M) (a:Int) (s:Slot):(m.pX a s).w.length=m.w.length:=by
 unfold M.pX; split
 ·exact M.putS_len _ _ _
 ·rfl
theorem pX_gE (ht:thereB m a=true) (hr:slotRB s=true) (x:Int):(m.pX a s).gE x=if x=a then 0 else m.gE x:=by
 unfold M.pX
 rw [if_pos ⟨ht,hr⟩]
 by_cases e:x=a
 ·subst e
  rw [if_pos rfl]
  exact gE_zero (by rw [M.putS_there]; exact ht) (M.putS_slot ht hr).1
 ·rw [if_neg e]
  unfold M.gE
  rw [M.putS_there]
  by_cases hx:thereB m x=true
  ·rw [(M.putS_other ht hr hx (Ne.symm e)).1]
  ·rw [if_neg hx,if_neg hx]
theorem pX_gV (ht:thereB m a=true) (hr:slotRB s=true) (x:Int):(m.pX a s).gV x=if x=a then s else m.gV x:=by
 unfold M.pX
 rw [if_pos ⟨ht,hr⟩]
 by_cases e:x=a
 ·subst e
  rw [if_pos rfl]
  unfold M.gV
  rw [if_pos ⟨by rw [M.putS_there]; exact ht,(M.putS_slot ht hr).1⟩]
  exact (M.putS_slot ht hr).2
 ·rw [if_neg e]
  unfold M.gV
  rw [M.putS_there]
  by_cases hx:thereB m x=true
  ·rw [(M.putS_other ht hr hx (Ne.symm e)).1,(M.putS_other ht hr hx (Ne.symm e)).2]
  ·rw [if_neg fun h=>hx h.1,if_neg fun h=>hx h.1]
theorem pX_at (ht:thereB m a=true) (hr:slotRB s=true) {j:Int} (hj:0<=j) (hn:j<a\/a+3<j):(m.pX a s).at j=m.at j:=by
 unfold M.pX
 rw [if_pos ⟨ht,hr⟩,M.at_putS ht hr hj,if_neg (by omega),if_neg (by omega),if_neg (by omega),if_neg (by omega)]
theorem pX_fst (ht:thereB m a=true) (hr:slotRB s=true):(m.pX a s).fst=m.fst:=by
 have h1:=there_iff.1 ht
 have h2:=pX_at ht hr (j:=2) (by omega) (by omega)
 simp only [M.fst,keptV,keptB,M.has,h2,pX_len]
 rfl
theorem sfX_len (m:M) (n:Int):(m.sfX n).w.length=m.w.length:=by
 unfold M.sfX; split
 ·exact M.put_len _ _ _
 ·rfl
theorem sfX_there (m:M) (n x:Int):thereB (m.sfX n) x=thereB m x:=by simp only [thereB,sfX_len]
theorem sfX_at (m:M) (n:Int) {j:Int} (hj:0<=j) (h2:j≠2):(m.sfX n).at j=m.at j:=by
 unfold M.sfX; split
 ·simp only [M.at_tick,M.at_put]
  rw [if_neg (by omega)]
 ·rfl
theorem sfX_slotB (m:M) (n x:Int) (h:4<=x):(m.sfX n).slotB x=m.slotB x/\(m.sfX n).slotC x=m.slotC x:=by
 simp only [M.slotB,M.slotC,sfX_at m n (j:=x) (by omega) (by omega),sfX_at m n (j:=x+1) (by omega) (by omega),sfX_at m n (j:=x+2) (by omega) (by omega),sfX_at m n (j:=x+3) (by omega) (by omega),and_self]
theorem sfX_gE (m:M) (n x:Int):(m.sfX n).gE x=m.gE x:=by
 unfold M.gE
 rw [sfX_there]
 by_cases hx:thereB m x=true
 ·rw [(sfX_slotB m n x (there_iff.1 hx).1).1]
 ·rw [if_neg hx,if_neg hx]
theorem sfX_gV (m:M) (n x:Int):(m.sfX n).gV x=m.gV x:=by
 unfold M.gV
 rw [sfX_there]
 by_cases hx:thereB m x=true
 ·rw [(sfX_slotB m n x (there_iff.1 hx).1).1,(sfX_slotB m n x (there_iff.1 hx).1).2]
 ·rw [if_neg fun h=>hx h.1,if_neg fun h=>hx h.1]
theorem kept_is (m:M) (n:Int):keptB 4 4 m n=thereB m n:=by
 have hl:=m.l
 have w1:IntKind.i64.wrap ((m.w.length:Int)-4)=m.w.length-4:=wrap64 (by omega) (by omega)
 simp only [keptB,thereB,w1]
theorem sfX_two (hn:n=0\/thereB m n=true) (hl:4<=m.w.length):(m.sfX n).at 2=n:=by
 have hlt:=m.l
 have hh:m.has 2 1=true:=M.has_iff.2 (by omega)
 have hc:(n==0||keptB 4 4 m n)=true:=by
  rw [kept_is]
  rcases hn with rfl|h
  ·rfl
  ·rw [h,Bool.or_true]
 have hb:0<=n/\n<65536:=by
  rcases hn with rfl|h
  ·omega
  ·have:=there_iff.1 h; omega
 unfold M.sfX
 rw [if_pos ⟨hc,hh⟩,M.at_tick,M.at_put,if_pos (by simp; omega),IntKind.wrap_u64]
 simp only [uw]; omega
theorem sfX_fst (hn:n=0\/thereB m n=true) (hl:4<=m.w.length):(m.sfX n).fst=n:=by
 have hlt:=m.l
 have hh:(m.sfX n).has 2 1=true:=M.has_iff.2 (by rw [sfX_len]; omega)
 unfold M.fst
 rw [if_pos hh,sfX_two hn hl]
 unfold keptV
 rw [kept_is,sfX_there]
 rcases hn with rfl|h
 ·simp only [IntKind.wrap_i64]
  split<;>rfl
 ·have hb:=there_iff.1 h
  have hw:IntKind.i64.wrap n=n:=wrap64 (by omega) (by omega)
  rw [hw,if_pos ⟨by omega,h⟩]
end

structure M.Fr (m m':M):Prop where
 len:m'.w.length=m.w.length
 low:∀ j:Int,j=0\/j=1\/j=3->m'.at j=m.at j
 slot:∀ x,thereB m x=true->m'.gE x=0\/∀ k:Int,0<=k->k<=3->m'.at (x+k)=m.at (x+k)
 two:m.at 2=m.fst->m'.at 2=m'.fst
theorem M.Fr.refl (m:M):M.Fr m m:=⟨rfl,fun _ _=>rfl,fun _ _=>.inr fun _ _ _=>rfl,fun h=>h⟩
theorem M.Fr.there {m m':M} (h:M.Fr m m') (x:Int):thereB m' x=thereB m x:=by simp only [thereB,h.len]
theorem M.Fr.of_w {m m1 m2:M} (h:M.Fr m m1) (e:m2.w=m1.w):M.Fr m m2 :=
 ⟨by rw [e]; exact h.len,fun j hj=>by rw [at_w e]; exact h.low j hj,fun x hx=>by
  rcases h.slot x hx with h1|h1
  ·exact .inl (by rw [gE_w e]; exact h1)
  ·exact .inr fun k h2 h3=>by rw [at_w e]; exact h1 k h2 h3,fun h2=>by rw [at_w e,fst_w e]; exact h.two h2⟩
theorem M.Fr.from_w {m m' m1:M} (h:M.Fr m m1) (e:m'.w=m.w):M.Fr m' m1 :=
 ⟨by rw [e]; exact h.len,fun j hj=>by rw [at_w e]; exact h.low j hj,fun x hx=>by
  rcases h.slot x (by rw [<-there_w e]; exact hx) with h1|h1
  ·exact .inl h1
  ·exact .inr fun k h2 h3=>by rw [at_w e]; exact h1 k h2 h3,fun h2=>by rw [at_w e,fst_w e] at h2; exact h.two h2⟩
theorem M.Fr.pX {m m':M} (h:M.Fr m m') (a:Int) (s:Slot):M.Fr m (m'.pX a s):=by
 by_cases hc:thereB m' a=true/\slotRB s=true
 ·obtain ⟨ht,hr⟩:=hc
  have hb:=there_iff.1 ht
  refine ⟨by rw [pX_len]; exact h.len,fun j hj=>by rw [pX_at ht hr (by omega) (by omega)]; exact h.low j hj,fun x hx=>?_,fun h2=>by rw [pX_at ht hr (by omega) (by omega),pX_fst ht hr]; exact h.two h2⟩
  rw [pX_gE ht hr]
  by_cases e:x=a
  ·exact .inl (if_pos e)
  ·rw [if_neg e]
   rcases h.slot x hx with h1|h1
   ·exact .inl h1
   ·refine .inr fun k h2 h3=>?_
    have hx':=there_iff.1 hx
    rw [Int.tmod_eq_emod_of_nonneg (by omega)] at hx' hb
    rw [pX_at ht hr (by omega) (by omega)]
    exact h1 k h2 h3
 ·have:m'.pX a s=m':=by unfold M.pX; rw [if_neg hc]
  rw [this]; exact h
theorem M.Fr.sfX {m m':M} (h:M.Fr m m') {n:Int} (hl:4<=m.w.length):M.Fr m (m'.sfX n):=by
 by_cases hn:n=0\/thereB m' n=true
 ·refine ⟨by rw [sfX_len]; exact h.len,fun j hj=>by rw [sfX_at _ _ (by omega) (by omega)]; exact h.low j hj,fun x hx=>?_,fun _=>?_⟩
  ·rw [sfX_gE]
   rcases h.slot x hx with h1|h1
   ·exact .inl h1
   ·refine .inr fun k h2 h3=>?_
    have hx':=there_iff.1 hx
    rw [sfX_at _ _ (by omega) (by omega)]
    exact h1 k h2 h3
  ·rw [sfX_two hn (by rw [h.len]; exact hl),sfX_fst hn (by rw [h.len]; exact hl)]
 ·have:m'.sfX n=m':=by
   unfold M.sfX
   rw [kept_is,if_neg]
   simp only [Bool.or_eq_true,beq_iff_eq,not_and]
   exact fun hh=>absurd hh hn
  rw [this]; exact h
theorem slot_words {m:M} {x:Int} (h:m.gE x=0):m.at x=(m.gV x).cap.w0/\m.at (x+1)=(m.gV x).cap.num/\m.at (x+2)=(m.gV x).links/\m.at (x+3)=0:=by
 obtain ⟨h1,h2⟩:=gE_there h
 have e:m.gV x=m.slotC x:=by unfold M.gV; rw [if_pos ⟨h1,h2⟩]
 rw [e]
 simp only [M.slotB,slotB,Bool.and_eq_true,decide_eq_true_eq,beq_iff_eq] at h2
 obtain ⟨d1,d2,d3,d4⟩:=h2
 obtain ⟨_,b1,b2⟩:=dec_back (m.at_u x) d1
 have u2:=m.at_u (x+2)
 simp only [u64] at u2
 simp only [M.slotC,slotC,Slot.links]
 refine ⟨b1.symm,b2.symm, ?_,d3⟩
 omega
theorem M.Fr.det {m m1 m2:M} (h1:M.Fr m m1) (h2:M.Fr m m2) (hE:∀ x,m1.gE x=m2.gE x) (hV:∀ x,m1.gV x=m2.gV x) (hF:m1.fst=m2.fst) (h4:m.w.length%4=0) (htwo:m.at 2=m.fst):m1.w=m2.w:=by
 refine eq_of_nth (h1.len.trans h2.len.symm) fun i hi=>?_
 have key:m1.at (i:Int)=m2.at (i:Int):=by
  rcases Nat.lt_or_ge i 4 with hlt|hge
  ·have hc:(i:Int)=2\/((i:Int)=0\/(i:Int)=1\/(i:Int)=3):=by omega
   rcases hc with hc|hc
   ·rw [hc,h1.two htwo,h2.two htwo,hF]
   ·rw [h1.low _ hc,h2.low _ hc]
  ·obtain ⟨x,hx⟩:∃ x:Int,x=(i:Int)-(i:Int)%4:=⟨_,rfl⟩
   have hil:i<m.w.length:=by rw [<-h1.len]; exact hi
   have ht:thereB m x=true:=there_iff.2 ⟨by omega,by rw [Int.tmod_eq_emod_of_nonneg (by omega)]; omega,by omega⟩
   have hk:(i:Int)=x\/(i:Int)=x+1\/(i:Int)=x+2\/(i:Int)=x+3:=by omega
   by_cases e:m1.gE x=0
   ·obtain ⟨p0,p1,p2,p3⟩:=slot_words e
    obtain ⟨q0,q1,q2,q3⟩:=slot_words (show m2.gE x=0 by rw [<-hE]; exact e)
    rw [hV] at p0 p1 p2
    rcases hk with hk|hk|hk|hk<;>rw [hk]
    ·rw [p0,q0]
    ·rw [p1,q1]
    ·rw [p2,q2]
    ·rw [p3,q3]
   ·have w1:=(h1.slot x ht).resolve_left e
    have w2:=(h2.slot x ht).resolve_left (by rw [<-hE]; exact e)
    obtain ⟨k,hk2⟩:∃ k:Int,k=(i:Int)-x:=⟨_,rfl⟩
    have:(i:Int)=x+k:=by omega
    rw [this,w1 k (by omega) (by omega),w2 k (by omega) (by omega)]
 simpa [M.at] using key

theorem fE_zero {m:M} {x:Int}:m.fE x=0↔m.gE x=0/\(m.gV x).cap.ty≠0:=by
 unfold M.fE
 constructor
 ·intro h
  split at h
  ·cases h
  ·rename_i hn
   exact ⟨h,fun e=>hn ⟨h,e⟩⟩
 ·intro h
  rw [if_neg fun h2=>h.2 h2.2]
  exact h.1
theorem fE_there {m:M} {x:Int} (h:m.fE x=0):thereB m x=true:=(gE_there (fE_zero.1 h).1).1
theorem link_there {m:M} {x:Int} (h:thereB m x=true):linkB x=true:=by
 have hl:=m.l
 have hb:=there_iff.1 h
 simp only [linkB,Bool.and_eq_true,decide_eq_true_eq,beq_iff_eq]
 omega
theorem link_0:linkB 0=true:=by decide
theorem full_mk {m:M} {x:Int} (h:m.fE x=0) {p n d:Int} (hp:linkB p=true) (hn:linkB n=true) (h0:0<=d) (h1:d<65536):slotRB ⟨(m.gV x).cap,p,n,d⟩=true:=by
 have h2:=(slotRB_iff (m.gV_u x)).1
 have h3:=(fE_zero.1 h).2
 have h4:((m.gV x).cap.ty==0)=false:=by simpa using h3
 simp only [slotRB,h2,h4,hp,hn,h0,h1,Bool.false_and,Bool.not_false,decide_true,Bool.and_self]
theorem gV_links (m:M) (x:Int):linkB (m.gV x).prev=true/\linkB (m.gV x).next=true/\0<=(m.gV x).depth/\(m.gV x).depth<65536:=by
 have h:=m.gV_u x
 simp only [slotRB,Bool.and_eq_true,decide_eq_true_eq] at h
 exact ⟨h.2.2.1,h.2.2.2.1,h.2.2.2.2⟩
theorem gV_zero (m:M):m.gV 0=slotZ:=by
 unfold M.gV
 rw [if_neg]
 intro h
 exact there_ne0 h.1 rfl
def Slot.toN (s:Slot) (a:Int):Slot:=⟨s.cap,s.prev,a,s.depth⟩
def Slot.toP (s:Slot) (a:Int):Slot:=⟨s.cap,a,s.next,s.depth⟩
def jnV (V:Int->Slot) (p a n:Int) (x:Int):Slot:=if x=p then (V p).toN a else if x=n then (V n).toP a else V x

structure M.To (m m':M) (V:Int->Slot) (F:Int):Prop where
 fr:M.Fr m m'
 E:∀ x,m'.gE x=m.gE x
 V:∀ x,x≠0->m'.gV x=V x
 F:m'.fst=F
theorem M.To.refl (m:M):M.To m m m.gV m.fst:=⟨.refl m,fun _=>rfl,fun _ _=>rfl,rfl⟩
theorem M.To.of_w {m m1 m2:M} {V:Int->Slot} {F:Int} (h:M.To m m1 V F) (e:m2.w=m1.w):M.To m m2 V F :=
 ⟨h.fr.of_w e,fun x=>(gE_w e x).trans (h.E x),fun x hx=>(gV_w e x).trans (h.V x hx),(fst_w e).trans h.F⟩
theorem M.To.from_w {m m' m1:M} {V:Int->Slot} {F:Int} (h:M.To m m1 V F) (e:m'.w=m.w):M.To m' m1 V F :=
 ⟨h.fr.from_w e,fun x=>(h.E x).trans (gE_w e x).symm,h.V,h.F⟩
theorem M.To.val {m m':M} {V:Int->Slot} {F:Int} (h:M.To m m' V F) {V':Int->Slot} (e:∀ x,x≠0->V x=V' x) {F':Int} (f:F=F'):M.To m m' V' F' :=
 ⟨h.fr,h.E,fun x hx=>(h.V x hx).trans (e x hx),h.F.trans f⟩
theorem M.To.gX {m m':M} {V:Int->Slot} {F:Int} (h:M.To m m' V F) (a:Int):M.To m (m'.gX a) V F:=h.of_w (gX_w _ _)
theorem M.To.fstX {m m':M} {V:Int->Slot} {F:Int} (h:M.To m m' V F):M.To m m'.fstX V F:=h.of_w (fstX_w _)
theorem M.To.liX {m m':M} {V:Int->Slot} {F:Int} (h:M.To m m' V F) (s:Slot):M.To m (m'.liX s) V F:=h.of_w (liX_w _ _)
theorem M.To.there {m m':M} {V:Int->Slot} {F:Int} (h:M.To m m' V F) (x:Int):thereB m' x=thereB m x:=h.fr.there x
theorem M.To.pX {m m':M} {V:Int->Slot} {F:Int} (h:M.To m m' V F) {a:Int} {s:Slot} (ha:m.gE a=0) (hr:slotRB s=true):M.To m (m'.pX a s) (fun x=>if x=a then s else V x) F:=by
 have ht:thereB m' a=true:=by rw [h.there]; exact (gE_there ha).1
 refine ⟨h.fr.pX a s,fun x=>?_,fun x hx=>?_,(pX_fst ht hr).trans h.F⟩
 ·rw [pX_gE ht hr]
  split
  ·rename_i e; rw [e,ha]
  ·exact h.E x
 ·rw [pX_gV ht hr]
  split
  ·rfl
  ·exact h.V x hx
theorem M.To.sfX {m m':M} {V:Int->Slot} {F:Int} (h:M.To m m' V F) (hl:4<=m.w.length) {n:Int} (hn:n=0\/thereB m n=true):M.To m (m'.sfX n) V n :=
 ⟨h.fr.sfX hl,fun x=>(sfX_gE _ _ _).trans (h.E x),fun x hx=>(sfX_gV _ _ _).trans (h.V x hx),sfX_fst (by rw [h.there]; exact hn) (by rw [h.fr.len]; exact hl)⟩
theorem M.To.trans {m m1 m2:M} {V V':Int->Slot} {F F':Int} (h:M.To m m1 V F) (h2:M.To m1 m2 V' F'):M.To m m2 V' F':=by
 refine ⟨⟨h2.fr.len.trans h.fr.len,fun j hj=>(h2.fr.low j hj).trans (h.fr.low j hj),fun x hx=>?_,fun e=>h2.fr.two (h.fr.two e)⟩,fun x=>(h2.E x).trans (h.E x),h2.V,h2.F⟩
 by_cases e:m.gE x=0
 ·exact .inl (by rw [h2.E,h.E]; exact e)
 ·right
  have e1:¬ m1.gE x=0:=by rw [h.E]; exact e
  have e2:¬ m2.gE x=0:=by rw [h2.E,h.E]; exact e
  have w1:=(h.fr.slot x hx).resolve_left e1
  have w2:=(h2.fr.slot x (by rw [h.there]; exact hx)).resolve_left e2
  exact fun k k1 k2=>(w2 k k1 k2).trans (w1 k k1 k2)
theorem M.To.det {m m' m1 m2:M} {V V':Int->Slot} {F F':Int} (h1:M.To m m1 V F) (h2:M.To m' m2 V' F') (hw:m'.w=m.w) (hV:∀ x,x≠0->V x=V' x) (hF:F=F') (h4:m.w.length%4=0) (htwo:m.at 2=m.fst):m1.w=m2.w:=by
 have h2:=h2.from_w hw.symm
 refine h1.fr.det h2.fr (fun x=>(h1.E x).trans (h2.E x).symm) (fun x=>?_) (h1.F.trans (hF.trans h2.F.symm)) h4 htwo
 by_cases e:x=0
 ·subst e; rw [gV_zero,gV_zero]
 ·rw [h1.V x e,h2.V x e,hV x e]

theorem M.To.full {m m':M} {V:Int->Slot} {F:Int} (h:M.To m m' V F) {x:Int} (hx:m.gE x=0) (ht:(V x).cap.ty≠0):m'.fE x=0:=by
 have h0:=there_ne0 (gE_there hx).1
 exact fE_zero.2 ⟨(h.E x).trans hx,by rw [h.V x h0]; exact ht⟩
theorem M.To.turn {m m':M} {V:Int->Slot} {F:Int} (h:M.To m m' V F) {x:Int} (hx:m.gE x=0) (ht:(V x).cap.ty≠0) {g:Slot->Slot} (hr:slotRB (g (V x))=true):M.To m (m'.turnX x g) (fun y=>if y=x then g (V x) else V y) F:=by
 have h0:=there_ne0 (gE_there hx).1
 unfold M.turnX
 rw [if_neg h0,if_pos (h.full hx ht),h.V x h0]
 exact (h.gX x).pX hx hr
theorem M.To.turn0 {m m':M} {V:Int->Slot} {F:Int} (h:M.To m m' V F) {g:Slot->Slot}:M.To m (m'.turnX 0 g) V F:=by
 unfold M.turnX
 rw [if_pos rfl]; exact h
theorem M.To.vlinks {m m':M} {V:Int->Slot} {F:Int} (h:M.To m m' V F) {x:Int} (h0:x≠0) (ht:(V x).cap.ty≠0) {p n d:Int} (hp:linkB p=true) (hn:linkB n=true) (d0:0<=d) (d1:d<65536):slotRB ⟨(V x).cap,p,n,d⟩=true:=by
 have h2:=(slotRB_iff (m'.gV_u x)).1
 rw [h.V x h0] at h2
 have h4:((V x).cap.ty==0)=false:=by simpa using ht
 simp only [slotRB,h2,h4,hp,hn,d0,d1,Bool.false_and,Bool.not_false,decide_true,Bool.and_self]
theorem M.To.lk {m m':M} {V:Int->Slot} {F:Int} (h:M.To m m' V F) {x:Int} (h0:x≠0):linkB (V x).prev=true/\linkB (V x).next=true/\0<=(V x).depth/\(V x).depth<65536:=by
 have:=gV_links m' x
 rw [h.V x h0] at this
 exact this
theorem M.To.join {m m':M} {V:Int->Slot} {F:Int} (h:M.To m m' V F) (hl:4<=m.w.length) {p a n:Int} (hp:p=0\/(m.gE p=0/\(V p).cap.ty≠0)) (hn:n=0\/(m.gE n=0/\(V n).cap.ty≠0)) (hpn:n=0\/p≠n) (ha:a=0\/thereB m a=true) :
  M.To m (m'.joinX p a n) (jnV V p a n) (if p=0 then a else F):=by
 have la:linkB a=true:=by
  rcases ha with rfl|ha
  ·exact link_0
  ·exact link_there ha
 have h1:M.To m ((if p=0 then m'.sfX a else m').turnX p fun s=>⟨s.cap,s.prev,a,s.depth⟩) (fun x=>if x=p then (V p).toN a else V x) (if p=0 then a else F):=by
  by_cases hp0:p=0
  ·subst hp0
   simp only [if_true]
   exact ((h.sfX hl ha).turn0).val (fun x hx=>by simp only [hx,if_false]) rfl
  ·obtain ⟨e1,e2⟩:=hp.resolve_left hp0
   obtain ⟨k1,k2,k3,k4⟩:=h.lk hp0
   simp only [if_neg hp0]
   exact h.turn e1 e2 (h.vlinks hp0 e2 k1 la k3 k4)
 unfold M.joinX
 by_cases hn0:n=0
 ·subst hn0
  exact h1.turn0.val (fun x hx=>by simp only [jnV,hx,if_false]) rfl
 ·obtain ⟨e1,e2⟩:=hn.resolve_left hn0
  have hne:=hpn.resolve_left hn0
  have ev:(fun x=>if x=p then (V p).toN a else V x) n=V n:=by simp only [if_neg (Ne.symm hne)]
  obtain ⟨k1,k2,k3,k4⟩:=h.lk hn0
  have:=h1.turn (x:=n) (g:=fun s=>⟨s.cap,a,s.next,s.depth⟩) e1 (by simp only [if_neg (Ne.symm hne)]; exact e2) (by simp only [if_neg (Ne.symm hne)]; exact h.vlinks hn0 e2 la k2 k3 k4)
  refine this.val (fun x hx=>?_) rfl
  simp only [jnV,if_neg (Ne.symm hne)]
  by_cases c1:x=n
  ·subst c1
   rw [if_pos rfl,if_neg (Ne.symm hne),if_pos rfl]; rfl
  ·rw [if_neg c1]
   by_cases c2:x=p
   ·rw [if_pos c2,if_pos c2]
   ·rw [if_neg c2,if_neg c2,if_neg c1]
theorem M.To.nk {m m':M} {V:Int->Slot} {F:Int} (h:M.To m m' V F) {p a:Int} (hp:m.gE p=0/\(V p).cap.ty≠0) (ha:a=0\/thereB m a=true):M.To m (m'.nkX p a) (fun x=>if x=p then (V p).toN a else V x) F:=by
 have la:linkB a=true:=by
  rcases ha with rfl|ha
  ·exact link_0
  ·exact link_there ha
 have h0:=there_ne0 (gE_there hp.1).1
 obtain ⟨k1,k2,k3,k4⟩:=h.lk h0
 unfold M.nkX
 rw [if_pos ((h.E p).trans hp.1),h.V p h0]
 exact (h.gX p).pX hp.1 (h.vlinks h0 hp.2 k1 la k3 k4)
theorem M.To.bk {m m':M} {V:Int->Slot} {F:Int} (h:M.To m m' V F) {n a:Int} (hn:n=0\/(m.gE n=0/\(V n).cap.ty≠0)) (ha:a=0\/thereB m a=true):M.To m (m'.bkX a n) (fun x=>if x=n then (V n).toP a else V x) F:=by
 have la:linkB a=true:=by
  rcases ha with rfl|ha
  ·exact link_0
  ·exact link_there ha
 by_cases h0:n=0
 ·subst h0
  unfold M.bkX
  rw [if_neg fun h=>h.1 rfl]
  exact (h.gX 0).val (fun x hx=>by simp only [hx,if_false]) rfl
 ·obtain ⟨e1,e2⟩:=hn.resolve_left h0
  obtain ⟨k1,k2,k3,k4⟩:=h.lk h0
  unfold M.bkX
  rw [if_pos ⟨h0,(h.E n).trans e1⟩,h.V n h0]
  exact (h.gX n).pX e1 (h.vlinks h0 e2 la k2 k3 k4)
theorem M.To.lkX {m m':M} {V:Int->Slot} {F:Int} (h:M.To m m' V F) (hl:4<=m.w.length) {p a:Int} (hp:p=0\/(m.gE p=0/\(V p).cap.ty≠0)) (ha:a=0\/thereB m a=true):M.To m (m'.lkX p a) (fun x=>if x=p then (V p).toN a else V x) (if p=0 then a else F):=by
 unfold M.lkX
 by_cases h0:p=0
 ·subst h0
  simp only [if_true]
  exact (h.sfX hl ha).val (fun x hx=>by simp only [hx,if_false]) rfl
 ·simp only [if_neg h0]
  exact h.nk (hp.resolve_left h0) ha
end Go.Proofs.YtcdfofeolgbnbaaGreat

