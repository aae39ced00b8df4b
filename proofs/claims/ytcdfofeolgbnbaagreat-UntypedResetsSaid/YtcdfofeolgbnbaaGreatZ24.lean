/- Law 11: a cap laid; what is promised. -/
import Derived.Test.YtcdfofeolgbnbaaGreatZ11
import Derived.Test.YtcdfofeolgbnbaaGreatZ19
import Derived.Test.YtcdfofeolgbnbaaGreatZ23
import Derived.Test.YtcdfofeolgbnbaaGreatZ21
import Derived.Test.YtcdfofeolgbnbaaGreatZ18
/- Package cdt: Remove. -/
namespace Go.Proofs.YtcdfofeolgbnbaaGreat
open Go.D
open Nat (reduceAdd reducePow reduceMul reduceSub reduceLeDiff reduceLT reduceEqDiff)
open Int (reduceNeg reduceLE reduceEq reduceNe reduceToNat)
open Go.D renaming istep → zy,pickR → zx,bin1R → zw,un1R → zv,eqS → zu,eq1 → zq,cmpS → zp,cmp1 → zj,isNil → zk,shows → zg,result → zZ,qT → zV,qF → zU
open List renaming set → zY,replicate → zX
open Option renaming map → zW
open Nat renaming reduceAdd → zQ,reducePow → yz,reduceMul → yy,reduceSub → yx,reduceLeDiff → yw,reduceLT → yv,reduceEqDiff → yu
open Int renaming reduceNeg → yq,reduceLE → yp,reduceEq → yj,reduceNe → yk,reduceToNat → yg,reducePow → yZ,reduceLT → yY,reduceAdd → yX,reduceSub → yW,reduceMul → yV,reduceBEq → yU,reduceBNe → yQ
set_option linter.all false
set_option maxRecDepth 100000
set_option maxHeartbeats 8000000

def depC (s:Slot):Slot:=⟨s.cap,s.prev,s.next,IntKind.i64.wrap (s.depth-1)⟩
def M.decX:M->List Int->M
 | m,[]=>m
 | m,x::l=>(m.turnX x depC).decX l
def M.remT (m:M) (x:Int) (s:Slot) (li:Bool):M:=if li=true then ((if s.prev=0 then (m.pX x slotZ).sfX s.next else m.pX x slotZ).turnX s.prev fun t=>⟨t.cap,t.prev,s.next,t.depth⟩).turnX s.next fun t=>⟨t.cap,s.prev,t.next,t.depth⟩ else m.pX x slotZ
def M.rem (m:M) (x:Int):Int×M:=if m.fE x=0 then (match dsW (m.gV x).depth (m.w.length/4) (m.gV x).next ((m.gX x).gX x) [] with
 | (none,m2)=>(110,m2)
 | (some l,m2)=>(0,((m2.liX (m.gV x)).decX l).remT x (m.gV x) (m2.liB x (m.gV x)))) else (m.fE x,m.gX x)
def remM (b:Nat) (m:M) (st:M->List Blk):List V->Res
 | [.s (.i .i64 x)]=>.ok (.s (.i .i64 (m.rem x).1)) [] (st (m.rem x).2)
 | _=>.bad
noncomputable def remG:=memF remM
noncomputable def TRm:Tab:=addT 74 fullG (addT 47 dscG (addT 75 listedG (addT 76 turnG (addT 79 put2G (addT 80 setFirstG (noT))))))
theorem TRm_snd:TRm.Snd Tryz.prog:=addT_snd ok74 full_snd (addT_snd ok47 dsc_snd (addT_snd ok75 listed_snd (addT_snd ok76 turn_snd (addT_snd ok79 put2_snd (addT_snd ok80 setFirst_snd ((noT_snd _)))))))
theorem decX_drop {m:M} {l:List Int} {i:Nat} (h:i<l.length):m.decX (l.drop i)=(m.turnX (nth 0 l i) depC).decX (l.drop (i+1)):=by
 rw [<-List.getElem_cons_drop h,nth_eq h]; rfl
theorem rem_snd:Snd Tryz.prog 23 (FSpec.of remG):=(fwp_sound (Tab.snd_Γ TRm_snd) mixed Tryz.func23 dc23).weaken fun args h K hc hS=>by
 refine fwp_runW (Tab.ok_Γ _) 200 ?_
 obtain ⟨a,b,m,rest,rfl,H,hS1⟩:=memF_spec (f:=remM) hS
 clear hS
 have hS:=hS1
 clear hS1
 unfold remM at hS
 split at hS
 ·rename_i x
  simp only [spec_ok,M.rem] at hS
  have hlm:∀ m2,(setM h a b m2).length=h.length:=fun _=>setM_len
  have hcm:∀ m2,clean (setM h a b m2).length (setM h a b m2)=true:=fun _=>by rw [setM_len]; exact setM_clean H hc H.ltb
  have hcm2:∀ m2,clean h.length (setM h a b m2)=true:=fun _=>setM_clean H hc H.ltb
  have hml:=m.l
  obtain ⟨s,hs⟩:∃ s,m.gV x=s:=⟨_,rfl⟩
  by_cases hf:m.fE x=0
  ·simp only [hf,if_true,hs] at hS
   have hs2:(m.gX x).gV x=s:=by rw [gX_gV]; exact hs
   have hf2:(m.gX x).fE x=0:=by rw [gX_fE]; exact hf
   have hwl:(m.gX x).w.length=m.w.length:=by rw [gX_w]
   obtain ⟨o,ho⟩:∃ o,dsW s.depth (m.w.length/4) s.next ((m.gX x).gX x) []=o:=⟨_,rfl⟩
   rw [ho] at hS
   obtain ⟨⟨c0,c1,c2,c3,c4,c5,c6,c7,c8,c9,c10⟩,p0,q0,r0⟩:=s
   rcases o with ⟨_|l,m2⟩
   ·simp only at hS
    simp (maxSteps:=999999) only [EV0,zy,zx,zw,zv,zu,zq,zp,zj,zk,leT,zg,rvC,zZ,zY,zX,zW,↓zV,↓zU,reduceCtorEq,zQ,yz,yZ,yy,yx,yw,yv,yu,yq,yY,yp,yj,yk,yX,yW,yV,yg,yU,yQ,df23,TRm,fullG,dscG,memF_eq H,memF_set H,fullM,dscM,dscR,hs,hs2,hf,hf2,hwl,ho,bne,Slot.cl,Cap.cl,put,fillP,sub,EVt]
    refine fin_of (v:=.s (.i .i64 110)) (ls:=[]) (h:=setM h a b m2) rfl ?_ ?_
    ·exact Wk.keep 0 rfl rfl (by simp only [EV0,zy,zx,zw,zv,zu,zq,zp,zj,zk,leT,zg,rvC,zZ,zY,zX,zW,↓zV,↓zU,reduceCtorEq,zQ,yz,yZ,yy,yx,yw,yv,yu,yq,yY,yp,yj,yk,yX,yW,yV,yg,yU,yQ]) (by rfl) (by rfl)
    ·simp (maxSteps:=999999) only [EV0,zy,zx,zw,zv,zu,zq,zp,zj,zk,leT,zg,rvC,zZ,zY,zX,zW,↓zV,↓zU,reduceCtorEq,zQ,yz,yZ,yy,yx,yw,yv,yu,yq,yY,yp,yj,yk,yX,yW,yV,yg,yU,yQ]
     exact hS
   ·simp only at hS
    obtain ⟨li,hli⟩:∃ li,m2.liB x ⟨⟨c0,c1,c2,c3,c4,c5,c6,c7,c8,c9,c10⟩,p0,q0,r0⟩=li:=⟨_,rfl⟩
    obtain ⟨m3,hm3⟩:∃ m3,m2.liX ⟨⟨c0,c1,c2,c3,c4,c5,c6,c7,c8,c9,c10⟩,p0,q0,r0⟩=m3:=⟨_,rfl⟩
    rw [hli,hm3] at hS
    have hsl:∀ m' (X:List Blk),slotAt (setM h a b m'++(X++[⟨.rw,(⟨⟨c0,c1,c2,c3,c4,c5,c6,c7,c8,c9,c10⟩,p0,q0,r0⟩:Slot).cl,14⟩])) (h.length+X.length)=some ⟨⟨c0,c1,c2,c3,c4,c5,c6,c7,c8,c9,c10⟩,p0,q0,r0⟩:=fun m' X=>slotAt_eq (by rw [List.getElem?_append_right (by rw [setM_len]; omega),setM_len,Nat.add_sub_cancel_left,List.getElem?_append_right (Nat.le_refl _),Nat.sub_self]; rfl)
    have t3:∀ m' q (X:List Blk),turnG [.s (.p (.g a) 0), .s (.i .i64 q), .s (.fn 81 [(.g (h.length+X.length),0)])] (setM h a b m'++(X++[⟨.rw,(⟨⟨c0,c1,c2,c3,c4,c5,c6,c7,c8,c9,c10⟩,p0,q0,r0⟩:Slot).cl,14⟩]))=.ok (.tup []) [] (setM h a b (m'.turnX q fun s=>⟨s.cap,s.prev,q0,s.depth⟩)++(X++[⟨.rw,(⟨⟨c0,c1,c2,c3,c4,c5,c6,c7,c8,c9,c10⟩,p0,q0,r0⟩:Slot).cl,14⟩])):=fun m' q X=>by
     unfold turnG
     rw [memF_app H]
     simp only [turnM,chg,hsl,reduceEqDiff,if_true,if_false]
    have t4:∀ m' q (X:List Blk),turnG [.s (.p (.g a) 0), .s (.i .i64 q), .s (.fn 82 [(.g (h.length+X.length),0)])] (setM h a b m'++(X++[⟨.rw,(⟨⟨c0,c1,c2,c3,c4,c5,c6,c7,c8,c9,c10⟩,p0,q0,r0⟩:Slot).cl,14⟩]))=.ok (.tup []) [] (setM h a b (m'.turnX q fun s=>⟨s.cap,p0,s.next,s.depth⟩)++(X++[⟨.rw,(⟨⟨c0,c1,c2,c3,c4,c5,c6,c7,c8,c9,c10⟩,p0,q0,r0⟩:Slot).cl,14⟩])):=fun m' q X=>by
     unfold turnG
     rw [memF_app H]
     simp only [turnM,chg,hsl,reduceEqDiff,if_true,if_false]
    have t30:=fun m' q=>t3 m' q []
    have t40:=fun m' q=>t4 m' q []
    simp only [List.length_nil,Nat.add_zero,List.nil_append,Slot.cl,Cap.cl] at t30 t40
    have hslz:(slotZ:Slot)=⟨⟨0,0,0,0,0,0,0,0,0,0,0⟩,0,0,0⟩:=rfl
    obtain ⟨m4,hm4⟩:∃ m4,m3.decX l=m4:=⟨_,rfl⟩
    rw [hm4] at hS
    cases l with
    | nil =>
     simp only [M.decX] at hm4
     subst hm4
     have hm4:=hm3
     cases hlb:li
     ·rw [hlb] at hS
      simp only [M.remT,Bool.false_eq_true,if_false] at hS
      simp (maxSteps:=999999) only [EV0,zy,zx,zw,zv,zu,zq,zp,zj,zk,leT,zg,rvC,zZ,zY,zX,zW,↓zV,↓zU,reduceCtorEq,zQ,yz,yZ,yy,yx,yw,yv,yu,yq,yY,yp,yj,yk,yX,yW,yV,yg,yU,yQ,df23,TRm,fullG,dscG,listedG,put2G,setFirstG,memF_eq H,memF_set H,memF_app H,setM_fun H,fullM,dscM,dscR,listedM,put2M,setFirstM,slotF,slot_eta,cap_eta,hs,hs2,hf,hf2,hwl,ho,hli,hlb,hm3,hm4,bne,Slot.cl,Cap.cl,<-hslz,R.lend,R.unlend,S_ren,C.ren,V.ren,Blk.ren,take_app,drop_app,Nat.not_lt_zero,Nat.lt_irrefl,Nat.add_sub_cancel_left,Nat.not_lt,Nat.le_add_right,setM_len,hcm,hcm2,put,fillP,sub,EVt]
      refine fin_of (v:=.s (.i .i64 0)) (ls:=[]) (h:=setM h a b (m3.pX x slotZ)) rfl ?_ ?_
      ·exact Wk.keep 0 rfl rfl (by simp only [EV0,zy,zx,zw,zv,zu,zq,zp,zj,zk,leT,zg,rvC,zZ,zY,zX,zW,↓zV,↓zU,reduceCtorEq,zQ,yz,yZ,yy,yx,yw,yv,yu,yq,yY,yp,yj,yk,yX,yW,yV,yg,yU,yQ]) (by rfl) (by rfl)
      ·simp (maxSteps:=999999) only [EV0,zy,zx,zw,zv,zu,zq,zp,zj,zk,leT,zg,rvC,zZ,zY,zX,zW,↓zV,↓zU,reduceCtorEq,zQ,yz,yZ,yy,yx,yw,yv,yu,yq,yY,yp,yj,yk,yX,yW,yV,yg,yU,yQ]
       exact hS
     ·rw [hlb] at hS
      simp only [M.remT,if_true] at hS
      by_cases hp0:p0=0
      ·have hp0':(p0==0)=true:=by simpa using hp0
       rw [if_pos hp0] at hS
       simp (maxSteps:=999999) only [EV0,zy,zx,zw,zv,zu,zq,zp,zj,zk,leT,zg,rvC,zZ,zY,zX,zW,↓zV,↓zU,reduceCtorEq,zQ,yz,yZ,yy,yx,yw,yv,yu,yq,yY,yp,yj,yk,yX,yW,yV,yg,yU,yQ,df23,TRm,fullG,dscG,listedG,put2G,setFirstG,memF_eq H,memF_set H,memF_app H,setM_fun H,fullM,dscM,dscR,listedM,put2M,setFirstM,slotF,slot_eta,cap_eta,hs,hs2,hf,hf2,hwl,ho,hli,hlb,hm3,hm4,bne,Slot.cl,Cap.cl,<-hslz,R.lend,R.unlend,S_ren,C.ren,V.ren,Blk.ren,take_app,drop_app,Nat.not_lt_zero,Nat.lt_irrefl,Nat.add_sub_cancel_left,Nat.not_lt,Nat.le_add_right,setM_len,hcm,hcm2,put,fillP,sub,EVt,hp0',t30,t40]
       refine fin_of (v:=.s (.i .i64 0)) (ls:=[]) (h:=setM h a b ((((m3.pX x slotZ).sfX q0).turnX p0 fun t=>⟨t.cap,t.prev,q0,t.depth⟩).turnX q0 fun t=>⟨t.cap,p0,t.next,t.depth⟩)) rfl ?_ ?_
       ·exact Wk.keep 0 rfl rfl (by simp only [EV0,zy,zx,zw,zv,zu,zq,zp,zj,zk,leT,zg,rvC,zZ,zY,zX,zW,↓zV,↓zU,reduceCtorEq,zQ,yz,yZ,yy,yx,yw,yv,yu,yq,yY,yp,yj,yk,yX,yW,yV,yg,yU,yQ]) (by rfl) (by rfl)
       ·simp (maxSteps:=999999) only [EV0,zy,zx,zw,zv,zu,zq,zp,zj,zk,leT,zg,rvC,zZ,zY,zX,zW,↓zV,↓zU,reduceCtorEq,zQ,yz,yZ,yy,yx,yw,yv,yu,yq,yY,yp,yj,yk,yX,yW,yV,yg,yU,yQ]
        exact hS
      ·have hp0':(p0==0)=false:=by simpa using hp0
       simp only [hp0,if_false] at hS
       simp (maxSteps:=999999) only [EV0,zy,zx,zw,zv,zu,zq,zp,zj,zk,leT,zg,rvC,zZ,zY,zX,zW,↓zV,↓zU,reduceCtorEq,zQ,yz,yZ,yy,yx,yw,yv,yu,yq,yY,yp,yj,yk,yX,yW,yV,yg,yU,yQ,df23,TRm,fullG,dscG,listedG,put2G,setFirstG,memF_eq H,memF_set H,memF_app H,setM_fun H,fullM,dscM,dscR,listedM,put2M,setFirstM,slotF,slot_eta,cap_eta,hs,hs2,hf,hf2,hwl,ho,hli,hlb,hm3,hm4,bne,Slot.cl,Cap.cl,<-hslz,R.lend,R.unlend,S_ren,C.ren,V.ren,Blk.ren,take_app,drop_app,Nat.not_lt_zero,Nat.lt_irrefl,Nat.add_sub_cancel_left,Nat.not_lt,Nat.le_add_right,setM_len,hcm,hcm2,put,fillP,sub,EVt,hp0',t30,t40]
       refine fin_of (v:=.s (.i .i64 0)) (ls:=[]) (h:=setM h a b (((m3.pX x slotZ).turnX p0 fun t=>⟨t.cap,t.prev,q0,t.depth⟩).turnX q0 fun t=>⟨t.cap,p0,t.next,t.depth⟩)) rfl ?_ ?_
       ·exact Wk.keep 0 rfl rfl (by simp only [EV0,zy,zx,zw,zv,zu,zq,zp,zj,zk,leT,zg,rvC,zZ,zY,zX,zW,↓zV,↓zU,reduceCtorEq,zQ,yz,yZ,yy,yx,yw,yv,yu,yq,yY,yp,yj,yk,yX,yW,yV,yg,yU,yQ]) (by rfl) (by rfl)
       ·simp (maxSteps:=999999) only [EV0,zy,zx,zw,zv,zu,zq,zp,zj,zk,leT,zg,rvC,zZ,zY,zX,zW,↓zV,↓zU,reduceCtorEq,zQ,yz,yZ,yy,yx,yw,yv,yu,yq,yY,yp,yj,yk,yX,yW,yV,yg,yU,yQ]
        exact hS
    | cons y l =>
     have hl:=dsW_len _ _ _ _ ho
     obtain ⟨B,hB⟩:∃ B,intsB (y::l)=B:=⟨_,rfl⟩
     have hbB:∀ m' c,(setM h a b m'++[⟨.rw,B,c⟩])[h.length]?=some (⟨.rw,B,c⟩:Blk):=fun m' c=>by rw [List.getElem?_append_right (by rw [setM_len]; omega),setM_len,Nat.sub_self]; rfl
     have hB0:B[0]?=some (.i .i64 y):=by rw [<-hB]; rfl
     have hBl:B.length=l.length+1:=by rw [<-hB]; simp [intsB]
     have hB1:∀ i,i<l.length->B[1+i]?=some (.i .i64 (nth 0 l i)):=fun i hi=>by
      rw [<-hB,intsB_get (by simp only [List.length_cons]; omega),Nat.add_comm 1 i]; rfl
     have tD1:∀ m' q c,turnG [.s (.p (.g a) 0), .s (.i .i64 q), .s (.fn 77 [])] (setM h a b m'++[⟨.rw,B,c⟩])=.ok (.tup []) [] (setM h a b (m'.turnX q depC)++[⟨.rw,B,c⟩]):=fun m' q c=>by
      unfold turnG
      rw [memF_app H]
      simp only [turnM,chg,true_or,if_true]
      rfl
     have tD2:∀ m' q c,turnG [.s (.p (.g a) 0), .s (.i .i64 q), .s (.fn 78 [])] (setM h a b m'++[⟨.rw,B,c⟩])=.ok (.tup []) [] (setM h a b (m'.turnX q depC)++[⟨.rw,B,c⟩]):=fun m' q c=>by
      unfold turnG
      rw [memF_app H]
      simp only [turnM,chg,or_true,if_true]
      rfl
     have z1:(0:Int)<((l.length+1:Nat):Int):=by omega
     simp (maxSteps:=999999) only [EV0,zy,zx,zw,zv,zu,zq,zp,zj,zk,leT,zg,rvC,zZ,zY,zX,zW,↓zV,↓zU,reduceCtorEq,zQ,yz,yZ,yy,yx,yw,yv,yu,yq,yY,yp,yj,yk,yX,yW,yV,yg,yU,yQ,df23,TRm,fullG,dscG,listedG,put2G,setFirstG,memF_eq H,memF_set H,memF_app H,setM_fun H,fullM,dscM,dscR,listedM,put2M,setFirstM,slotF,slot_eta,cap_eta,hs,hs2,hf,hf2,hwl,ho,hli,hm3,bne,Slot.cl,Cap.cl,<-hslz,R.lend,R.unlend,S_ren,C.ren,V.ren,Blk.ren,take_app,drop_app,Nat.not_lt_zero,Nat.lt_irrefl,Nat.add_sub_cancel_left,Nat.not_lt,Nat.le_add_right,setM_len,hcm,hcm2,put,fillP,sub,EVt,hB,hbB,hB0,hBl,tD1,z1,Int.toNat_natCast]
     intro c hc1
     refine ⟨⟨by omega,by omega⟩, ?_⟩
     have hob:∀ i,i<l.length->B[(if c=1 then 0 else 1)+i]?=some (.i .i64 (nth 0 l i)):=fun i hi=>by rw [if_neg (by omega)]; exact hB1 i hi
     generalize (if c=1 then 0 else 1)=o' at hob ⊢
     have l1:l.length<=9223372036854775807:=by simp only [List.length_cons,List.length_nil] at hl; omega
     clear hs hs2 hf hf2 hwl ho hli
     have t31:=fun m' q=>t3 m' q [⟨.rw,B,c⟩]
     have t41:=fun m' q=>t4 m' q [⟨.rw,B,c⟩]
     simp only [List.length_cons,List.length_nil,Nat.zero_add,List.cons_append,List.nil_append,Slot.cl,Cap.cl] at t31 t41
     have htk:∀ (m':M) (Z:Blk),List.take (h.length+1) (setM h a b m'++[⟨.rw,B,c⟩,Z])=setM h a b m'++[⟨.rw,B,c⟩]:=fun m' Z=>by
      rw [List.append_cons,List.take_left' (by simp [setM_len])]
     have hdr:∀ (m':M) (Z:Blk),List.drop (h.length+1) (setM h a b m'++[⟨.rw,B,c⟩,Z])=[Z]:=fun m' Z=>by
      rw [List.append_cons,List.drop_left' (by simp [setM_len])]
     have hlc:∀ (m':M),clean (h.length+1) (setM h a b m'++[⟨.rw,B,c⟩])=true:=fun m'=>by
      refine clean_app (hcm2 m') (by omega) ?_
      have hv:vals (h.length+1) 0 B=true:=by rw [<-hB]; exact (intsB_is _).va _ _
      simp only [clean,List.all_cons,List.all_nil,Bool.and_true,hv]
     simp only [Nat.add_sub_cancel]
     refine loop_rule (α:=Nat×M) [10,44,45,46,47,48,49,50,51] (fun z=>[(44, .s (.i .i64 (z.1:Int)))]) (fun _=>[⟨.rw,(⟨⟨c0,c1,c2,c3,c4,c5,c6,c7,c8,c9,c10⟩,p0,q0,r0⟩:Slot).cl,14⟩]) (fun z=>setM h a b z.2++[⟨.rw,B,c⟩]) (fun z=>z.1<=l.length/\z.2.decX (l.drop z.1)=m4) (fun z=>l.length-z.1) (0,m3.turnX y depC) ⟨Nat.zero_le _,hm4⟩ ?_ ?_
     ·refine Wk.same (by rfl) rfl ?_
      simp (maxSteps:=999999) only [EV0,zy,zx,zw,zv,zu,zq,zp,zj,zk,leT,zg,rvC,zZ,zY,zX,zW,↓zV,↓zU,reduceCtorEq,zQ,yz,yZ,yy,yx,yw,yv,yu,yq,yY,yp,yj,yk,yX,yW,yV,yg,yU,yQ,Int.natCast_zero]
     ·rintro X ⟨i,m'⟩ ⟨hi,hm'⟩ IH
      simp only at hi hm' ⊢
      simp only [Slot.cl,Cap.cl]
      by_cases h1:i<l.length
      ·obtain ⟨d1,d2,d3,d4⟩:=idx h1 l1
       have g1:=hob i h1
       rw [decX_drop h1] at hm'
       refine run_sound (Tab.ok_Γ _) 100 _ _ _ _ ?_
       simp (maxSteps:=999999) only [EV0,zy,zx,zw,zv,zu,zq,zp,zj,zk,leT,zg,rvC,zZ,zY,zX,zW,↓zV,↓zU,reduceCtorEq,zQ,yz,yZ,yy,yx,yw,yv,yu,yq,yY,yp,yj,yk,yX,yW,yV,yg,yU,yQ,TRm,hbB,g1,d1,d2,d3,d4,tD2,Int.toNat_natCast]
       exact IH (i+1,m'.turnX (nth 0 l i) depC) _ (by simp only; omega) ⟨by simp only; omega,hm'⟩ (Wk.same (by rfl) rfl (by simp only [EV0,zy,zx,zw,zv,zu,zq,zp,zj,zk,leT,zg,rvC,zZ,zY,zX,zW,↓zV,↓zU,reduceCtorEq,zQ,yz,yZ,yy,yx,yw,yv,yu,yq,yY,yp,yj,yk,yX,yW,yV,yg,yU,yQ]))
      ·have e0:i=l.length:=by omega
       subst e0
       rw [List.drop_length] at hm'
       simp only [M.decX] at hm'
       subst hm'
       have h1:¬ ((l.length:Int)<(l.length:Int)):=by omega
       cases hlb:li
       ·rw [hlb] at hS
        simp only [M.remT,Bool.false_eq_true,if_false] at hS
        refine run_sound (Tab.ok_Γ _) 100 _ _ _ _ ?_
        simp (maxSteps:=999999) only [EV0,zy,zx,zw,zv,zu,zq,zp,zj,zk,leT,zg,rvC,zZ,zY,zX,zW,↓zV,↓zU,reduceCtorEq,zQ,yz,yZ,yy,yx,yw,yv,yu,yq,yY,yp,yj,yk,yX,yW,yV,yg,yU,yQ,TRm,listedG,put2G,setFirstG,memF_eq H,memF_set H,memF_app H,setM_fun H,listedM,put2M,setFirstM,slotF,slot_eta,cap_eta,hlb,bne,Slot.cl,Cap.cl,<-hslz,R.lend,R.unlend,S_ren,C.ren,V.ren,Blk.ren,take_app,drop_app,Nat.not_lt_zero,Nat.lt_irrefl,Nat.add_sub_cancel_left,Nat.not_lt,Nat.le_add_right,setM_len,hcm,hcm2,put,fillP,sub,EVt,h1]
        trace_state
        refine fin_of (v:=.s (.i .i64 0)) (ls:=[]) (h:=setM h a b (m'.pX x slotZ)) rfl ?_ ?_
        ·exact drop_i (by simp only [EV0,zy,zx,zw,zv,zu,zq,zp,zj,zk,leT,zg,rvC,zZ,zY,zX,zW,↓zV,↓zU,reduceCtorEq,zQ,yz,yZ,yy,yx,yw,yv,yu,yq,yY,yp,yj,yk,yX,yW,yV,yg,yU,yQ]) (hcm _) (Nat.le_of_eq (hlm _).symm)
        ·simp (maxSteps:=999999) only [EV0,zy,zx,zw,zv,zu,zq,zp,zj,zk,leT,zg,rvC,zZ,zY,zX,zW,↓zV,↓zU,reduceCtorEq,zQ,yz,yZ,yy,yx,yw,yv,yu,yq,yY,yp,yj,yk,yX,yW,yV,yg,yU,yQ]
         exact hS
       ·rw [hlb] at hS
        simp only [M.remT,if_true] at hS
        by_cases hp0:p0=0
        ·have hp0':(p0==0)=true:=by simpa using hp0
         rw [if_pos hp0] at hS
         refine run_sound (Tab.ok_Γ _) 100 _ _ _ _ ?_
         simp (maxSteps:=999999) only [EV0,zy,zx,zw,zv,zu,zq,zp,zj,zk,leT,zg,rvC,zZ,zY,zX,zW,↓zV,↓zU,reduceCtorEq,zQ,yz,yZ,yy,yx,yw,yv,yu,yq,yY,yp,yj,yk,yX,yW,yV,yg,yU,yQ,TRm,listedG,put2G,setFirstG,memF_eq H,memF_set H,memF_app H,setM_fun H,listedM,put2M,setFirstM,slotF,slot_eta,cap_eta,hlb,bne,Slot.cl,Cap.cl,<-hslz,R.lend,R.unlend,S_ren,C.ren,V.ren,Blk.ren,take_app,drop_app,Nat.not_lt_zero,Nat.lt_irrefl,Nat.add_sub_cancel_left,Nat.not_lt,Nat.le_add_right,setM_len,hcm,hcm2,put,fillP,sub,EVt,h1,hp0',t31,t41,htk,hdr,hlc]
         trace_state
         refine fin_of (v:=.s (.i .i64 0)) (ls:=[]) (h:=setM h a b ((((m'.pX x slotZ).sfX q0).turnX p0 fun t=>⟨t.cap,t.prev,q0,t.depth⟩).turnX q0 fun t=>⟨t.cap,p0,t.next,t.depth⟩)) rfl ?_ ?_
         ·exact drop_i (by simp only [EV0,zy,zx,zw,zv,zu,zq,zp,zj,zk,leT,zg,rvC,zZ,zY,zX,zW,↓zV,↓zU,reduceCtorEq,zQ,yz,yZ,yy,yx,yw,yv,yu,yq,yY,yp,yj,yk,yX,yW,yV,yg,yU,yQ]) (hcm _) (Nat.le_of_eq (hlm _).symm)
         ·simp (maxSteps:=999999) only [EV0,zy,zx,zw,zv,zu,zq,zp,zj,zk,leT,zg,rvC,zZ,zY,zX,zW,↓zV,↓zU,reduceCtorEq,zQ,yz,yZ,yy,yx,yw,yv,yu,yq,yY,yp,yj,yk,yX,yW,yV,yg,yU,yQ]
          exact hS
        ·have hp0':(p0==0)=false:=by simpa using hp0
         simp only [hp0,if_false] at hS
         refine run_sound (Tab.ok_Γ _) 100 _ _ _ _ ?_
         simp (maxSteps:=999999) only [EV0,zy,zx,zw,zv,zu,zq,zp,zj,zk,leT,zg,rvC,zZ,zY,zX,zW,↓zV,↓zU,reduceCtorEq,zQ,yz,yZ,yy,yx,yw,yv,yu,yq,yY,yp,yj,yk,yX,yW,yV,yg,yU,yQ,TRm,listedG,put2G,setFirstG,memF_eq H,memF_set H,memF_app H,setM_fun H,listedM,put2M,setFirstM,slotF,slot_eta,cap_eta,hlb,bne,Slot.cl,Cap.cl,<-hslz,R.lend,R.unlend,S_ren,C.ren,V.ren,Blk.ren,take_app,drop_app,Nat.not_lt_zero,Nat.lt_irrefl,Nat.add_sub_cancel_left,Nat.not_lt,Nat.le_add_right,setM_len,hcm,hcm2,put,fillP,sub,EVt,h1,hp0',t31,t41,htk,hdr,hlc]
         trace_state
         refine fin_of (v:=.s (.i .i64 0)) (ls:=[]) (h:=setM h a b (((m'.pX x slotZ).turnX p0 fun t=>⟨t.cap,t.prev,q0,t.depth⟩).turnX q0 fun t=>⟨t.cap,p0,t.next,t.depth⟩)) rfl ?_ ?_
         ·exact drop_i (by simp only [EV0,zy,zx,zw,zv,zu,zq,zp,zj,zk,leT,zg,rvC,zZ,zY,zX,zW,↓zV,↓zU,reduceCtorEq,zQ,yz,yZ,yy,yx,yw,yv,yu,yq,yY,yp,yj,yk,yX,yW,yV,yg,yU,yQ]) (hcm _) (Nat.le_of_eq (hlm _).symm)
         ·simp (maxSteps:=999999) only [EV0,zy,zx,zw,zv,zu,zq,zp,zj,zk,leT,zg,rvC,zZ,zY,zX,zW,↓zV,↓zU,reduceCtorEq,zQ,yz,yZ,yy,yx,yw,yv,yu,yq,yY,yp,yj,yk,yX,yW,yV,yg,yU,yQ]
          exact hS
  ·have hf':(m.fE x==0)=false:=by simpa using hf
   simp only [hf,if_false] at hS
   simp (maxSteps:=999999) only [EV0,zy,zx,zw,zv,zu,zq,zp,zj,zk,leT,zg,rvC,zZ,zY,zX,zW,↓zV,↓zU,reduceCtorEq,zQ,yz,yZ,yy,yx,yw,yv,yu,yq,yY,yp,yj,yk,yX,yW,yV,yg,yU,yQ,df23,TRm,fullG,memF_eq H,memF_set H,fullM,hs,hf',hf,bne,Slot.cl,Cap.cl,put,fillP,sub,EVt]
   refine fin_of (v:=.s (.i .i64 (m.fE x))) (ls:=[]) (h:=setM h a b (m.gX x)) rfl ?_ ?_
   ·exact Wk.keep 0 rfl rfl (by simp only [EV0,zy,zx,zw,zv,zu,zq,zp,zj,zk,leT,zg,rvC,zZ,zY,zX,zW,↓zV,↓zU,reduceCtorEq,zQ,yz,yZ,yy,yx,yw,yv,yu,yq,yY,yp,yj,yk,yX,yW,yV,yg,yU,yQ]) (by rfl) (by rfl)
   ·simp (maxSteps:=999999) only [EV0,zy,zx,zw,zv,zu,zq,zp,zj,zk,leT,zg,rvC,zZ,zY,zX,zW,↓zV,↓zU,reduceCtorEq,zQ,yz,yZ,yy,yx,yw,yv,yu,yq,yY,yp,yj,yk,yX,yW,yV,yg,yU,yQ]
    exact hS
 ·exact hS.elim
end Go.Proofs.YtcdfofeolgbnbaaGreat

/- The document's Descendants and List. -/
namespace Go.Proofs.YtcdfofeolgbnbaaGreat
open Go.D
set_option linter.all false
set_option maxRecDepth 100000
set_option maxHeartbeats 8000000

def rdW (d:Int) (N:Nat):Nat->Int->M->List Int->Option (List Int)×M
 | 0,x,m,l=>(none,m)
 | k+1,x,m,l=>if x=0 then (some l,m) else if m.fE x=0/\l.length<=N then
   (if (m.gV x).depth<=d then (some l,m.gX x) else rdW d N k (m.gV x).next (m.gX x) (l++[x])) else (none,m.gX x)

end Go.Proofs.YtcdfofeolgbnbaaGreat

/- What goes through a list that is in order finds those that lie deeper. -/
namespace Go.Proofs.YtcdfofeolgbnbaaGreat
open Go.D
set_option linter.all false
set_option maxRecDepth 100000
set_option maxHeartbeats 4000000

theorem dsW_chain {m:M} {d:Int}:∀ (L:List Int) (k:Nat) (m':M) (pr:Int) (acc:List Int),m'.w=m.w->(∀ x,x∈L->m.fE x=0)->chain m.gV 0 pr L->L.length<=k ->
  ∃ m2,dsW d k (L.headD 0) m' acc=(some (acc++deep m.gV d L),m2)/\m2.w=m.w
 | [],k,m',pr,acc,hw,_,_,_=>by
  refine ⟨m', ?_,hw⟩
  cases k<;>simp [dsW,deep]
 | y::L,0,m',pr,acc,_,_,_,hk=>by simp at hk
 | y::L,k+1,m',pr,acc,hw,hf,hc,hk=>by
  obtain ⟨h1,h2,h3⟩:=hc
  have hy:=hf y List.mem_cons_self
  have y0:y≠0:=there_ne0 (fE_there hy)
  have hf':m'.fE y=0:=by rw [fE_w hw]; exact hy
  have hg:m'.gV y=m.gV y:=gV_w hw y
  have hw':(m'.gX y).w=m.w:=(gX_w m' y).trans hw
  simp only [List.headD_cons,dsW,y0,if_false,hf',if_true,hg]
  by_cases hd:(m.gV y).depth<=d
  ·refine ⟨m'.gX y, ?_,hw'⟩
   rw [if_pos hd]
   have:¬ d<(m.gV y).depth:=by omega
   simp [deep,this]
  ·rw [if_neg hd,h2]
   obtain ⟨m2,e,e2⟩:=dsW_chain L k (m'.gX y) y (acc++[y]) hw' (fun x hx=>hf x (List.mem_cons_of_mem _ hx)) h3 (by simpa using hk)
   refine ⟨m2, ?_,e2⟩
   rw [e]
   have:d<(m.gV y).depth:=by omega
   simp [deep,this]
theorem rdW_chain {m:M} {d:Int} {N:Nat}:∀ (L:List Int) (k:Nat) (m':M) (pr:Int) (acc:List Int),m'.w=m.w->(∀ x,x∈L->m.fE x=0)->chain m.gV 0 pr L->acc.length+L.length<=N->L.length<k ->
  ∃ m2,rdW d N k (L.headD 0) m' acc=(some (acc++deep m.gV d L),m2)/\m2.w=m.w
 | [],0,m',pr,acc,hw,_,_,_,hk=>by simp at hk
 | [],k+1,m',pr,acc,hw,_,_,_,_=>⟨m',by simp [rdW,deep],hw⟩
 | y::L,0,m',pr,acc,_,_,_,_,hk=>by simp at hk
 | y::L,k+1,m',pr,acc,hw,hf,hc,hN,hk=>by
  obtain ⟨h1,h2,h3⟩:=hc
  have hy:=hf y List.mem_cons_self
  have y0:y≠0:=there_ne0 (fE_there hy)
  have hf':m'.fE y=0:=by rw [fE_w hw]; exact hy
  have hg:m'.gV y=m.gV y:=gV_w hw y
  have hw':(m'.gX y).w=m.w:=(gX_w m' y).trans hw
  have hNl:acc.length<=N:=by simp only [List.length_cons] at hN; omega
  simp only [List.headD_cons,rdW,y0,if_false,hf',hNl,and_self,if_true,hg]
  by_cases hd:(m.gV y).depth<=d
  ·refine ⟨m'.gX y, ?_,hw'⟩
   rw [if_pos hd]
   have:¬ d<(m.gV y).depth:=by omega
   simp [deep,this]
  ·rw [if_neg hd,h2]
   obtain ⟨m2,e,e2⟩:=rdW_chain (N:=N) L k (m'.gX y) y (acc++[y]) hw' (fun x hx=>hf x (List.mem_cons_of_mem _ hx)) h3 (by simp only [List.length_append,List.length_cons,List.length_nil] at hN ⊢; omega) (by simpa using hk)
   refine ⟨m2, ?_,e2⟩
   rw [e]
   have:d<(m.gV y).depth:=by omega
   simp [deep,this]
section
variable {m:M} {P:Int->Prop} {L:List Int}
theorem M.Inv.dsc (I:m.Inv P L) {a:Int} {L1 L2:List Int} (e:L=L1++a::L2) {m':M} (hw:m'.w=m.w):∃ m2,dsW (m.gV a).depth (m.w.length/4) (m.gV a).next m' []=(some (deep m.gV (m.gV a).depth L2),m2)/\m2.w=m.w:=by
 have hc:=I.ch
 have hl:=I.llen
 rw [e] at hc hl
 obtain ⟨_,hc⟩:=chain_app.1 hc
 obtain ⟨_,h2,h3⟩:=hc
 simp only [List.length_append,List.length_cons] at hl
 obtain ⟨m2,e1,e2⟩:=dsW_chain (m:=m) (d:=(m.gV a).depth) L2 (m.w.length/4) m' a [] hw (fun x hx=>I.full x (by rw [e]; exact List.mem_append_right _ (List.mem_cons_of_mem _ hx))) h3 (by omega)
 rw [<-h2] at e1
 exact ⟨m2,by simpa using e1,e2⟩
theorem M.Inv.rdsc (I:m.Inv P L) {a:Int} {L1 L2:List Int} (e:L=L1++a::L2) {m':M} (hw:m'.w=m.w):∃ m2,rdW (m.gV a).depth (m.w.length/4) (m.w.length/4+2) (m.gV a).next m' []=(some (deep m.gV (m.gV a).depth L2),m2)/\m2.w=m.w:=by
 have hc:=I.ch
 have hl:=I.llen
 rw [e] at hc hl
 obtain ⟨_,hc⟩:=chain_app.1 hc
 obtain ⟨_,h2,h3⟩:=hc
 simp only [List.length_append,List.length_cons] at hl
 obtain ⟨m2,e1,e2⟩:=rdW_chain (m:=m) (d:=(m.gV a).depth) (N:=m.w.length/4) L2 (m.w.length/4+2) m' a [] hw (fun x hx=>I.full x (by rw [e]; exact List.mem_append_right _ (List.mem_cons_of_mem _ hx))) h3 (by simp only [List.length_nil]; omega) (by omega)
 rw [<-h2] at e1
 exact ⟨m2,by simpa using e1,e2⟩
end
end Go.Proofs.YtcdfofeolgbnbaaGreat

/- The document's Remove. -/
namespace Go.Proofs.YtcdfofeolgbnbaaGreat
open Go.D
set_option linter.all false
set_option maxRecDepth 100000
set_option maxHeartbeats 8000000

def M.rdecX:M->List Int->M
 | m,[]=>m
 | m,x::l=>(if m.gE x=0 then (m.gX x).pX x (depC (m.gV x)) else m.gX x).rdecX l
def M.rremT (m:M) (x:Int) (s:Slot):M:=(if s.prev=0 then (if m.fst=x then (m.fstX.pX x slotZ).lkX s.prev s.next else m.fstX.pX x slotZ) else (m.pX x slotZ).lkX s.prev s.next).bkX s.prev s.next
def M.rrem (m:M) (x:Int):Int×M:=if m.fE x=0 then (match rdW (m.gV x).depth (m.w.length/4) (m.w.length/4+2) (m.gV x).next ((m.gX x).gX x) [] with
 | (none,m2)=>(110,m2)
 | (some l,m2)=>(0,(m2.rdecX l).rremT x (m.gV x))) else (m.fE x,m.gX x)
end Go.Proofs.YtcdfofeolgbnbaaGreat

/- Remove,of the code and of the document,at a slot of a list that is in order. -/
namespace Go.Proofs.YtcdfofeolgbnbaaGreat
open Go.D
set_option linter.all false
set_option maxRecDepth 100000
set_option maxHeartbeats 4000000

theorem getLastD_mem {x d:Int} {L:List Int}:(x::L).getLastD d∈x::L:=by
 rw [List.getLastD_eq_getLast?,List.getLast?_eq_some_getLast (by simp),Option.getD_some]
 exact List.getLast_mem _
theorem chain_post {V V':Int->Slot} {a n:Int}:∀ {L:List Int} {pr:Int},chain V a pr L->L.Nodup->(∀ x,x∈L->(V' x).prev=(V x).prev/\(V' x).next=if x=L.getLastD 0 then n else (V x).next)->chain V' n pr L
 | [],_,_,_,_=>trivial
 | [x],pr,⟨h1,_,_⟩,_,h=>by
  obtain ⟨e1,e2⟩:=h x List.mem_cons_self
  rw [if_pos (by rfl)] at e2
  exact ⟨e1.trans h1,e2,trivial⟩
 | x::y::L,pr,⟨h1,h2,h3⟩,hn,h=>by
  have hn':=List.nodup_cons.1 hn
  have eL:(x::y::L).getLastD 0=(y::L).getLastD 0:=rfl
  rw [eL] at h
  obtain ⟨e1,e2⟩:=h x List.mem_cons_self
  have hne:¬ x=(y::L).getLastD 0:=fun e=>hn'.1 (by rw [e]; exact getLastD_mem)
  rw [if_neg hne] at e2
  exact ⟨e1.trans h1,e2.trans h2,chain_post h3 hn'.2 fun z hz=>h z (List.mem_cons_of_mem _ hz)⟩

def depS (s:Slot):Slot:=⟨s.cap,s.prev,s.next,s.depth-1⟩
def decV (V:Int->Slot) (Ds:List Int) (x:Int):Slot:=if x∈Ds then depS (V x) else V x
theorem decV_nil (V:Int->Slot):decV V []=V:=funext fun x=>if_neg List.not_mem_nil
theorem decV_out {V:Int->Slot} {Ds:List Int} {x:Int} (h:x∉Ds):decV V Ds x=V x:=if_neg h
theorem decV_cap (V:Int->Slot) (Ds:List Int) (x:Int):(decV V Ds x).cap=(V x).cap:=by unfold decV; split<;>rfl
theorem decV_prev (V:Int->Slot) (Ds:List Int) (x:Int):(decV V Ds x).prev=(V x).prev:=by unfold decV; split<;>rfl
theorem decV_next (V:Int->Slot) (Ds:List Int) (x:Int):(decV V Ds x).next=(V x).next:=by unfold decV; split<;>rfl
section
variable {m:M} {P:Int->Prop} {L:List Int}
theorem depC_of {s:Slot} (h0:0<s.depth) (h1:s.depth<65536):depC s=depS s:=by
 unfold depC depS
 rw [wrap64]<;>omega
theorem M.To.dec1 {m':M} {V:Int->Slot} {F:Int} (T:m.To m' V F) {x:Int} (hx:m.gE x=0) (ht:(V x).cap.ty≠0) (hd:0<(V x).depth):m.To (m'.turnX x depC) (fun y=>if y=x then depS (V x) else V y) F/\m.To (if m'.gE x=0 then (m'.gX x).pX x (depC (m'.gV x)) else m'.gX x) (fun y=>if y=x then depS (V x) else V y) F:=by
 have h0:=there_ne0 (gE_there hx).1
 obtain ⟨k1,k2,k3,k4⟩:=T.lk h0
 have e:=depC_of hd k4
 have hr:slotRB (depC (V x))=true:=by rw [e]; exact T.vlinks h0 ht k1 k2 (by omega) (by omega)
 rw [<-e]
 refine ⟨T.turn hx ht hr, ?_⟩
 rw [if_pos ((T.E x).trans hx),T.V x h0]
 exact (T.gX x).pX hx hr
theorem M.To.dec {F:Int}:∀ (Ds:List Int) {m' r':M} {V:Int->Slot},m.To m' V F->m.To r' V F->Ds.Nodup->(∀ x,x∈Ds->m.gE x=0/\(V x).cap.ty≠0/\0<(V x).depth)->m.To (m'.decX Ds) (decV V Ds) F/\m.To (r'.rdecX Ds) (decV V Ds) F
 | [],m',r',V,T,U,_,_=>by rw [decV_nil]; exact ⟨T,U⟩
 | x::Ds,m',r',V,T,U,hn,h=>by
  obtain ⟨hx,hn⟩:=List.nodup_cons.1 hn
  obtain ⟨h1,h2,h3⟩:=h x List.mem_cons_self
  have T1:=(T.dec1 h1 h2 h3).1
  have U1:=(U.dec1 h1 h2 h3).2
  obtain ⟨a1,a2⟩:=M.To.dec Ds T1 U1 hn fun y hy=>by
   have hyx:y≠x:=fun e=>hx (e ▸ hy)
   rw [if_neg hyx]
   exact h y (List.mem_cons_of_mem _ hy)
  have e:∀ y,y≠0->decV (fun y=>if y=x then depS (V x) else V y) Ds y=decV V (x::Ds) y:=fun y _=>by
   unfold decV
   by_cases c:y=x
   ·subst c
    simp only [if_neg hx,if_true,List.mem_cons,true_or]
   ·simp only [List.mem_cons,c,false_or,if_false]
  exact ⟨a1.val e rfl,a2.val e rfl⟩
def M.remV (m:M) (a:Int) (Ds:List Int):Int->Slot:=fun x=>if x=a then slotZ else
 ⟨(m.gV x).cap,if x=(m.gV a).next then (m.gV a).prev else (m.gV x).prev,if x=(m.gV a).prev then (m.gV a).next else (m.gV x).next,(decV m.gV Ds x).depth⟩
def M.remF (m:M) (a:Int):Int:=if (m.gV a).prev=0 then (m.gV a).next else m.fst
theorem mem_deep {V:Int->Slot} {d x:Int}:∀ {L:List Int},x∈deep V d L->x∈L/\d<(V x).depth
 | [],h=>by cases h
 | z::L,h=>by
  by_cases c:d<(V z).depth
  ·have e:deep V d (z::L)=z::deep V d L:=by simp [deep,c]
   rw [e] at h
   rcases List.mem_cons.1 h with h|h
   ·exact ⟨by rw [h]; exact List.mem_cons_self,by rw [h]; exact c⟩
   ·obtain ⟨h1,h2⟩:=mem_deep h
    exact ⟨List.mem_cons_of_mem _ h1,h2⟩
  ·have e:deep V d (z::L)=[]:=by simp [deep,c]
   rw [e] at h
   cases h
theorem M.Inv.rem_facts (I:m.Inv P L) {a:Int} {L1 L2:List Int} (e:L=L1++a::L2) (x:Int) (hx:x∈deep m.gV (m.gV a).depth L2):x∈L/\x≠a/\0<(m.gV x).depth:=by
 obtain ⟨h2,hd⟩:=mem_deep hx
 have h0:=(gV_links m a).2.2.1
 refine ⟨by rw [e]; exact List.mem_append_right _ (List.mem_cons_of_mem _ h2),fun e2=>?_,by omega⟩
 subst e2
 omega
theorem M.Inv.rem_to (I:m.Inv P L) {a:Int} {L1 L2:List Int} (e:L=L1++a::L2):((m.rem a).1=0/\m.To (m.rem a).2 (m.remV a (deep m.gV (m.gV a).depth L2)) (m.remF a))/\((m.rrem a).1=0/\m.To (m.rrem a).2 (m.remV a (deep m.gV (m.gV a).depth L2)) (m.remF a)):=by
 have ha:a∈L:=by rw [e]; simp
 have hfa:=I.full a ha
 have a0:a≠0:=fun h=>I.no0 (h ▸ ha)
 obtain ⟨Ds,hDs⟩:∃ Ds,deep m.gV (m.gV a).depth L2=Ds:=⟨_,rfl⟩
 have hf:=I.rem_facts e
 rw [hDs] at hf
 have hnd:Ds.Nodup:=by
  have hn:=I.nd
  rw [e] at hn
  have:=(List.nodup_append.1 hn).2.1
  rw [<-hDs]
  exact (List.nodup_cons.1 this).2.sublist (List.takeWhile_sublist _)
 have hDa:a∉Ds:=fun h=>(hf a h).2.1 rfl
 obtain ⟨m2,q1,q2⟩:=I.dsc e (m':=(m.gX a).gX a) (by rw [gX_w,gX_w])
 obtain ⟨r2,p1,p2⟩:=I.rdsc e (m':=(m.gX a).gX a) (by rw [gX_w,gX_w])
 rw [hDs] at q1 p1 ⊢
 have T0:m.To m2 m.gV m.fst:=(M.To.refl m).of_w q2
 have U0:m.To r2 m.gV m.fst:=(M.To.refl m).of_w p2
 have hpr:=I.prev ha
 have hnx:=I.next ha
 have ip:=I.irr_prev ha
 have inx:=I.irr_next ha
 have hpn:=I.prev_next ha
 obtain ⟨T1,U1⟩:=M.To.dec Ds (T0.liX (m.gV a)) U0 hnd fun x hx=>⟨(I.gE (hf x hx).1).1,(I.gE (hf x hx).1).2,(hf x hx).2.2⟩
 have T2:=T1.pX (I.gE ha).1 slotZ_R
 have ok:∀ x,(x=0\/x∈L)->x≠a->x=0\/(m.gE x=0/\((fun y=>if y=a then slotZ else decV m.gV Ds y) x).cap.ty≠0):=fun x hx hxa=>hx.imp id fun h=>⟨(I.gE h).1,by simp only [if_neg hxa]; rw [decV_cap]; exact (I.gE h).2⟩
 have okp:=ok _ hpr ip
 have okn:=ok _ hnx inx
 have tn:(m.gV a).next=0\/thereB m (m.gV a).next=true:=hnx.imp id fun h=>fE_there (I.full _ h)
 have tp:(m.gV a).prev=0\/thereB m (m.gV a).prev=true:=hpr.imp id fun h=>fE_there (I.full _ h)
 have lkn:linkB (m.gV a).next=true:=(gV_links m a).2.1
 have lkp:linkB (m.gV a).prev=true:=(gV_links m a).1
 have hV:∀ x,x≠0->(fun z=>if z=(m.gV a).next then ((fun y=>if y=(m.gV a).prev then ((fun y=>if y=a then slotZ else decV m.gV Ds y) (m.gV a).prev).toN (m.gV a).next else (fun y=>if y=a then slotZ else decV m.gV Ds y) y) (m.gV a).next).toP (m.gV a).prev else (fun y=>if y=(m.gV a).prev then ((fun y=>if y=a then slotZ else decV m.gV Ds y) (m.gV a).prev).toN (m.gV a).next else (fun y=>if y=a then slotZ else decV m.gV Ds y) y) z) x=m.remV a Ds x:=fun x hx0=>by
  simp only [M.remV]
  by_cases c1:x=a
  ·rw [if_pos c1,if_neg (fun h=>inx (h.symm.trans c1)),if_neg (fun h=>ip (h.symm.trans c1)),if_pos c1]
  ·rw [if_neg c1]
   by_cases c2:x=(m.gV a).next
   ·have c3:x≠(m.gV a).prev:=fun h=>by
     rcases hpn with h2|h2
     ·exact hx0 (c2.trans h2)
     ·exact h2 (h.symm.trans c2)
    rw [<-c2]
    simp only [if_true,if_neg c3,if_neg c1]
    exact Slot.ext4 (decV_cap _ _ _) rfl (decV_next _ _ _) rfl
   ·rw [if_neg c2,if_neg c2]
    by_cases c3:x=(m.gV a).prev
    ·rw [<-c3]
     simp only [if_true,if_neg c1]
     exact Slot.ext4 (decV_cap _ _ _) (decV_prev _ _ _) rfl rfl
    ·simp only [if_neg c3,if_neg c1]
     exact Slot.ext4 (decV_cap _ _ _) (decV_prev _ _ _) (decV_next _ _ _) rfl
 refine ⟨?_, ?_⟩
 ·unfold M.rem
  rw [if_pos hfa,q1]
  refine ⟨rfl, ?_⟩
  have hli:m2.liB a (m.gV a)=true:=by rw [liB_w q2]; exact I.listed ha
  simp only [M.remT,hli,if_true]
  have T3:m.To ((if (m.gV a).prev=0 then (((m2.liX (m.gV a)).decX Ds).pX a slotZ).sfX (m.gV a).next else ((m2.liX (m.gV a)).decX Ds).pX a slotZ).turnX (m.gV a).prev fun t=>⟨t.cap,t.prev,(m.gV a).next,t.depth⟩)
    (fun y=>if y=(m.gV a).prev then ((fun y=>if y=a then slotZ else decV m.gV Ds y) (m.gV a).prev).toN (m.gV a).next else (fun y=>if y=a then slotZ else decV m.gV Ds y) y) (m.remF a):=by
   unfold M.remF
   by_cases c:(m.gV a).prev=0
   ·simp only [c,if_true]
    exact ((T2.sfX I.len.1 tn).turn0).val (fun x hx=>by simp only [hx,if_false]) rfl
   ·simp only [c,if_false]
    obtain ⟨o1,o2⟩:=okp.resolve_left c
    obtain ⟨k1,k2,k3,k4⟩:=T2.lk c
    exact T2.turn o1 o2 (T2.vlinks c o2 k1 lkn k3 k4)
  by_cases c:(m.gV a).next=0
  ·have:=T3.turn0 (g:=fun t=>⟨t.cap,(m.gV a).prev,t.next,t.depth⟩)
   rw [c] at this hV ⊢
   exact this.val (fun x hx=>by rw [<-hV x hx]; simp only [hx,if_false]) rfl
  ·obtain ⟨o1,o2⟩:=okn.resolve_left c
   have hnp:(m.gV a).next≠(m.gV a).prev:=Ne.symm (hpn.resolve_left c)
   have o2':((fun y=>if y=(m.gV a).prev then ((fun y=>if y=a then slotZ else decV m.gV Ds y) (m.gV a).prev).toN (m.gV a).next else (fun y=>if y=a then slotZ else decV m.gV Ds y) y) (m.gV a).next).cap.ty≠0:=by simp only [if_neg hnp]; exact o2
   obtain ⟨k1,k2,k3,k4⟩:=T3.lk c
   exact (T3.turn (g:=fun t=>⟨t.cap,(m.gV a).prev,t.next,t.depth⟩) o1 o2' (T3.vlinks c o2' lkp k2 k3 k4)).val (fun x hx=>by rw [<-hV x hx]; rfl) rfl
 ·unfold M.rrem
  rw [if_pos hfa,p1]
  refine ⟨rfl, ?_⟩
  have U2:m.To ((r2.rdecX Ds).pX a slotZ) _ _:=U1.pX (I.gE ha).1 slotZ_R
  have key:∀ {r3:M},m.To r3 (fun y=>if y=a then slotZ else decV m.gV Ds y) m.fst->m.To ((r3.lkX (m.gV a).prev (m.gV a).next).bkX (m.gV a).prev (m.gV a).next) (m.remV a Ds) (m.remF a):=fun U=>by
   have h1:=U.lkX I.len.1 okp tn
   have okn':(m.gV a).next=0\/(m.gE (m.gV a).next=0/\((fun y=>if y=(m.gV a).prev then ((fun y=>if y=a then slotZ else decV m.gV Ds y) (m.gV a).prev).toN (m.gV a).next else (fun y=>if y=a then slotZ else decV m.gV Ds y) y) (m.gV a).next).cap.ty≠0):=by
    rcases hpn with c|c
    ·exact .inl c
    ·refine okn.imp id fun h=>⟨h.1, ?_⟩
     simp only [if_neg (Ne.symm c)]
     exact h.2
   exact (h1.bk okn' tp).val (fun x hx=>by rw [<-hV x hx]) (by unfold M.remF; rfl)
  show m.To ((r2.rdecX Ds).rremT a (m.gV a)) _ _
  unfold M.rremT
  by_cases c:(m.gV a).prev=0
  ·have hfst:m.fst=a:=(I.first ha).1 c
   have e1:(r2.rdecX Ds).fst=a:=U1.F.trans hfst
   rw [if_pos c,if_pos e1]
   exact key (U1.fstX.pX (I.gE ha).1 slotZ_R)
  ·rw [if_neg c]
   exact key U2
theorem M.Inv.rem_inv (I:m.Inv P L) {a:Int} {L1 L2:List Int} (e:L=L1++a::L2) {m':M} {Ds:List Int} (T:m.To m' (m.remV a Ds) (m.remF a)) (hDs:∀ x,x∈Ds->x∈L):m'.Inv P (L1++L2):=by
 have ha:a∈L:=by rw [e]; simp
 have a0:a≠0:=fun h=>I.no0 (h ▸ ha)
 have hn:=I.nd
 have hc:=I.ch
 have hF:=I.fst
 rw [e] at hn hc hF
 obtain ⟨n1,n2,n3⟩:=List.nodup_append.1 hn
 obtain ⟨n4,n5⟩:=List.nodup_cons.1 n2
 have haL1:a∉L1:=fun h=>n3 a h a List.mem_cons_self rfl
 obtain ⟨c1,c2⟩:=chain_app.1 hc
 obtain ⟨c3,c4,c5⟩:=c2
 have hsub:∀ x,x∈L1++L2->x∈L/\x≠a:=fun x hx=>by
  rcases List.mem_append.1 hx with h|h
  ·exact ⟨by rw [e]; exact List.mem_append_left _ h,fun e2=>haL1 (e2 ▸ h)⟩
  ·exact ⟨by rw [e]; exact List.mem_append_right _ (List.mem_cons_of_mem _ h),fun e2=>n4 (e2 ▸ h)⟩
 have hpv:∀ x,x∈L1++L2->(m.remV a Ds x).prev=(if x=(m.gV a).next then (m.gV a).prev else (m.gV x).prev)/\(m.remV a Ds x).next=if x=(m.gV a).prev then (m.gV a).next else (m.gV x).next:=fun x hx=>by
  unfold M.remV
  rw [if_neg (hsub x hx).2]
  exact ⟨rfl,rfl⟩
 have x0:∀ x,x∈L1++L2->x≠0:=fun x hx e2=>I.no0 (e2 ▸ (hsub x hx).1)
 refine I.to T ?_ (fun x hx=>?_) ?_ ?_ (fun x hP hx=>?_)
 ·exact List.nodup_append.2 ⟨n1,n5,fun x hx y hy=>n3 x hx y (List.mem_cons_of_mem _ hy)⟩
 ·refine ⟨(I.gE (hsub x hx).1).1, ?_⟩
  unfold M.remV
  rw [if_neg (hsub x hx).2]
  exact (I.gE (hsub x hx).1).2
 ·refine chain_app.2 ⟨?_, ?_⟩
  ·refine chain_post (a:=a) c1 n1 fun x hx=>?_
   obtain ⟨h1,h2⟩:=hpv x (List.mem_append_left _ hx)
   refine ⟨?_, ?_⟩
   ·rw [h1,if_neg]
    intro h3
    rw [c4] at h3
    cases L2 with
    | nil=>exact x0 x (List.mem_append_left _ hx) h3
    | cons y L2=>exact n3 x hx y (List.mem_cons_of_mem _ List.mem_cons_self) h3
   ·rw [h2,c3,c4]
  ·refine chain_pre (q:=a) c5 n5 fun x hx=>?_
   obtain ⟨h1,h2⟩:=hpv x (List.mem_append_right _ hx)
   refine ⟨?_, ?_⟩
   ·rw [h2,if_neg]
    intro h3
    rw [c3] at h3
    cases L1 with
    | nil=>exact x0 x (List.mem_append_right _ hx) h3
    | cons y L1=>exact n3 _ getLastD_mem x (List.mem_cons_of_mem _ hx) h3.symm
   ·rw [h1,c3,c4]
 ·unfold M.remF
  rw [c3,c4,hF]
  cases L1 with
  | nil=>simp
  | cons y L1 =>
   rw [if_neg]
   ·rfl
   ·intro h3
    have:=getLastD_mem (x:=y) (d:=0) (L:=L1)
    rw [h3] at this
    exact x0 0 (List.mem_append_left _ this) rfl
 ·unfold M.remV
  by_cases c:x=a
  ·rw [if_pos c]; exact ⟨rfl,rfl,rfl⟩
  ·rw [if_neg c]
   have hxL:x∉L:=fun h=>by
    rw [e] at h
    rcases List.mem_append.1 h with h|h
    ·exact hx (List.mem_append_left _ h)
    ·rcases List.mem_cons.1 h with h|h
     ·exact c h
     ·exact hx (List.mem_append_right _ h)
   have hx0:x≠0:=there_ne0 (gE_there (I.out x hP).1).1
   obtain ⟨z1,z2,z3⟩:=(I.out x hP).2 hxL
   have g1:x≠(m.gV a).next:=fun h=>by
    rcases I.next ha with h2|h2
    ·exact hx0 (h.trans h2)
    ·exact hxL (h ▸ h2)
   have g2:x≠(m.gV a).prev:=fun h=>by
    rcases I.prev ha with h2|h2
    ·exact hx0 (h.trans h2)
    ·exact hxL (h ▸ h2)
   rw [if_neg g1,if_neg g2,decV_out (fun h=>hxL (hDs x h))]
   exact ⟨z1,z2,z3⟩
end
end Go.Proofs.YtcdfofeolgbnbaaGreat

/- Law 11: a handler's cap,lists of numbers; both memories. -/
namespace Go.Proofs.YtcdfofeolgbnbaaGreat
open Go.D
set_option linter.all false
set_option maxRecDepth 100000
set_option maxHeartbeats 8000000

/-! ### both memories -/
def bothB (a p:Nat):Blk:=⟨.rw,[.p (.g a) 0, .p (.g p) 0],2⟩
structure IsB (H:List Blk) (c a b p q:Nat) (m r:M):Prop where
 hc:H[c]?=some (bothB a p)
 hm:IsMem H a b m
 hr:IsMem H p q r
 d:a≠p/\a≠q/\b≠p/\b≠q
section
variable {H X:List Blk} {c a b p q:Nat} {m r:M}
end
open Classical in
noncomputable def bothOf (H:List Blk) (c:Nat):Option (Nat×Nat×Nat×Nat×M×M):=if hx:∃ x:Nat×Nat×Nat×Nat×M×M,IsB H c x.1 x.2.1 x.2.2.1 x.2.2.2.1 x.2.2.2.2.1 x.2.2.2.2.2 then some (Classical.choose hx) else none

structure Op where
 wh:Int
 a:Int
 b:Int
 n:Int
def Op.cl (x:Op):List S:=[.i .i64 x.wh, .i .i64 x.a, .i .i64 x.b, .i .i64 x.n]
theorem Op.cl_len (x:Op):x.cl.length=4:=rfl
theorem Op.inj {x y:Op} (e:x.cl=y.cl):x=y:=by
 obtain ⟨a,b,c,d⟩:=x
 obtain ⟨a',b',c',d'⟩:=y
 simp only [Op.cl,List.cons.injEq,S.i.injEq,true_and,and_true] at e
 obtain ⟨rfl,rfl,rfl,rfl⟩:=e
 rfl
instance:Cells Op.cl:=⟨⟨4,Op.cl_len⟩,fun x y e=>Op.inj e⟩
end Go.Proofs.YtcdfofeolgbnbaaGreat

