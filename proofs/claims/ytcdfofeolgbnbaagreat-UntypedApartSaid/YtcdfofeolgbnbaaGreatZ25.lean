/- The document's Next,Last,Below,Remove. -/
import Derived.Test.YtcdfofeolgbnbaaGreatZ11
import Derived.Test.YtcdfofeolgbnbaaGreatZ19
import Derived.Test.YtcdfofeolgbnbaaGreatZ24
import Derived.Test.YtcdfofeolgbnbaaGreatZ20
/- Package cdt: Remove. -/
namespace Go.Proofs.YtcdfofeolgbnbaaGreat
open Go.D
open Nat (reduceAdd reducePow reduceMul reduceSub reduceLeDiff reduceLT reduceEqDiff)
open Int (reduceNeg reduceLE reduceEq reduceNe reduceToNat)
open Go.D renaming istep → zy,pickR → zx,bin1R → zw,un1R → zv,eqS → zu,eq1 → zq,cmpS → zp,cmp1 → zj,isNil → zk,shows → zg,result → zZ,qT → zV,qF → zU
open List renaming set → zY,replicate → zX
open Option renaming map → zW
open Nat renaming reduceAdd → zQ,reducePow → yz,reduceMul → yy,reduceSub → yx,reduceLeDiff → yw,reduceLT → yv,reduceEqDiff → yu
open Int renaming reduceNeg → yq,reduceLE → yp,reduceEq → yj,reduceNe → yk,reduceToNat → yg,reducePow → yZ,reduceLT → yY,reduceAdd → yX,reduceSub → yW,reduceMul → yV,reduceBEq → yU,reduceBNe → yQ
set_option linter.all false
set_option maxRecDepth 100000
set_option maxHeartbeats 8000000

def depC (s:Slot):Slot:=⟨s.cap,s.prev,s.next,IntKind.i64.wrap (s.depth-1)⟩
def M.decX:M->List Int->M
 | m,[]=>m
 | m,x::l=>(m.turnX x depC).decX l
def M.remT (m:M) (x:Int) (s:Slot) (li:Bool):M:=if li=true then ((if s.prev=0 then (m.pX x slotZ).sfX s.next else m.pX x slotZ).turnX s.prev fun t=>⟨t.cap,t.prev,s.next,t.depth⟩).turnX s.next fun t=>⟨t.cap,s.prev,t.next,t.depth⟩ else m.pX x slotZ
def M.rem (m:M) (x:Int):Int×M:=if m.fE x=0 then (match dsW (m.gV x).depth (m.w.length/4) (m.gV x).next ((m.gX x).gX x) [] with
 | (none,m2)=>(110,m2)
 | (some l,m2)=>(0,((m2.liX (m.gV x)).decX l).remT x (m.gV x) (m2.liB x (m.gV x)))) else (m.fE x,m.gX x)
def remM (b:Nat) (m:M) (st:M->List Blk):List V->Res
 | [.s (.i .i64 x)]=>.ok (.s (.i .i64 (m.rem x).1)) [] (st (m.rem x).2)
 | _=>.bad
noncomputable def remG:=memF remM
noncomputable def TRm:Tab:=addT 74 fullG (addT 47 dscG (addT 75 listedG (addT 76 turnG (addT 79 put2G (addT 80 setFirstG (noT))))))
theorem TRm_snd:TRm.Snd Tryz.prog:=addT_snd ok74 full_snd (addT_snd ok47 dsc_snd (addT_snd ok75 listed_snd (addT_snd ok76 turn_snd (addT_snd ok79 put2_snd (addT_snd ok80 setFirst_snd ((noT_snd _)))))))
theorem decX_drop {m:M} {l:List Int} {i:Nat} (h:i<l.length):m.decX (l.drop i)=(m.turnX (nth 0 l i) depC).decX (l.drop (i+1)):=by
 rw [<-List.getElem_cons_drop h,nth_eq h]; rfl
theorem rem_snd:Snd Tryz.prog 23 (FSpec.of remG):=(fwp_sound (Tab.snd_Γ TRm_snd) mixed Tryz.func23 dc23).weaken fun args h K hc hS=>by
 refine fwp_runW (Tab.ok_Γ _) 200 ?_
 obtain ⟨a,b,m,rest,rfl,H,hS1⟩:=memF_spec (f:=remM) hS
 clear hS
 have hS:=hS1
 clear hS1
 unfold remM at hS
 split at hS
 ·rename_i x
  simp only [spec_ok,M.rem] at hS
  have hlm:∀ m2,(setM h a b m2).length=h.length:=fun _=>setM_len
  have hcm:∀ m2,clean (setM h a b m2).length (setM h a b m2)=true:=fun _=>by rw [setM_len]; exact setM_clean H hc H.ltb
  have hcm2:∀ m2,clean h.length (setM h a b m2)=true:=fun _=>setM_clean H hc H.ltb
  have hml:=m.l
  obtain ⟨s,hs⟩:∃ s,m.gV x=s:=⟨_,rfl⟩
  by_cases hf:m.fE x=0
  ·simp only [hf,if_true,hs] at hS
   have hs2:(m.gX x).gV x=s:=by rw [gX_gV]; exact hs
   have hf2:(m.gX x).fE x=0:=by rw [gX_fE]; exact hf
   have hwl:(m.gX x).w.length=m.w.length:=by rw [gX_w]
   obtain ⟨o,ho⟩:∃ o,dsW s.depth (m.w.length/4) s.next ((m.gX x).gX x) []=o:=⟨_,rfl⟩
   rw [ho] at hS
   obtain ⟨⟨c0,c1,c2,c3,c4,c5,c6,c7,c8,c9,c10⟩,p0,q0,r0⟩:=s
   rcases o with ⟨_|l,m2⟩
   ·simp only at hS
    simp (maxSteps:=999999) only [EV0,zy,zx,zw,zv,zu,zq,zp,zj,zk,leT,zg,rvC,zZ,zY,zX,zW,↓zV,↓zU,reduceCtorEq,zQ,yz,yZ,yy,yx,yw,yv,yu,yq,yY,yp,yj,yk,yX,yW,yV,yg,yU,yQ,df23,TRm,fullG,dscG,memF_eq H,memF_set H,fullM,dscM,dscR,hs,hs2,hf,hf2,hwl,ho,bne,Slot.cl,Cap.cl,put,fillP,sub,EVt]
    refine fin_of (v:=.s (.i .i64 110)) (ls:=[]) (h:=setM h a b m2) rfl ?_ ?_
    ·exact Wk.keep 0 rfl rfl (by simp only [EV0,zy,zx,zw,zv,zu,zq,zp,zj,zk,leT,zg,rvC,zZ,zY,zX,zW,↓zV,↓zU,reduceCtorEq,zQ,yz,yZ,yy,yx,yw,yv,yu,yq,yY,yp,yj,yk,yX,yW,yV,yg,yU,yQ]) (by rfl) (by rfl)
    ·simp (maxSteps:=999999) only [EV0,zy,zx,zw,zv,zu,zq,zp,zj,zk,leT,zg,rvC,zZ,zY,zX,zW,↓zV,↓zU,reduceCtorEq,zQ,yz,yZ,yy,yx,yw,yv,yu,yq,yY,yp,yj,yk,yX,yW,yV,yg,yU,yQ]
     exact hS
   ·simp only at hS
    obtain ⟨li,hli⟩:∃ li,m2.liB x ⟨⟨c0,c1,c2,c3,c4,c5,c6,c7,c8,c9,c10⟩,p0,q0,r0⟩=li:=⟨_,rfl⟩
    obtain ⟨m3,hm3⟩:∃ m3,m2.liX ⟨⟨c0,c1,c2,c3,c4,c5,c6,c7,c8,c9,c10⟩,p0,q0,r0⟩=m3:=⟨_,rfl⟩
    rw [hli,hm3] at hS
    have hsl:∀ m' (X:List Blk),slotAt (setM h a b m'++(X++[⟨.rw,(⟨⟨c0,c1,c2,c3,c4,c5,c6,c7,c8,c9,c10⟩,p0,q0,r0⟩:Slot).cl,14⟩])) (h.length+X.length)=some ⟨⟨c0,c1,c2,c3,c4,c5,c6,c7,c8,c9,c10⟩,p0,q0,r0⟩:=fun m' X=>slotAt_eq (by rw [List.getElem?_append_right (by rw [setM_len]; omega),setM_len,Nat.add_sub_cancel_left,List.getElem?_append_right (Nat.le_refl _),Nat.sub_self]; rfl)
    have t3:∀ m' q (X:List Blk),turnG [.s (.p (.g a) 0), .s (.i .i64 q), .s (.fn 81 [(.g (h.length+X.length),0)])] (setM h a b m'++(X++[⟨.rw,(⟨⟨c0,c1,c2,c3,c4,c5,c6,c7,c8,c9,c10⟩,p0,q0,r0⟩:Slot).cl,14⟩]))=.ok (.tup []) [] (setM h a b (m'.turnX q fun s=>⟨s.cap,s.prev,q0,s.depth⟩)++(X++[⟨.rw,(⟨⟨c0,c1,c2,c3,c4,c5,c6,c7,c8,c9,c10⟩,p0,q0,r0⟩:Slot).cl,14⟩])):=fun m' q X=>by
     unfold turnG
     rw [memF_app H]
     simp only [turnM,chg,hsl,reduceEqDiff,if_true,if_false]
    have t4:∀ m' q (X:List Blk),turnG [.s (.p (.g a) 0), .s (.i .i64 q), .s (.fn 82 [(.g (h.length+X.length),0)])] (setM h a b m'++(X++[⟨.rw,(⟨⟨c0,c1,c2,c3,c4,c5,c6,c7,c8,c9,c10⟩,p0,q0,r0⟩:Slot).cl,14⟩]))=.ok (.tup []) [] (setM h a b (m'.turnX q fun s=>⟨s.cap,p0,s.next,s.depth⟩)++(X++[⟨.rw,(⟨⟨c0,c1,c2,c3,c4,c5,c6,c7,c8,c9,c10⟩,p0,q0,r0⟩:Slot).cl,14⟩])):=fun m' q X=>by
     unfold turnG
     rw [memF_app H]
     simp only [turnM,chg,hsl,reduceEqDiff,if_true,if_false]
    have t30:=fun m' q=>t3 m' q []
    have t40:=fun m' q=>t4 m' q []
    simp only [List.length_nil,Nat.add_zero,List.nil_append,Slot.cl,Cap.cl] at t30 t40
    have hslz:(slotZ:Slot)=⟨⟨0,0,0,0,0,0,0,0,0,0,0⟩,0,0,0⟩:=rfl
    obtain ⟨m4,hm4⟩:∃ m4,m3.decX l=m4:=⟨_,rfl⟩
    rw [hm4] at hS
    cases l with
    | nil =>
     simp only [M.decX] at hm4
     subst hm4
     have hm4:=hm3
     cases hlb:li
     ·rw [hlb] at hS
      simp only [M.remT,Bool.false_eq_true,if_false] at hS
      simp (maxSteps:=999999) only [EV0,zy,zx,zw,zv,zu,zq,zp,zj,zk,leT,zg,rvC,zZ,zY,zX,zW,↓zV,↓zU,reduceCtorEq,zQ,yz,yZ,yy,yx,yw,yv,yu,yq,yY,yp,yj,yk,yX,yW,yV,yg,yU,yQ,df23,TRm,fullG,dscG,listedG,put2G,setFirstG,memF_eq H,memF_set H,memF_app H,setM_fun H,fullM,dscM,dscR,listedM,put2M,setFirstM,slotF,slot_eta,cap_eta,hs,hs2,hf,hf2,hwl,ho,hli,hlb,hm3,hm4,bne,Slot.cl,Cap.cl,<-hslz,R.lend,R.unlend,S_ren,C.ren,V.ren,Blk.ren,take_app,drop_app,Nat.not_lt_zero,Nat.lt_irrefl,Nat.add_sub_cancel_left,Nat.not_lt,Nat.le_add_right,setM_len,hcm,hcm2,put,fillP,sub,EVt]
      refine fin_of (v:=.s (.i .i64 0)) (ls:=[]) (h:=setM h a b (m3.pX x slotZ)) rfl ?_ ?_
      ·exact Wk.keep 0 rfl rfl (by simp only [EV0,zy,zx,zw,zv,zu,zq,zp,zj,zk,leT,zg,rvC,zZ,zY,zX,zW,↓zV,↓zU,reduceCtorEq,zQ,yz,yZ,yy,yx,yw,yv,yu,yq,yY,yp,yj,yk,yX,yW,yV,yg,yU,yQ]) (by rfl) (by rfl)
      ·simp (maxSteps:=999999) only [EV0,zy,zx,zw,zv,zu,zq,zp,zj,zk,leT,zg,rvC,zZ,zY,zX,zW,↓zV,↓zU,reduceCtorEq,zQ,yz,yZ,yy,yx,yw,yv,yu,yq,yY,yp,yj,yk,yX,yW,yV,yg,yU,yQ]
       exact hS
     ·rw [hlb] at hS
      simp only [M.remT,if_true] at hS
      by_cases hp0:p0=0
      ·have hp0':(p0==0)=true:=by simpa using hp0
       rw [if_pos hp0] at hS
       simp (maxSteps:=999999) only [EV0,zy,zx,zw,zv,zu,zq,zp,zj,zk,leT,zg,rvC,zZ,zY,zX,zW,↓zV,↓zU,reduceCtorEq,zQ,yz,yZ,yy,yx,yw,yv,yu,yq,yY,yp,yj,yk,yX,yW,yV,yg,yU,yQ,df23,TRm,fullG,dscG,listedG,put2G,setFirstG,memF_eq H,memF_set H,memF_app H,setM_fun H,fullM,dscM,dscR,listedM,put2M,setFirstM,slotF,slot_eta,cap_eta,hs,hs2,hf,hf2,hwl,ho,hli,hlb,hm3,hm4,bne,Slot.cl,Cap.cl,<-hslz,R.lend,R.unlend,S_ren,C.ren,V.ren,Blk.ren,take_app,drop_app,Nat.not_lt_zero,Nat.lt_irrefl,Nat.add_sub_cancel_left,Nat.not_lt,Nat.le_add_right,setM_len,hcm,hcm2,put,fillP,sub,EVt,hp0',t30,t40]
       refine fin_of (v:=.s (.i .i64 0)) (ls:=[]) (h:=setM h a b ((((m3.pX x slotZ).sfX q0).turnX p0 fun t=>⟨t.cap,t.prev,q0,t.depth⟩).turnX q0 fun t=>⟨t.cap,p0,t.next,t.depth⟩)) rfl ?_ ?_
       ·exact Wk.keep 0 rfl rfl (by simp only [EV0,zy,zx,zw,zv,zu,zq,zp,zj,zk,leT,zg,rvC,zZ,zY,zX,zW,↓zV,↓zU,reduceCtorEq,zQ,yz,yZ,yy,yx,yw,yv,yu,yq,yY,yp,yj,yk,yX,yW,yV,yg,yU,yQ]) (by rfl) (by rfl)
       ·simp (maxSteps:=999999) only [EV0,zy,zx,zw,zv,zu,zq,zp,zj,zk,leT,zg,rvC,zZ,zY,zX,zW,↓zV,↓zU,reduceCtorEq,zQ,yz,yZ,yy,yx,yw,yv,yu,yq,yY,yp,yj,yk,yX,yW,yV,yg,yU,yQ]
        exact hS
      ·have hp0':(p0==0)=false:=by simpa using hp0
       simp only [hp0,if_false] at hS
       simp (maxSteps:=999999) only [EV0,zy,zx,zw,zv,zu,zq,zp,zj,zk,leT,zg,rvC,zZ,zY,zX,zW,↓zV,↓zU,reduceCtorEq,zQ,yz,yZ,yy,yx,yw,yv,yu,yq,yY,yp,yj,yk,yX,yW,yV,yg,yU,yQ,df23,TRm,fullG,dscG,listedG,put2G,setFirstG,memF_eq H,memF_set H,memF_app H,setM_fun H,fullM,dscM,dscR,listedM,put2M,setFirstM,slotF,slot_eta,cap_eta,hs,hs2,hf,hf2,hwl,ho,hli,hlb,hm3,hm4,bne,Slot.cl,Cap.cl,<-hslz,R.lend,R.unlend,S_ren,C.ren,V.ren,Blk.ren,take_app,drop_app,Nat.not_lt_zero,Nat.lt_irrefl,Nat.add_sub_cancel_left,Nat.not_lt,Nat.le_add_right,setM_len,hcm,hcm2,put,fillP,sub,EVt,hp0',t30,t40]
       refine fin_of (v:=.s (.i .i64 0)) (ls:=[]) (h:=setM h a b (((m3.pX x slotZ).turnX p0 fun t=>⟨t.cap,t.prev,q0,t.depth⟩).turnX q0 fun t=>⟨t.cap,p0,t.next,t.depth⟩)) rfl ?_ ?_
       ·exact Wk.keep 0 rfl rfl (by simp only [EV0,zy,zx,zw,zv,zu,zq,zp,zj,zk,leT,zg,rvC,zZ,zY,zX,zW,↓zV,↓zU,reduceCtorEq,zQ,yz,yZ,yy,yx,yw,yv,yu,yq,yY,yp,yj,yk,yX,yW,yV,yg,yU,yQ]) (by rfl) (by rfl)
       ·simp (maxSteps:=999999) only [EV0,zy,zx,zw,zv,zu,zq,zp,zj,zk,leT,zg,rvC,zZ,zY,zX,zW,↓zV,↓zU,reduceCtorEq,zQ,yz,yZ,yy,yx,yw,yv,yu,yq,yY,yp,yj,yk,yX,yW,yV,yg,yU,yQ]
        exact hS
    | cons y l =>
     have hl:=dsW_len _ _ _ _ ho
     obtain ⟨B,hB⟩:∃ B,intsB (y::l)=B:=⟨_,rfl⟩
     have hbB:∀ m' c,(setM h a b m'++[⟨.rw,B,c⟩])[h.length]?=some (⟨.rw,B,c⟩:Blk):=fun m' c=>by rw [List.getElem?_append_right (by rw [setM_len]; omega),setM_len,Nat.sub_self]; rfl
     have hB0:B[0]?=some (.i .i64 y):=by rw [<-hB]; rfl
     have hBl:B.length=l.length+1:=by rw [<-hB]; simp [intsB]
     have hB1:∀ i,i<l.length->B[1+i]?=some (.i .i64 (nth 0 l i)):=fun i hi=>by
      rw [<-hB,intsB_get (by simp only [List.length_cons]; omega),Nat.add_comm 1 i]; rfl
     have tD1:∀ m' q c,turnG [.s (.p (.g a) 0), .s (.i .i64 q), .s (.fn 77 [])] (setM h a b m'++[⟨.rw,B,c⟩])=.ok (.tup []) [] (setM h a b (m'.turnX q depC)++[⟨.rw,B,c⟩]):=fun m' q c=>by
      unfold turnG
      rw [memF_app H]
      simp only [turnM,chg,true_or,if_true]
      rfl
     have tD2:∀ m' q c,turnG [.s (.p (.g a) 0), .s (.i .i64 q), .s (.fn 78 [])] (setM h a b m'++[⟨.rw,B,c⟩])=.ok (.tup []) [] (setM h a b (m'.turnX q depC)++[⟨.rw,B,c⟩]):=fun m' q c=>by
      unfold turnG
      rw [memF_app H]
      simp only [turnM,chg,or_true,if_true]
      rfl
     have z1:(0:Int)<((l.length+1:Nat):Int):=by omega
     simp (maxSteps:=999999) only [EV0,zy,zx,zw,zv,zu,zq,zp,zj,zk,leT,zg,rvC,zZ,zY,zX,zW,↓zV,↓zU,reduceCtorEq,zQ,yz,yZ,yy,yx,yw,yv,yu,yq,yY,yp,yj,yk,yX,yW,yV,yg,yU,yQ,df23,TRm,fullG,dscG,listedG,put2G,setFirstG,memF_eq H,memF_set H,memF_app H,setM_fun H,fullM,dscM,dscR,listedM,put2M,setFirstM,slotF,slot_eta,cap_eta,hs,hs2,hf,hf2,hwl,ho,hli,hm3,bne,Slot.cl,Cap.cl,<-hslz,R.lend,R.unlend,S_ren,C.ren,V.ren,Blk.ren,take_app,drop_app,Nat.not_lt_zero,Nat.lt_irrefl,Nat.add_sub_cancel_left,Nat.not_lt,Nat.le_add_right,setM_len,hcm,hcm2,put,fillP,sub,EVt,hB,hbB,hB0,hBl,tD1,z1,Int.toNat_natCast]
     intro c hc1
     refine ⟨⟨by omega,by omega⟩, ?_⟩
     have hob:∀ i,i<l.length->B[(if c=1 then 0 else 1)+i]?=some (.i .i64 (nth 0 l i)):=fun i hi=>by rw [if_neg (by omega)]; exact hB1 i hi
     generalize (if c=1 then 0 else 1)=o' at hob ⊢
     have l1:l.length<=9223372036854775807:=by simp only [List.length_cons,List.length_nil] at hl; omega
     clear hs hs2 hf hf2 hwl ho hli
     have t31:=fun m' q=>t3 m' q [⟨.rw,B,c⟩]
     have t41:=fun m' q=>t4 m' q [⟨.rw,B,c⟩]
     simp only [List.length_cons,List.length_nil,Nat.zero_add,List.cons_append,List.nil_append,Slot.cl,Cap.cl] at t31 t41
     have htk:∀ (m':M) (Z:Blk),List.take (h.length+1) (setM h a b m'++[⟨.rw,B,c⟩,Z])=setM h a b m'++[⟨.rw,B,c⟩]:=fun m' Z=>by
      rw [List.append_cons,List.take_left' (by simp [setM_len])]
     have hdr:∀ (m':M) (Z:Blk),List.drop (h.length+1) (setM h a b m'++[⟨.rw,B,c⟩,Z])=[Z]:=fun m' Z=>by
      rw [List.append_cons,List.drop_left' (by simp [setM_len])]
     have hlc:∀ (m':M),clean (h.length+1) (setM h a b m'++[⟨.rw,B,c⟩])=true:=fun m'=>by
      refine clean_app (hcm2 m') (by omega) ?_
      have hv:vals (h.length+1) 0 B=true:=by rw [<-hB]; exact (intsB_is _).va _ _
      simp only [clean,List.all_cons,List.all_nil,Bool.and_true,hv]
     simp only [Nat.add_sub_cancel]
     refine loop_rule (α:=Nat×M) [10,44,45,46,47,48,49,50,51] (fun z=>[(44, .s (.i .i64 (z.1:Int)))]) (fun _=>[⟨.rw,(⟨⟨c0,c1,c2,c3,c4,c5,c6,c7,c8,c9,c10⟩,p0,q0,r0⟩:Slot).cl,14⟩]) (fun z=>setM h a b z.2++[⟨.rw,B,c⟩]) (fun z=>z.1<=l.length/\z.2.decX (l.drop z.1)=m4) (fun z=>l.length-z.1) (0,m3.turnX y depC) ⟨Nat.zero_le _,hm4⟩ ?_ ?_
     ·refine Wk.same (by rfl) rfl ?_
      simp (maxSteps:=999999) only [EV0,zy,zx,zw,zv,zu,zq,zp,zj,zk,leT,zg,rvC,zZ,zY,zX,zW,↓zV,↓zU,reduceCtorEq,zQ,yz,yZ,yy,yx,yw,yv,yu,yq,yY,yp,yj,yk,yX,yW,yV,yg,yU,yQ,Int.natCast_zero]
     ·rintro X ⟨i,m'⟩ ⟨hi,hm'⟩ IH
      simp only at hi hm' ⊢
      simp only [Slot.cl,Cap.cl]
      by_cases h1:i<l.length
      ·obtain ⟨d1,d2,d3,d4⟩:=idx h1 l1
       have g1:=hob i h1
       rw [decX_drop h1] at hm'
       refine run_sound (Tab.ok_Γ _) 100 _ _ _ _ ?_
       simp (maxSteps:=999999) only [EV0,zy,zx,zw,zv,zu,zq,zp,zj,zk,leT,zg,rvC,zZ,zY,zX,zW,↓zV,↓zU,reduceCtorEq,zQ,yz,yZ,yy,yx,yw,yv,yu,yq,yY,yp,yj,yk,yX,yW,yV,yg,yU,yQ,TRm,hbB,g1,d1,d2,d3,d4,tD2,Int.toNat_natCast]
       exact IH (i+1,m'.turnX (nth 0 l i) depC) _ (by simp only; omega) ⟨by simp only; omega,hm'⟩ (Wk.same (by rfl) rfl (by simp only [EV0,zy,zx,zw,zv,zu,zq,zp,zj,zk,leT,zg,rvC,zZ,zY,zX,zW,↓zV,↓zU,reduceCtorEq,zQ,yz,yZ,yy,yx,yw,yv,yu,yq,yY,yp,yj,yk,yX,yW,yV,yg,yU,yQ]))
      ·have e0:i=l.length:=by omega
       subst e0
       rw [List.drop_length] at hm'
       simp only [M.decX] at hm'
       subst hm'
       have h1:¬ ((l.length:Int)<(l.length:Int)):=by omega
       cases hlb:li
       ·rw [hlb] at hS
        simp only [M.remT,Bool.false_eq_true,if_false] at hS
        refine run_sound (Tab.ok_Γ _) 100 _ _ _ _ ?_
        simp (maxSteps:=999999) only [EV0,zy,zx,zw,zv,zu,zq,zp,zj,zk,leT,zg,rvC,zZ,zY,zX,zW,↓zV,↓zU,reduceCtorEq,zQ,yz,yZ,yy,yx,yw,yv,yu,yq,yY,yp,yj,yk,yX,yW,yV,yg,yU,yQ,TRm,listedG,put2G,setFirstG,memF_eq H,memF_set H,memF_app H,setM_fun H,listedM,put2M,setFirstM,slotF,slot_eta,cap_eta,hlb,bne,Slot.cl,Cap.cl,<-hslz,R.lend,R.unlend,S_ren,C.ren,V.ren,Blk.ren,take_app,drop_app,Nat.not_lt_zero,Nat.lt_irrefl,Nat.add_sub_cancel_left,Nat.not_lt,Nat.le_add_right,setM_len,hcm,hcm2,put,fillP,sub,EVt,h1]
        trace_state
        refine fin_of (v:=.s (.i .i64 0)) (ls:=[]) (h:=setM h a b (m'.pX x slotZ)) rfl ?_ ?_
        ·exact drop_i (by simp only [EV0,zy,zx,zw,zv,zu,zq,zp,zj,zk,leT,zg,rvC,zZ,zY,zX,zW,↓zV,↓zU,reduceCtorEq,zQ,yz,yZ,yy,yx,yw,yv,yu,yq,yY,yp,yj,yk,yX,yW,yV,yg,yU,yQ]) (hcm _) (Nat.le_of_eq (hlm _).symm)
        ·simp (maxSteps:=999999) only [EV0,zy,zx,zw,zv,zu,zq,zp,zj,zk,leT,zg,rvC,zZ,zY,zX,zW,↓zV,↓zU,reduceCtorEq,zQ,yz,yZ,yy,yx,yw,yv,yu,yq,yY,yp,yj,yk,yX,yW,yV,yg,yU,yQ]
         exact hS
       ·rw [hlb] at hS
        simp only [M.remT,if_true] at hS
        by_cases hp0:p0=0
        ·have hp0':(p0==0)=true:=by simpa using hp0
         rw [if_pos hp0] at hS
         refine run_sound (Tab.ok_Γ _) 100 _ _ _ _ ?_
         simp (maxSteps:=999999) only [EV0,zy,zx,zw,zv,zu,zq,zp,zj,zk,leT,zg,rvC,zZ,zY,zX,zW,↓zV,↓zU,reduceCtorEq,zQ,yz,yZ,yy,yx,yw,yv,yu,yq,yY,yp,yj,yk,yX,yW,yV,yg,yU,yQ,TRm,listedG,put2G,setFirstG,memF_eq H,memF_set H,memF_app H,setM_fun H,listedM,put2M,setFirstM,slotF,slot_eta,cap_eta,hlb,bne,Slot.cl,Cap.cl,<-hslz,R.lend,R.unlend,S_ren,C.ren,V.ren,Blk.ren,take_app,drop_app,Nat.not_lt_zero,Nat.lt_irrefl,Nat.add_sub_cancel_left,Nat.not_lt,Nat.le_add_right,setM_len,hcm,hcm2,put,fillP,sub,EVt,h1,hp0',t31,t41,htk,hdr,hlc]
         trace_state
         refine fin_of (v:=.s (.i .i64 0)) (ls:=[]) (h:=setM h a b ((((m'.pX x slotZ).sfX q0).turnX p0 fun t=>⟨t.cap,t.prev,q0,t.depth⟩).turnX q0 fun t=>⟨t.cap,p0,t.next,t.depth⟩)) rfl ?_ ?_
         ·exact drop_i (by simp only [EV0,zy,zx,zw,zv,zu,zq,zp,zj,zk,leT,zg,rvC,zZ,zY,zX,zW,↓zV,↓zU,reduceCtorEq,zQ,yz,yZ,yy,yx,yw,yv,yu,yq,yY,yp,yj,yk,yX,yW,yV,yg,yU,yQ]) (hcm _) (Nat.le_of_eq (hlm _).symm)
         ·simp (maxSteps:=999999) only [EV0,zy,zx,zw,zv,zu,zq,zp,zj,zk,leT,zg,rvC,zZ,zY,zX,zW,↓zV,↓zU,reduceCtorEq,zQ,yz,yZ,yy,yx,yw,yv,yu,yq,yY,yp,yj,yk,yX,yW,yV,yg,yU,yQ]
          exact hS
        ·have hp0':(p0==0)=false:=by simpa using hp0
         simp only [hp0,if_false] at hS
         refine run_sound (Tab.ok_Γ _) 100 _ _ _ _ ?_
         simp (maxSteps:=999999) only [EV0,zy,zx,zw,zv,zu,zq,zp,zj,zk,leT,zg,rvC,zZ,zY,zX,zW,↓zV,↓zU,reduceCtorEq,zQ,yz,yZ,yy,yx,yw,yv,yu,yq,yY,yp,yj,yk,yX,yW,yV,yg,yU,yQ,TRm,listedG,put2G,setFirstG,memF_eq H,memF_set H,memF_app H,setM_fun H,listedM,put2M,setFirstM,slotF,slot_eta,cap_eta,hlb,bne,Slot.cl,Cap.cl,<-hslz,R.lend,R.unlend,S_ren,C.ren,V.ren,Blk.ren,take_app,drop_app,Nat.not_lt_zero,Nat.lt_irrefl,Nat.add_sub_cancel_left,Nat.not_lt,Nat.le_add_right,setM_len,hcm,hcm2,put,fillP,sub,EVt,h1,hp0',t31,t41,htk,hdr,hlc]
         trace_state
         refine fin_of (v:=.s (.i .i64 0)) (ls:=[]) (h:=setM h a b (((m'.pX x slotZ).turnX p0 fun t=>⟨t.cap,t.prev,q0,t.depth⟩).turnX q0 fun t=>⟨t.cap,p0,t.next,t.depth⟩)) rfl ?_ ?_
         ·exact drop_i (by simp only [EV0,zy,zx,zw,zv,zu,zq,zp,zj,zk,leT,zg,rvC,zZ,zY,zX,zW,↓zV,↓zU,reduceCtorEq,zQ,yz,yZ,yy,yx,yw,yv,yu,yq,yY,yp,yj,yk,yX,yW,yV,yg,yU,yQ]) (hcm _) (Nat.le_of_eq (hlm _).symm)
         ·simp (maxSteps:=999999) only [EV0,zy,zx,zw,zv,zu,zq,zp,zj,zk,leT,zg,rvC,zZ,zY,zX,zW,↓zV,↓zU,reduceCtorEq,zQ,yz,yZ,yy,yx,yw,yv,yu,yq,yY,yp,yj,yk,yX,yW,yV,yg,yU,yQ]
          exact hS
  ·have hf':(m.fE x==0)=false:=by simpa using hf
   simp only [hf,if_false] at hS
   simp (maxSteps:=999999) only [EV0,zy,zx,zw,zv,zu,zq,zp,zj,zk,leT,zg,rvC,zZ,zY,zX,zW,↓zV,↓zU,reduceCtorEq,zQ,yz,yZ,yy,yx,yw,yv,yu,yq,yY,yp,yj,yk,yX,yW,yV,yg,yU,yQ,df23,TRm,fullG,memF_eq H,memF_set H,fullM,hs,hf',hf,bne,Slot.cl,Cap.cl,put,fillP,sub,EVt]
   refine fin_of (v:=.s (.i .i64 (m.fE x))) (ls:=[]) (h:=setM h a b (m.gX x)) rfl ?_ ?_
   ·exact Wk.keep 0 rfl rfl (by simp only [EV0,zy,zx,zw,zv,zu,zq,zp,zj,zk,leT,zg,rvC,zZ,zY,zX,zW,↓zV,↓zU,reduceCtorEq,zQ,yz,yZ,yy,yx,yw,yv,yu,yq,yY,yp,yj,yk,yX,yW,yV,yg,yU,yQ]) (by rfl) (by rfl)
   ·simp (maxSteps:=999999) only [EV0,zy,zx,zw,zv,zu,zq,zp,zj,zk,leT,zg,rvC,zZ,zY,zX,zW,↓zV,↓zU,reduceCtorEq,zQ,yz,yZ,yy,yx,yw,yv,yu,yq,yY,yp,yj,yk,yX,yW,yV,yg,yU,yQ]
    exact hS
 ·exact hS.elim
end Go.Proofs.YtcdfofeolgbnbaaGreat

/- The document's Descendants and List. -/
namespace Go.Proofs.YtcdfofeolgbnbaaGreat
open Go.D
set_option linter.all false
set_option maxRecDepth 100000
set_option maxHeartbeats 8000000

def rdW (d:Int) (N:Nat):Nat->Int->M->List Int->Option (List Int)×M
 | 0,x,m,l=>(none,m)
 | k+1,x,m,l=>if x=0 then (some l,m) else if m.fE x=0/\l.length<=N then
   (if (m.gV x).depth<=d then (some l,m.gX x) else rdW d N k (m.gV x).next (m.gX x) (l++[x])) else (none,m.gX x)
def rdscM (b:Nat) (m:M) (st:M->List Blk):List V->Res
 | [.s (.i .i64 x)]=>.br (decide (m.fE x=0)) (dscR st (rdW (m.gV x).depth (m.w.length/4) (m.w.length/4+2) (m.gV x).next (m.gX x) [])) (.ok (.tup [.s .ns, .s (.i .i64 (m.fE x))]) [] (st (m.gX x)))
 | _=>.bad
noncomputable def rdscG:=memF rdscM
def rSl (i:Nat) (l:List Int) (c:Nat):S:=match l with
 | []=>.ns
 | _::l=>.sl (.l i) 0 (l.length+1) c
def rLS (own:List Blk) (l:List Int) (c:Nat):List Blk:=match l with
 | []=>own
 | x::l=>own++[⟨.rw,intsB (x::l),c⟩]
noncomputable def TDr:Tab:=addT 98 fullG (addT 122 firstG (noT))
theorem TDr_snd:TDr.Snd Tryz.prog:=addT_snd ok98 rfull_snd (addT_snd ok122 rfirst_snd ((noT_snd _)))
theorem rdsc_snd:Snd Tryz.prog 129 (FSpec.of rdscG):=(fwp_sound (Tab.snd_Γ TDr_snd) mixed Tryz.func129 dc129).weaken fun args h K hc hS=>by
 refine fwp_runW (Tab.ok_Γ _) 200 ?_
 obtain ⟨a,b,m,rest,rfl,H,hS1⟩:=memF_spec (f:=rdscM) hS
 clear hS
 have hS:=hS1
 clear hS1
 unfold rdscM at hS
 split at hS
 ·rename_i x
  simp only [spec_br] at hS
  obtain ⟨⟨⟨c0,c1,c2,c3,c4,c5,c6,c7,c8,c9,c10⟩,p0,q0,r0⟩,hs⟩:∃ s,m.gV x=s:=⟨_,rfl⟩
  by_cases hf:m.fE x=0
  rotate_left
  ·have hS:=hS.2 (by simpa using hf)
   have hf':(m.fE x==0)=false:=by simpa using hf
   simp only [spec_ok] at hS
   simp (maxSteps:=999999) only [go_sem,simprocAttr,↓qT,↓qF,df129,TDr,fullG,memF_eq H,memF_set H,fullM,hs,hf,hf',bne,Slot.cl,Cap.cl,put,fillP,sub,EVt]
   refine fin_of (v:=.tup [.s .ns, .s (.i .i64 (m.fE x))]) (ls:=[]) (h:=setM h a b (m.gX x)) rfl ?_ ?_
   ·exact Wk.keep 0 rfl rfl (by simp only [go_sem,simprocAttr,↓qT,↓qF]) (by rfl) (by rfl)
   ·simp (maxSteps:=999999) only [go_sem,simprocAttr,↓qT,↓qF]
    exact hS
  have hS:=hS.1 (by simpa using hf)
  rw [hs] at hS
  simp only at hS
  obtain ⟨m0,hm0⟩:∃ m0,m.gX x=m0:=⟨_,rfl⟩
  have hw0:m0.w.length=m.w.length:=by rw [<-hm0,gX_w]
  simp (maxSteps:=999999) only [go_sem,simprocAttr,↓qT,↓qF,df129,TDr,fullG,memF_eq H,memF_set H,fullM,hs,hf,hm0,Slot.cl,Cap.cl,put,fillP,sub,EVt]
  rw [hm0] at hS
  clear hf hs hm0
  have hlm:∀ m2,(setM h a b m2).length=h.length:=fun _=>setM_len
  have hcm:∀ m2,clean (setM h a b m2).length (setM h a b m2)=true:=fun _=>by rw [setM_len]; exact setM_clean H hc H.ltb
  have ha1:∀ m2,(setM h a b m2)[a]?=some (MB b m2):=fun m2=>(H.set m2).ha
  have hal:∀ m2,a<(setM h a b m2).length:=fun m2=>by rw [setM_len]; exact H.lta
  have hml:=m.l
  have hq:IntKind.i64.wrap ((m.w.length:Int).tdiv 4)=((m.w.length/4:Nat):Int):=by
   rw [Int.tdiv_eq_ediv_of_nonneg (by omega),wrap64]<;>omega
  obtain ⟨N,hN⟩:∃ N,m.w.length/4=N:=⟨_,rfl⟩
  rw [hN] at hS hq
  obtain ⟨o,ho⟩:∃ o,rdW r0 N (N+2) q0 m0 []=o:=⟨_,rfl⟩
  rw [ho] at hS
  refine loop_rule (α:=List Int×Nat×Int×M) [4,5,8,9,10,11,23,24,25,26,27,28,29,30,31,32,33,34,35,36,37,38,39,40,41,42,43,44,45,46,47,48,49,50,51,52,53,54] (fun z=>[(8, .s (rSl 1 z.1 z.2.1)),(9, .s (.i .i64 z.2.2.1))]) (fun z=>rLS [⟨.rw,(⟨⟨c0,c1,c2,c3,c4,c5,c6,c7,c8,c9,c10⟩,p0,q0,r0⟩:Slot).cl,14⟩] z.1 z.2.1) (fun z=>setM h a b z.2.2.2) (fun z=>z.1.length<=N+1/\z.1.length<=z.2.1/\z.2.2.2.w.length=m.w.length/\rdW r0 N (N+2-z.1.length) z.2.2.1 z.2.2.2 z.1=o) (fun z=>N+2-z.1.length) ([],0,q0,m0) ⟨Nat.zero_le _,Nat.zero_le _,hw0,ho⟩ ?_ ?_
  ·refine Wk.same (by rfl) rfl ?_
   simp (maxSteps:=999999) only [go_sem,simprocAttr,↓qT,↓qF,rSl]
  ·rintro X ⟨l,c,y,m'⟩ ⟨hk,hlc,hw,ht⟩ IH
   simp only at hk hlc hw ht ⊢
   obtain ⟨k,hkk⟩:∃ k,N+2-l.length=k+1:=⟨N+1-l.length,by omega⟩
   rw [hkk] at ht
   simp only [rdW] at ht
   clear ho
   have hNl:N<=16384:=by omega
   have hwl:(m'.gX y).w.length=m.w.length:=by rw [gX_w]; exact hw
   simp only [Slot.cl,Cap.cl]
   by_cases hy0:y=0
   ·rw [if_pos hy0] at ht
    have hy:(y==0)=true:=by simpa using hy0
    rw [<-ht] at hS
    cases l with
    | nil =>
     simp only [dscR,spec_ok] at hS
     simp only [rSl,rLS]
     refine run_sound (Tab.ok_Γ _) 100 _ _ _ _ ?_
     simp (maxSteps:=999999) only [go_sem,simprocAttr,↓qT,↓qF,TDr,hy,bne]
     refine fin_of (v:=.tup [.s .ns, .s (.i .i64 0)]) (ls:=[]) (h:=setM h a b m') rfl ?_ ?_
     ·exact Wk.keep 0 rfl rfl (by simp only [go_sem,simprocAttr,↓qT,↓qF]) (by rfl) (by rfl)
     ·simp (maxSteps:=999999) only [go_sem,simprocAttr,↓qT,↓qF]
      exact hS
    | cons y l' =>
     simp only [dscR,spec_all] at hS
     obtain ⟨B,hB⟩:∃ B,intsB (y::l')=B:=⟨_,rfl⟩
     obtain ⟨b1,b2,b3,b4,b5,b6⟩:=intsB_is (y::l')
     rw [hB] at b1 b2 b3 b4 b5 b6 hS
     have hb3:∀ a b,B.all (S.val a b)=true:=fun u v=>by have:=b3 u v; simpa only [vals] using this
     simp only [rSl,rLS,hB,List.cons_append,List.nil_append]
     refine run_sound (Tab.ok_Γ _) 100 _ _ _ _ ?_
     simp (maxSteps:=999999) only [go_sem,simprocAttr,↓qT,↓qF,TDr,hy,bne]
     have hcq:=hcm m'
     have hnq:h.length<=(setM h a b m').length:=Nat.le_of_eq (hlm _).symm
     refine fin_of (v:=.tup [.s (.sl (.l 0) 0 (l'.length+1) c), .s (.i .i64 0)]) (ls:=[⟨.rw,B,c⟩]) (h:=setM h a b m') rfl ?_ ?_
     ·refine Wk.sel [1] (by decide) hnq ?_ ?_ ?_ ?_ hcq (clean_pick hcq _)
      ·simp (maxSteps:=999999) only [go_sem,simprocAttr,↓qT,↓qF,List.nil_append,Blk.ren,V.ren,C.ren,S_ren,wc_ren,R.pick_g,R.pick_0,R.pick_s,List.map_append,wc_cons,wc_snoc,wc_nil,hb3,b5,result]
      ·simp (maxSteps:=999999) only [go_sem,simprocAttr,↓qT,↓qF,List.nil_append,Blk.ren,V.ren,C.ren,S_ren,wc_ren,R.pick_g,R.pick_0,R.pick_s,hb3,b5,result]
      ·simp (maxSteps:=999999) only [go_sem,simprocAttr,↓qT,↓qF,List.nil_append,app_len,nlt0,nltn,Nat.reduceLT,Nat.le_add_right,hb3,b5,result]
      ·simp (maxSteps:=999999) only [go_sem,simprocAttr,↓qT,↓qF,List.nil_append,app_len,nlt0,nltn,Nat.reduceLT,Nat.le_add_right,vals_cons,vals_nil,wc_val,wc_vals,hb3,b5,result]
     ·simp (maxSteps:=999999) only [go_sem,simprocAttr,↓qT,↓qF]
      refine ⟨[0],by simp,rfl, ?_⟩
      simp only [getAll,List.getElem?_cons_zero]
      refine ⟨?_, ?_⟩
      ·have hk:=intsB_kept [0] (y::l')
       rw [hB] at hk
       simp only [List.all_cons,List.all_nil,hk,decide_true,Bool.and_true]
      ·refine cast ?_ (hS c (by simpa using hlc))
       simp only [V.ren,C.ren,S.ren,R.prom,List.map_cons,List.map_nil,Blk.ren,b5,spec_ok,hlm,List.idxOf,List.findIdx,List.findIdx.go,beq_self_eq_true,cond_true,Nat.add_zero,setM_len]
   ·rw [if_neg hy0] at ht
    have hy:(y==0)=false:=by simpa using hy0
    obtain ⟨⟨⟨d0,d1,d2,d3,d4,d5,d6,d7,d8,d9,d10⟩,p1,q1,r1⟩,hs1⟩:∃ s,m'.gV y=s:=⟨_,rfl⟩
    rw [hs1] at ht
    simp only at ht
    by_cases hf:m'.fE y=0
    ·by_cases hNN:l.length<=N
     ·rw [if_pos ⟨hf,hNN⟩] at ht
      have hgt:¬ ((N:Int)<(l.length:Int)):=by omega
      by_cases hd:r1<=r0
      ·rw [if_pos hd] at ht
       rw [<-ht] at hS
       cases l with
       | nil =>
        have hgt0:¬ ((N:Int)<0):=by omega
        simp only [dscR,spec_ok] at hS
        simp only [rSl,rLS]
        refine run_sound (Tab.ok_Γ _) 100 _ _ _ _ ?_
        simp (maxSteps:=999999) only [go_sem,simprocAttr,↓qT,↓qF,TDr,fullG,memF_set H,setM_fun H,fullM,ha1,MB,hs1,hf,hy,Slot.cl,Cap.cl,bne,hq,hwl,put,fillP,sub,EVt,hd,hgt0]
        refine fin_of (v:=.tup [.s .ns, .s (.i .i64 0)]) (ls:=[]) (h:=setM h a b (m'.gX y)) rfl ?_ ?_
        ·exact Wk.keep 0 rfl rfl (by simp only [go_sem,simprocAttr,↓qT,↓qF]) (by rfl) (by rfl)
        ·simp (maxSteps:=999999) only [go_sem,simprocAttr,↓qT,↓qF]
         exact hS
       | cons z l' =>
        have hgt0:=hgt
        simp only [List.length_cons] at hgt0
        simp only [dscR,spec_all] at hS
        obtain ⟨B,hB⟩:∃ B,intsB (z::l')=B:=⟨_,rfl⟩
        obtain ⟨b1,b2,b3,b4,b5,b6⟩:=intsB_is (z::l')
        rw [hB] at b1 b2 b3 b4 b5 b6 hS
        have hb3:∀ a b,B.all (S.val a b)=true:=fun u v=>by have:=b3 u v; simpa only [vals] using this
        simp only [rSl,rLS,hB,List.cons_append,List.nil_append]
        refine run_sound (Tab.ok_Γ _) 100 _ _ _ _ ?_
        simp (maxSteps:=999999) only [go_sem,simprocAttr,↓qT,↓qF,TDr,fullG,memF_set H,setM_fun H,fullM,ha1,MB,hs1,hf,hy,Slot.cl,Cap.cl,bne,hq,hwl,put,fillP,sub,EVt,hd,hgt0]
        have hcq:=hcm (m'.gX y)
        have hnq:h.length<=(setM h a b (m'.gX y)).length:=Nat.le_of_eq (hlm _).symm
        refine fin_of (v:=.tup [.s (.sl (.l 0) 0 (l'.length+1) c), .s (.i .i64 0)]) (ls:=[⟨.rw,B,c⟩]) (h:=setM h a b (m'.gX y)) rfl ?_ ?_
        ·refine Wk.sel [1] (by decide) hnq ?_ ?_ ?_ ?_ hcq (clean_pick hcq _)
         ·simp (maxSteps:=999999) only [go_sem,simprocAttr,↓qT,↓qF,List.nil_append,Blk.ren,V.ren,C.ren,S_ren,wc_ren,R.pick_g,R.pick_0,R.pick_s,List.map_append,wc_cons,wc_snoc,wc_nil,hb3,b5,result]
         ·simp (maxSteps:=999999) only [go_sem,simprocAttr,↓qT,↓qF,List.nil_append,Blk.ren,V.ren,C.ren,S_ren,wc_ren,R.pick_g,R.pick_0,R.pick_s,hb3,b5,result]
         ·simp (maxSteps:=999999) only [go_sem,simprocAttr,↓qT,↓qF,List.nil_append,app_len,nlt0,nltn,Nat.reduceLT,Nat.le_add_right,hb3,b5,result]
         ·simp (maxSteps:=999999) only [go_sem,simprocAttr,↓qT,↓qF,List.nil_append,app_len,nlt0,nltn,Nat.reduceLT,Nat.le_add_right,vals_cons,vals_nil,wc_val,wc_vals,hb3,b5,result]
        ·simp (maxSteps:=999999) only [go_sem,simprocAttr,↓qT,↓qF]
         refine ⟨[0],by simp,rfl, ?_⟩
         simp only [getAll,List.getElem?_cons_zero]
         refine ⟨?_, ?_⟩
         ·have hk:=intsB_kept [0] (z::l')
          rw [hB] at hk
          simp only [List.all_cons,List.all_nil,hk,decide_true,Bool.and_true]
         ·refine cast ?_ (hS c (by simpa using hlc))
          simp only [V.ren,C.ren,S.ren,R.prom,List.map_cons,List.map_nil,Blk.ren,b5,spec_ok,hlm,List.idxOf,List.findIdx,List.findIdx.go,beq_self_eq_true,cond_true,Nat.add_zero,setM_len]
      ·rw [if_neg hd] at ht
       have hcq:=hcm (m'.gX y)
       have hnq:h.length<=(setM h a b (m'.gX y)).length:=Nat.le_of_eq (hlm _).symm
       have hal1:=hal (m'.gX y)
       cases l with
       | nil =>
        have hgt0:¬ ((N:Int)<0):=by omega
        simp only [rSl,rLS]
        refine run_sound (Tab.ok_Γ _) 100 _ _ _ _ ?_
        simp (maxSteps:=999999) only [go_sem,simprocAttr,↓qT,↓qF,TDr,fullG,memF_set H,setM_fun H,fullM,ha1,MB,hs1,hf,hy,Slot.cl,Cap.cl,bne,hq,hwl,put,fillP,sub,EVt,hd,hgt0]
        intro c1 hle1
        refine IH ([y],c1,q1,m'.gX y) _ (by simp only [List.length_cons,List.length_nil] at hk hkk ⊢; omega) ⟨by simp,by simpa using hle1,hwl, ?_⟩ ?_
        ·simp only [List.length_cons,List.length_nil] at hkk ⊢
         rw [show N+2-(0+1)=k by omega]
         exact ht
        ·simp only [rSl,rLS,intsB,List.map_cons,List.map_nil,List.length_nil,Nat.zero_add,Nat.mul_one,List.cons_append,List.nil_append,Slot.cl,Cap.cl]
         refine Wk.sel [0,3] (by decide) hnq ?_ ?_ ?_ ?_ hcq (clean_pick hcq _)
         ·simp (maxSteps:=999999) only [go_sem,simprocAttr,↓qT,↓qF,List.nil_append,Blk.ren,V.ren,C.ren,S_ren,wc_ren,R.pick_g,R.pick_0,R.pick_s,List.map_append,wc_cons,wc_snoc,wc_nil,Nat.mul_one,hal1]
         ·simp (maxSteps:=999999) only [go_sem,simprocAttr,↓qT,↓qF,List.nil_append,Blk.ren,V.ren,C.ren,S_ren,wc_ren,R.pick_g,R.pick_0,R.pick_s,Nat.mul_one,hal1]
         ·simp (maxSteps:=999999) only [go_sem,simprocAttr,↓qT,↓qF,List.nil_append,app_len,nlt0,nltn,Nat.reduceLT,Nat.le_add_right,Nat.mul_one,hal1]
         ·simp (maxSteps:=999999) only [go_sem,simprocAttr,↓qT,↓qF,List.nil_append,app_len,nlt0,nltn,Nat.reduceLT,Nat.le_add_right,vals_cons,vals_nil,wc_val,wc_vals,Nat.mul_one,hal1]
       | cons z l' =>
        obtain ⟨B,hB⟩:∃ B,intsB (z::l')=B:=⟨_,rfl⟩
        obtain ⟨b1,b2,b3,b4,b5,b6⟩:=intsB_is (z::l')
        rw [hB] at b1 b2 b3 b4 b5 b6
        have hb3:∀ a b,B.all (S.val a b)=true:=fun u v=>by have:=b3 u v; simpa only [vals] using this
        have hgt0:=hgt
        simp only [List.length_cons] at hgt0
        simp only [rSl,rLS,hB,List.cons_append,List.nil_append]
        refine run_sound (Tab.ok_Γ _) 100 _ _ _ _ ?_
        simp (maxSteps:=999999) only [go_sem,simprocAttr,↓qT,↓qF,TDr,fullG,memF_set H,setM_fun H,fullM,ha1,MB,hs1,hf,hy,Slot.cl,Cap.cl,bne,hq,hwl,put,fillP,sub,EVt,hd,hgt0,b1,b2,b3,b4]
        refine ⟨by simp only [List.length_cons] at hk; omega,fun c1 hle1=>?_⟩
        refine IH (z::l'++[y],c1,q1,m'.gX y) _ (by simp only [List.length_append,List.length_cons,List.length_nil] at hk hkk ⊢; omega) ⟨by simp only [List.length_append,List.length_cons,List.length_nil] at hNN ⊢; omega,by simp only [List.length_append,List.length_cons,List.length_nil] at hle1 ⊢; omega,hwl, ?_⟩ ?_
        ·simp only [List.length_append,List.length_cons,List.length_nil] at hkk ⊢
         rw [show N+2-(l'.length+1+(0+1))=k by omega]
         exact ht
        ·have hB2:intsB (z::(l'++[y]))=B++[.i .i64 y]:=by rw [<-hB,intsB_app]; rfl
         have hl2:(l'++[y]).length+1=l'.length+1+1:=by simp
         simp only [rSl,rLS,List.cons_append,List.nil_append,hB2,hl2,Nat.mul_one,Slot.cl,Cap.cl]
         refine Wk.sel [0,1] (by decide) hnq ?_ ?_ ?_ ?_ hcq (clean_pick hcq _)
         ·simp (maxSteps:=999999) only [go_sem,simprocAttr,↓qT,↓qF,List.nil_append,Blk.ren,V.ren,C.ren,S_ren,wc_ren,R.pick_g,R.pick_0,R.pick_s,List.map_append,wc_cons,wc_snoc,wc_nil,Nat.mul_one,hal1,hb3,b5,List.map_append,List.map_cons,List.map_nil,vals,List.all_append]
         ·simp (maxSteps:=999999) only [go_sem,simprocAttr,↓qT,↓qF,List.nil_append,Blk.ren,V.ren,C.ren,S_ren,wc_ren,R.pick_g,R.pick_0,R.pick_s,Nat.mul_one,hal1,hb3,b5,List.map_append,List.map_cons,List.map_nil,vals,List.all_append]
         ·simp (maxSteps:=999999) only [go_sem,simprocAttr,↓qT,↓qF,List.nil_append,app_len,nlt0,nltn,Nat.reduceLT,Nat.le_add_right,Nat.mul_one,hal1,hb3,b5,List.map_append,List.map_cons,List.map_nil,vals,List.all_append]
         ·simp (maxSteps:=999999) only [go_sem,simprocAttr,↓qT,↓qF,List.nil_append,app_len,nlt0,nltn,Nat.reduceLT,Nat.le_add_right,vals_cons,vals_nil,wc_val,wc_vals,Nat.mul_one,hal1,hb3,b5,List.map_append,List.map_cons,List.map_nil,vals,List.all_append]
     ·rw [if_neg fun h=>hNN h.2] at ht
      have hgt:(N:Int)<(l.length:Int):=by omega
      rw [<-ht] at hS
      simp only [dscR,spec_ok] at hS
      cases l with
      | nil =>
       have hgt0:(N:Int)<0:=by simpa using hgt
       simp only [rSl,rLS]
       refine run_sound (Tab.ok_Γ _) 100 _ _ _ _ ?_
       simp (maxSteps:=999999) only [go_sem,simprocAttr,↓qT,↓qF,TDr,fullG,memF_set H,setM_fun H,fullM,ha1,MB,hs1,hf,hy,Slot.cl,Cap.cl,bne,hq,hwl,put,fillP,sub,EVt,hgt0,List.length_nil]
       refine fin_of (v:=.tup [.s .ns, .s (.i .i64 110)]) (ls:=[]) (h:=setM h a b (m'.gX y)) rfl ?_ ?_
       ·exact Wk.keep 0 rfl rfl (by simp only [go_sem,simprocAttr,↓qT,↓qF]) (by rfl) (by rfl)
       ·simp (maxSteps:=999999) only [go_sem,simprocAttr,↓qT,↓qF]
        exact hS
      | cons z l' =>
       have hgt0:=hgt
       simp only [List.length_cons] at hgt0
       simp only [rSl,rLS,List.cons_append,List.nil_append]
       refine run_sound (Tab.ok_Γ _) 100 _ _ _ _ ?_
       simp (maxSteps:=999999) only [go_sem,simprocAttr,↓qT,↓qF,TDr,fullG,memF_set H,setM_fun H,fullM,ha1,MB,hs1,hf,hy,Slot.cl,Cap.cl,bne,hq,hwl,put,fillP,sub,EVt,hgt0,List.length_cons]
       refine fin_of (v:=.tup [.s .ns, .s (.i .i64 110)]) (ls:=[]) (h:=setM h a b (m'.gX y)) rfl ?_ ?_
       ·exact Wk.keep 0 rfl rfl (by simp only [go_sem,simprocAttr,↓qT,↓qF]) (by rfl) (by rfl)
       ·simp (maxSteps:=999999) only [go_sem,simprocAttr,↓qT,↓qF]
        exact hS
    ·rw [if_neg fun h=>hf h.1] at ht
     have hf':(m'.fE y==0)=false:=by simpa using hf
     rw [<-ht] at hS
     simp only [dscR,spec_ok] at hS
     cases l with
     | nil =>
      simp only [rSl,rLS]
      refine run_sound (Tab.ok_Γ _) 100 _ _ _ _ ?_
      simp (maxSteps:=999999) only [go_sem,simprocAttr,↓qT,↓qF,TDr,fullG,memF_set H,setM_fun H,fullM,ha1,MB,hs1,hf,hy,Slot.cl,Cap.cl,bne,hq,hwl,put,fillP,sub,EVt,hf',List.length_nil]
      refine fin_of (v:=.tup [.s .ns, .s (.i .i64 110)]) (ls:=[]) (h:=setM h a b (m'.gX y)) rfl ?_ ?_
      ·exact Wk.keep 0 rfl rfl (by simp only [go_sem,simprocAttr,↓qT,↓qF]) (by rfl) (by rfl)
      ·simp (maxSteps:=999999) only [go_sem,simprocAttr,↓qT,↓qF]
       exact hS
     | cons z l' =>
      simp only [rSl,rLS,List.cons_append,List.nil_append]
      refine run_sound (Tab.ok_Γ _) 100 _ _ _ _ ?_
      simp (maxSteps:=999999) only [go_sem,simprocAttr,↓qT,↓qF,TDr,fullG,memF_set H,setM_fun H,fullM,ha1,MB,hs1,hf,hy,Slot.cl,Cap.cl,bne,hq,hwl,put,fillP,sub,EVt,hf',List.length_cons]
      refine fin_of (v:=.tup [.s .ns, .s (.i .i64 110)]) (ls:=[]) (h:=setM h a b (m'.gX y)) rfl ?_ ?_
      ·exact Wk.keep 0 rfl rfl (by simp only [go_sem,simprocAttr,↓qT,↓qF]) (by rfl) (by rfl)
      ·simp (maxSteps:=999999) only [go_sem,simprocAttr,↓qT,↓qF]
       exact hS
 ·exact hS.elim

noncomputable def TNr:Tab:=addT 98 fullG (noT)
theorem TNr_snd:TNr.Snd Tryz.prog:=addT_snd ok98 rfull_snd ((noT_snd _))
theorem rnext_snd:Snd Tryz.prog 32 (FSpec.of nextG):=snd_run TNr_snd mixed Tryz.func32 dc32 200 fun args h K hc hS=>by
 obtain ⟨a,b,m,rest,rfl,H,hS1⟩:=memF_spec (f:=nextM) hS
 clear hS
 have hS:=hS1
 clear hS1
 unfold nextM at hS
 split at hS
 ·rename_i x
  simp only [spec_ok,M.nxV,M.nxX] at hS
  obtain ⟨⟨⟨c0,c1,c2,c3,c4,c5,c6,c7,c8,c9,c10⟩,p0,q0,r0⟩,hs⟩:∃ s,m.gV x=s:=⟨_,rfl⟩
  obtain ⟨⟨⟨d0,d1,d2,d3,d4,d5,d6,d7,d8,d9,d10⟩,p1,q1,r1⟩,ht⟩:∃ s,m.gV q0=s:=⟨_,rfl⟩
  simp only [hs,ht] at hS
  by_cases hf:m.fE x=0
  ·rw [if_pos hf,if_pos hf] at hS
   by_cases hn:q0=0
   ·rw [if_pos hn,if_pos hn] at hS
    have hn':(q0==0)=true:=by simpa using hn
    simp (maxSteps:=999999) only [go_sem,simprocAttr,↓qT,↓qF,df32,TNr,fullG,memF_eq H,memF_set H,fullM,hs,hf,hn',bne,Slot.cl,Cap.cl,put,fillP,sub,EVt]
    exact hS
   ·rw [if_neg hn,if_neg hn] at hS
    have hn':(q0==0)=false:=by simpa using hn
    by_cases hg:m.fE q0=0
    ·rw [if_pos hg] at hS
     by_cases hd:r1<=r0
     ·rw [if_pos hd] at hS
      simp (maxSteps:=999999) only [go_sem,simprocAttr,↓qT,↓qF,df32,TNr,fullG,memF_eq H,memF_set H,fullM,hs,ht,hf,hn',hg,hd,gX_fE,gX_gV,bne,Slot.cl,Cap.cl,put,fillP,sub,EVt]
      exact hS
     ·rw [if_neg hd] at hS
      simp (maxSteps:=999999) only [go_sem,simprocAttr,↓qT,↓qF,df32,TNr,fullG,memF_eq H,memF_set H,fullM,hs,ht,hf,hn',hg,hd,gX_fE,gX_gV,bne,Slot.cl,Cap.cl,put,fillP,sub,EVt]
      exact hS
    ·rw [if_neg hg] at hS
     have hg':(m.fE q0==0)=false:=by simpa using hg
     simp (maxSteps:=999999) only [go_sem,simprocAttr,↓qT,↓qF,df32,TNr,fullG,memF_eq H,memF_set H,fullM,hs,ht,hf,hn',hg',hg,gX_fE,gX_gV,bne,Slot.cl,Cap.cl,put,fillP,sub,EVt]
     exact hS
  ·rw [if_neg hf,if_neg hf] at hS
   have hf':(m.fE x==0)=false:=by simpa using hf
   simp (maxSteps:=999999) only [go_sem,simprocAttr,↓qT,↓qF,df32,TNr,fullG,memF_eq H,memF_set H,fullM,hs,hf,hf',bne,Slot.cl,Cap.cl,put,fillP,sub,EVt]
   exact hS
 ·exact hS.elim


theorem rdW_len {d:Int} {N:Nat}:∀ (k:Nat) (x:Int) (m:M) (l:List Int) {l':List Int} {m':M},rdW d N k x m l=(some l',m')->l'.length<=l.length+k
 | 0,x,m,l,l',m',h=>by simp [rdW] at h
 | k+1,x,m,l,l',m',h=>by
  simp only [rdW] at h
  split at h
  ·simp only [Prod.mk.injEq,Option.some.injEq] at h; rw [<-h.1]; omega
  ·split at h
   ·split at h
    ·simp only [Prod.mk.injEq,Option.some.injEq] at h; rw [<-h.1]; omega
    ·have:=rdW_len k _ _ _ h
     simp only [List.length_append,List.length_cons,List.length_nil] at this
     omega
   ·simp at h
end Go.Proofs.YtcdfofeolgbnbaaGreat

