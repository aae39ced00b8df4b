/- Law 11: a handler's cap,lists of numbers; both memories. -/
import Derived.Test.YtcdfofeolgbnbaaZ8
import Derived.Test.YtcdfofeolgbnbaaZ14
import Derived.Test.YtcdfofeolgbnbaaZ15
import Derived.Test.YtcdfofeolgbnbaaZ13
/- Package cdt: Remove. -/
namespace Go.Proofs.Ytcdfofeolgbnbaa
open Go.D
open Nat (reduceAdd reducePow reduceMul reduceSub reduceLeDiff reduceLT reduceEqDiff)
open Int (reduceNeg reduceLE reduceEq reduceNe reduceToNat)
open Go.D renaming istep → zx,pickR → zw,bin1R → zv,un1R → zu,eqS → zq,eq1 → zp,cmpS → zj,cmp1 → zk,isNil → zg,shows → zZ,result → zY,q_cond_t → zU,q_cond_f → zQ
open List renaming set → zX,replicate → zW
open Option renaming map → zV
open Nat renaming reduceAdd → yz,reducePow → yy,reduceMul → yx,reduceSub → yw,reduceLeDiff → yv,reduceLT → yu,reduceEqDiff → yq
open Int renaming reduceNeg → yp,reduceLE → yj,reduceEq → yk,reduceNe → yg,reduceToNat → yZ,reducePow → yY,reduceLT → yX,reduceAdd → yW,reduceSub → yV,reduceMul → yU,reduceBEq → yQ,reduceBNe → xz
set_option linter.all false
set_option maxRecDepth 100000
set_option maxHeartbeats 8000000

def depC (s : Slot) : Slot:=⟨s.cap,s.prev,s.next,IntKind.i64.wrap (s.depth - 1)⟩
def M.decX : M → List Int → M
 | m,[] => m
 | m,x :: l => (m.turnX x depC).decX l
def M.remT (m : M) (x : Int) (s : Slot) (li : Bool) : M:=if li = true then ((if s.prev = 0 then (m.pX x slotZ).sfX s.next else m.pX x slotZ).turnX s.prev fun t => ⟨t.cap,t.prev,s.next,t.depth⟩).turnX s.next fun t => ⟨t.cap,s.prev,t.next,t.depth⟩ else m.pX x slotZ
def M.rem (m : M) (x : Int) : Int × M:=if m.fE x = 0 then (match dsW (m.gV x).depth (m.w.length / 4) (m.gV x).next ((m.gX x).gX x) [] with
 | (none,m2) => (110,m2)
 | (some l,m2) => (0,((m2.liX (m.gV x)).decX l).remT x (m.gV x) (m2.liB x (m.gV x)))) else (m.fE x,m.gX x)
def remM (b : Nat) (m : M) (st : M → List Blk) : List V → Res
 | [.s (.i .i64 x)] => .ok (.s (.i .i64 (m.rem x).1)) [] (st (m.rem x).2)
 | _ => .bad
noncomputable def remG:=memF remM
noncomputable def TRm : Tab:=addT 35 fullG (addT 13 dscG (addT 37 listedG (addT 42 turnG (addT 38 put2G (addT 45 setFirstG (noT))))))
theorem TRm_snd : TRm.Snd Try.prog:=addT_snd ok35 full_snd (addT_snd ok13 dsc_snd (addT_snd ok37 listed_snd (addT_snd ok42 turn_snd (addT_snd ok38 put2_snd (addT_snd ok45 setFirst_snd ((noT_snd _)))))))
theorem decX_drop {m : M} {l : List Int} {i : Nat} (h : i < l.length) : m.decX (l.drop i) = (m.turnX (nth 0 l i) depC).decX (l.drop (i + 1)):=by
 rw [← List.getElem_cons_drop h,nth_eq h]; rfl
theorem rem_snd : Snd Try.prog 20 (FSpec.of remG):=(fwp_sound (Tab.snd_Γ TRm_snd) mixed Try.func20 dc20).weaken fun args h K hc hS => by
 refine fwp_runW (Tab.ok_Γ _) 200 ?_
 obtain ⟨a,b,m,rest,rfl,H,hS1⟩:=memF_spec (f:=remM) hS
 clear hS
 have hS:=hS1
 clear hS1
 unfold remM at hS
 split at hS
 ·rename_i x
  simp only [spec_ok,M.rem] at hS
  have hlm : ∀ m2,(setM h a b m2).length = h.length:=fun _ => setM_len
  have hcm : ∀ m2,clean (setM h a b m2).length (setM h a b m2) = true:=fun _ => by rw [setM_len]; exact setM_clean H hc H.ltb
  have hcm2 : ∀ m2,clean h.length (setM h a b m2) = true:=fun _ => setM_clean H hc H.ltb
  have hml:=m.l
  obtain ⟨s,hs⟩ : ∃ s,m.gV x = s:=⟨_,rfl⟩
  by_cases hf : m.fE x = 0
  ·simp only [hf,if_true,hs] at hS
   have hs2 : (m.gX x).gV x = s:=by rw [gX_gV]; exact hs
   have hf2 : (m.gX x).fE x = 0:=by rw [gX_fE]; exact hf
   have hwl : (m.gX x).w.length = m.w.length:=by rw [gX_w]
   obtain ⟨o,ho⟩ : ∃ o,dsW s.depth (m.w.length / 4) s.next ((m.gX x).gX x) [] = o:=⟨_,rfl⟩
   rw [ho] at hS
   obtain ⟨⟨c0,c1,c2,c3,c4,c5,c6,c7,c8,c9,c10⟩,p0,q0,r0⟩:=s
   rcases o with ⟨_ | l,m2⟩
   ·simp only at hS
    simp (maxSteps:=9999999) only [EV0,zx,zw,zv,zu,zq,zp,zj,zk,zg,leT,zZ,rvC,zY,zX,zW,zV,↓zU,↓zQ,reduceCtorEq,yz,yy,yY,yx,yw,yv,yu,yq,yp,yX,yj,yk,yg,yW,yV,yU,yZ,yQ,xz,df20,TRm,fullG,dscG,memF_eq H,memF_set H,fullM,dscM,dscR,hs,hs2,hf,hf2,hwl,ho,bne,Slot.cl,Cap.cl,put,fillP,sub,EVt]
    refine fin_of (v:=.s (.i .i64 110)) (ls:=[]) (h:=setM h a b m2) rfl ?_ ?_
    ·exact Wk.keep 0 rfl rfl (by simp (maxSteps:=9999999) only [EV0,zx,zw,zv,zu,zq,zp,zj,zk,zg,leT,zZ,rvC,zY,zX,zW,zV,↓zU,↓zQ,reduceCtorEq,yz,yy,yY,yx,yw,yv,yu,yq,yp,yX,yj,yk,yg,yW,yV,yU,yZ,yQ,xz]) (by rfl) (by rfl)
    ·simp (maxSteps:=9999999) only [EV0,zx,zw,zv,zu,zq,zp,zj,zk,zg,leT,zZ,rvC,zY,zX,zW,zV,↓zU,↓zQ,reduceCtorEq,yz,yy,yY,yx,yw,yv,yu,yq,yp,yX,yj,yk,yg,yW,yV,yU,yZ,yQ,xz]
     exact hS
   ·simp only at hS
    obtain ⟨li,hli⟩ : ∃ li,m2.liB x ⟨⟨c0,c1,c2,c3,c4,c5,c6,c7,c8,c9,c10⟩,p0,q0,r0⟩ = li:=⟨_,rfl⟩
    obtain ⟨m3,hm3⟩ : ∃ m3,m2.liX ⟨⟨c0,c1,c2,c3,c4,c5,c6,c7,c8,c9,c10⟩,p0,q0,r0⟩ = m3:=⟨_,rfl⟩
    rw [hli,hm3] at hS
    have hsl : ∀ m' (X : List Blk),slotAt (setM h a b m' ++ (X ++ [⟨.rw,(⟨⟨c0,c1,c2,c3,c4,c5,c6,c7,c8,c9,c10⟩,p0,q0,r0⟩ : Slot).cl,14⟩])) (h.length + X.length) = some ⟨⟨c0,c1,c2,c3,c4,c5,c6,c7,c8,c9,c10⟩,p0,q0,r0⟩:=fun m' X => slotAt_eq (by rw [List.getElem?_append_right (by rw [setM_len]; omega),setM_len,Nat.add_sub_cancel_left,List.getElem?_append_right (Nat.le_refl _),Nat.sub_self]; rfl)
    have t3 : ∀ m' q (X : List Blk),turnG [.s (.p (.g a) 0), .s (.i .i64 q), .s (.fn 46 [(.g (h.length + X.length),0)])] (setM h a b m' ++ (X ++ [⟨.rw,(⟨⟨c0,c1,c2,c3,c4,c5,c6,c7,c8,c9,c10⟩,p0,q0,r0⟩ : Slot).cl,14⟩])) = .ok (.tup []) [] (setM h a b (m'.turnX q fun s => ⟨s.cap,s.prev,q0,s.depth⟩) ++ (X ++ [⟨.rw,(⟨⟨c0,c1,c2,c3,c4,c5,c6,c7,c8,c9,c10⟩,p0,q0,r0⟩ : Slot).cl,14⟩])):=fun m' q X => by
     unfold turnG
     rw [memF_app H]
     simp only [turnM,chg,hsl,reduceEqDiff,if_true,if_false]
    have t4 : ∀ m' q (X : List Blk),turnG [.s (.p (.g a) 0), .s (.i .i64 q), .s (.fn 47 [(.g (h.length + X.length),0)])] (setM h a b m' ++ (X ++ [⟨.rw,(⟨⟨c0,c1,c2,c3,c4,c5,c6,c7,c8,c9,c10⟩,p0,q0,r0⟩ : Slot).cl,14⟩])) = .ok (.tup []) [] (setM h a b (m'.turnX q fun s => ⟨s.cap,p0,s.next,s.depth⟩) ++ (X ++ [⟨.rw,(⟨⟨c0,c1,c2,c3,c4,c5,c6,c7,c8,c9,c10⟩,p0,q0,r0⟩ : Slot).cl,14⟩])):=fun m' q X => by
     unfold turnG
     rw [memF_app H]
     simp only [turnM,chg,hsl,reduceEqDiff,if_true,if_false]
    have t30:=fun m' q => t3 m' q []
    have t40:=fun m' q => t4 m' q []
    simp only [List.length_nil,Nat.add_zero,List.nil_append,Slot.cl,Cap.cl] at t30 t40
    have hslz : (slotZ : Slot) = ⟨⟨0,0,0,0,0,0,0,0,0,0,0⟩,0,0,0⟩:=rfl
    obtain ⟨m4,hm4⟩ : ∃ m4,m3.decX l = m4:=⟨_,rfl⟩
    rw [hm4] at hS
    cases l with
    | nil =>
     simp only [M.decX] at hm4
     subst hm4
     have hm4:=hm3
     cases hlb : li
     ·rw [hlb] at hS
      simp only [M.remT,Bool.false_eq_true,if_false] at hS
      simp (maxSteps:=9999999) only [EV0,zx,zw,zv,zu,zq,zp,zj,zk,zg,leT,zZ,rvC,zY,zX,zW,zV,↓zU,↓zQ,reduceCtorEq,yz,yy,yY,yx,yw,yv,yu,yq,yp,yX,yj,yk,yg,yW,yV,yU,yZ,yQ,xz,df20,TRm,fullG,dscG,listedG,put2G,setFirstG,memF_eq H,memF_set H,memF_app H,setM_fun H,fullM,dscM,dscR,listedM,put2M,setFirstM,slotF,slot_eta,cap_eta,hs,hs2,hf,hf2,hwl,ho,hli,hlb,hm3,hm4,bne,Slot.cl,Cap.cl,← hslz,R.lend,R.unlend,S_ren,C.ren,V.ren,Blk.ren,take_app,drop_app,Nat.not_lt_zero,Nat.lt_irrefl,Nat.add_sub_cancel_left,Nat.not_lt,Nat.le_add_right,setM_len,hcm,hcm2,put,fillP,sub,EVt]
      refine fin_of (v:=.s (.i .i64 0)) (ls:=[]) (h:=setM h a b (m3.pX x slotZ)) rfl ?_ ?_
      ·exact Wk.keep 0 rfl rfl (by simp (maxSteps:=9999999) only [EV0,zx,zw,zv,zu,zq,zp,zj,zk,zg,leT,zZ,rvC,zY,zX,zW,zV,↓zU,↓zQ,reduceCtorEq,yz,yy,yY,yx,yw,yv,yu,yq,yp,yX,yj,yk,yg,yW,yV,yU,yZ,yQ,xz]) (by rfl) (by rfl)
      ·simp (maxSteps:=9999999) only [EV0,zx,zw,zv,zu,zq,zp,zj,zk,zg,leT,zZ,rvC,zY,zX,zW,zV,↓zU,↓zQ,reduceCtorEq,yz,yy,yY,yx,yw,yv,yu,yq,yp,yX,yj,yk,yg,yW,yV,yU,yZ,yQ,xz]
       exact hS
     ·rw [hlb] at hS
      simp only [M.remT,if_true] at hS
      by_cases hp0 : p0 = 0
      ·have hp0' : (p0 == 0) = true:=by simpa using hp0
       rw [if_pos hp0] at hS
       simp (maxSteps:=9999999) only [EV0,zx,zw,zv,zu,zq,zp,zj,zk,zg,leT,zZ,rvC,zY,zX,zW,zV,↓zU,↓zQ,reduceCtorEq,yz,yy,yY,yx,yw,yv,yu,yq,yp,yX,yj,yk,yg,yW,yV,yU,yZ,yQ,xz,df20,TRm,fullG,dscG,listedG,put2G,setFirstG,memF_eq H,memF_set H,memF_app H,setM_fun H,fullM,dscM,dscR,listedM,put2M,setFirstM,slotF,slot_eta,cap_eta,hs,hs2,hf,hf2,hwl,ho,hli,hlb,hm3,hm4,bne,Slot.cl,Cap.cl,← hslz,R.lend,R.unlend,S_ren,C.ren,V.ren,Blk.ren,take_app,drop_app,Nat.not_lt_zero,Nat.lt_irrefl,Nat.add_sub_cancel_left,Nat.not_lt,Nat.le_add_right,setM_len,hcm,hcm2,put,fillP,sub,EVt,hp0',t30,t40]
       refine fin_of (v:=.s (.i .i64 0)) (ls:=[]) (h:=setM h a b ((((m3.pX x slotZ).sfX q0).turnX p0 fun t => ⟨t.cap,t.prev,q0,t.depth⟩).turnX q0 fun t => ⟨t.cap,p0,t.next,t.depth⟩)) rfl ?_ ?_
       ·exact Wk.keep 0 rfl rfl (by simp (maxSteps:=9999999) only [EV0,zx,zw,zv,zu,zq,zp,zj,zk,zg,leT,zZ,rvC,zY,zX,zW,zV,↓zU,↓zQ,reduceCtorEq,yz,yy,yY,yx,yw,yv,yu,yq,yp,yX,yj,yk,yg,yW,yV,yU,yZ,yQ,xz]) (by rfl) (by rfl)
       ·simp (maxSteps:=9999999) only [EV0,zx,zw,zv,zu,zq,zp,zj,zk,zg,leT,zZ,rvC,zY,zX,zW,zV,↓zU,↓zQ,reduceCtorEq,yz,yy,yY,yx,yw,yv,yu,yq,yp,yX,yj,yk,yg,yW,yV,yU,yZ,yQ,xz]
        exact hS
      ·have hp0' : (p0 == 0) = false:=by simpa using hp0
       simp only [hp0,if_false] at hS
       simp (maxSteps:=9999999) only [EV0,zx,zw,zv,zu,zq,zp,zj,zk,zg,leT,zZ,rvC,zY,zX,zW,zV,↓zU,↓zQ,reduceCtorEq,yz,yy,yY,yx,yw,yv,yu,yq,yp,yX,yj,yk,yg,yW,yV,yU,yZ,yQ,xz,df20,TRm,fullG,dscG,listedG,put2G,setFirstG,memF_eq H,memF_set H,memF_app H,setM_fun H,fullM,dscM,dscR,listedM,put2M,setFirstM,slotF,slot_eta,cap_eta,hs,hs2,hf,hf2,hwl,ho,hli,hlb,hm3,hm4,bne,Slot.cl,Cap.cl,← hslz,R.lend,R.unlend,S_ren,C.ren,V.ren,Blk.ren,take_app,drop_app,Nat.not_lt_zero,Nat.lt_irrefl,Nat.add_sub_cancel_left,Nat.not_lt,Nat.le_add_right,setM_len,hcm,hcm2,put,fillP,sub,EVt,hp0',t30,t40]
       refine fin_of (v:=.s (.i .i64 0)) (ls:=[]) (h:=setM h a b (((m3.pX x slotZ).turnX p0 fun t => ⟨t.cap,t.prev,q0,t.depth⟩).turnX q0 fun t => ⟨t.cap,p0,t.next,t.depth⟩)) rfl ?_ ?_
       ·exact Wk.keep 0 rfl rfl (by simp (maxSteps:=9999999) only [EV0,zx,zw,zv,zu,zq,zp,zj,zk,zg,leT,zZ,rvC,zY,zX,zW,zV,↓zU,↓zQ,reduceCtorEq,yz,yy,yY,yx,yw,yv,yu,yq,yp,yX,yj,yk,yg,yW,yV,yU,yZ,yQ,xz]) (by rfl) (by rfl)
       ·simp (maxSteps:=9999999) only [EV0,zx,zw,zv,zu,zq,zp,zj,zk,zg,leT,zZ,rvC,zY,zX,zW,zV,↓zU,↓zQ,reduceCtorEq,yz,yy,yY,yx,yw,yv,yu,yq,yp,yX,yj,yk,yg,yW,yV,yU,yZ,yQ,xz]
        exact hS
    | cons y l =>
     have hl:=dsW_len _ _ _ _ ho
     obtain ⟨B,hB⟩ : ∃ B,intsB (y :: l) = B:=⟨_,rfl⟩
     have hbB : ∀ m' c,(setM h a b m' ++ [⟨.rw,B,c⟩])[h.length]? = some (⟨.rw,B,c⟩ : Blk):=fun m' c => by rw [List.getElem?_append_right (by rw [setM_len]; omega),setM_len,Nat.sub_self]; rfl
     have hB0 : B[0]? = some (.i .i64 y):=by rw [← hB]; rfl
     have hBl : B.length = l.length + 1:=by rw [← hB]; simp [intsB]
     have hB1 : ∀ i,i < l.length → B[1 + i]? = some (.i .i64 (nth 0 l i)):=fun i hi => by
      rw [← hB,intsB_get (by simp only [List.length_cons]; omega),Nat.add_comm 1 i]; rfl
     have tD1 : ∀ m' q c,turnG [.s (.p (.g a) 0), .s (.i .i64 q), .s (.fn 43 [])] (setM h a b m' ++ [⟨.rw,B,c⟩]) = .ok (.tup []) [] (setM h a b (m'.turnX q depC) ++ [⟨.rw,B,c⟩]):=fun m' q c => by
      unfold turnG
      rw [memF_app H]
      simp only [turnM,chg,true_or,if_true]
      rfl
     have tD2 : ∀ m' q c,turnG [.s (.p (.g a) 0), .s (.i .i64 q), .s (.fn 44 [])] (setM h a b m' ++ [⟨.rw,B,c⟩]) = .ok (.tup []) [] (setM h a b (m'.turnX q depC) ++ [⟨.rw,B,c⟩]):=fun m' q c => by
      unfold turnG
      rw [memF_app H]
      simp only [turnM,chg,or_true,if_true]
      rfl
     have z1 : (0 : Int) < ((l.length + 1 : Nat) : Int):=by omega
     simp (maxSteps:=9999999) only [EV0,zx,zw,zv,zu,zq,zp,zj,zk,zg,leT,zZ,rvC,zY,zX,zW,zV,↓zU,↓zQ,reduceCtorEq,yz,yy,yY,yx,yw,yv,yu,yq,yp,yX,yj,yk,yg,yW,yV,yU,yZ,yQ,xz,df20,TRm,fullG,dscG,listedG,put2G,setFirstG,memF_eq H,memF_set H,memF_app H,setM_fun H,fullM,dscM,dscR,listedM,put2M,setFirstM,slotF,slot_eta,cap_eta,hs,hs2,hf,hf2,hwl,ho,hli,hm3,bne,Slot.cl,Cap.cl,← hslz,R.lend,R.unlend,S_ren,C.ren,V.ren,Blk.ren,take_app,drop_app,Nat.not_lt_zero,Nat.lt_irrefl,Nat.add_sub_cancel_left,Nat.not_lt,Nat.le_add_right,setM_len,hcm,hcm2,put,fillP,sub,EVt,hB,hbB,hB0,hBl,tD1,z1,Int.toNat_natCast]
     intro c hc1
     refine ⟨⟨by omega,by omega⟩, ?_⟩
     have hob : ∀ i,i < l.length → B[(if c = 1 then 0 else 1) + i]? = some (.i .i64 (nth 0 l i)):=fun i hi => by rw [if_neg (by omega)]; exact hB1 i hi
     generalize (if c = 1 then 0 else 1) = o' at hob ⊢
     have l1 : l.length ≤ 9223372036854775807:=by simp only [List.length_cons,List.length_nil] at hl; omega
     clear hs hs2 hf hf2 hwl ho hli
     have t31:=fun m' q => t3 m' q [⟨.rw,B,c⟩]
     have t41:=fun m' q => t4 m' q [⟨.rw,B,c⟩]
     simp only [List.length_cons,List.length_nil,Nat.zero_add,List.cons_append,List.nil_append,Slot.cl,Cap.cl] at t31 t41
     have htk : ∀ (m' : M) (Z : Blk),List.take (h.length + 1) (setM h a b m' ++ [⟨.rw,B,c⟩,Z]) = setM h a b m' ++ [⟨.rw,B,c⟩]:=fun m' Z => by
      rw [List.append_cons,List.take_left' (by simp [setM_len])]
     have hdr : ∀ (m' : M) (Z : Blk),List.drop (h.length + 1) (setM h a b m' ++ [⟨.rw,B,c⟩,Z]) = [Z]:=fun m' Z => by
      rw [List.append_cons,List.drop_left' (by simp [setM_len])]
     have hlc : ∀ (m' : M),clean (h.length + 1) (setM h a b m' ++ [⟨.rw,B,c⟩]) = true:=fun m' => by
      refine clean_app (hcm2 m') (by omega) ?_
      have hv : vals (h.length + 1) 0 B = true:=by rw [← hB]; exact (intsB_is _).va _ _
      simp only [clean,List.all_cons,List.all_nil,Bool.and_true,hv]
     simp only [Nat.add_sub_cancel]
     refine loop_rule (α:=Nat × M) [10,44,45,46,47,48,49,50,51] (fun z => [(44, .s (.i .i64 (z.1 : Int)))]) (fun _ => [⟨.rw,(⟨⟨c0,c1,c2,c3,c4,c5,c6,c7,c8,c9,c10⟩,p0,q0,r0⟩ : Slot).cl,14⟩]) (fun z => setM h a b z.2 ++ [⟨.rw,B,c⟩]) (fun z => z.1 ≤ l.length ∧ z.2.decX (l.drop z.1) = m4) (fun z => l.length - z.1) (0,m3.turnX y depC) ⟨Nat.zero_le _,hm4⟩ ?_ ?_
     ·refine Wk.same (by rfl) rfl ?_
      simp (maxSteps:=9999999) only [EV0,zx,zw,zv,zu,zq,zp,zj,zk,zg,leT,zZ,rvC,zY,zX,zW,zV,↓zU,↓zQ,reduceCtorEq,yz,yy,yY,yx,yw,yv,yu,yq,yp,yX,yj,yk,yg,yW,yV,yU,yZ,yQ,xz,Int.natCast_zero]
     ·rintro X ⟨i,m'⟩ ⟨hi,hm'⟩ IH
      simp only at hi hm' ⊢
      simp only [Slot.cl,Cap.cl]
      by_cases h1 : i < l.length
      ·obtain ⟨d1,d2,d3,d4⟩:=idx h1 l1
       have g1:=hob i h1
       rw [decX_drop h1] at hm'
       refine run_sound (Tab.ok_Γ _) 100 _ _ _ _ ?_
       simp (maxSteps:=9999999) only [EV0,zx,zw,zv,zu,zq,zp,zj,zk,zg,leT,zZ,rvC,zY,zX,zW,zV,↓zU,↓zQ,reduceCtorEq,yz,yy,yY,yx,yw,yv,yu,yq,yp,yX,yj,yk,yg,yW,yV,yU,yZ,yQ,xz,TRm,hbB,g1,d1,d2,d3,d4,tD2,Int.toNat_natCast]
       exact IH (i + 1,m'.turnX (nth 0 l i) depC) _ (by simp only; omega) ⟨by simp only; omega,hm'⟩ (Wk.same (by rfl) rfl (by simp (maxSteps:=9999999) only [EV0,zx,zw,zv,zu,zq,zp,zj,zk,zg,leT,zZ,rvC,zY,zX,zW,zV,↓zU,↓zQ,reduceCtorEq,yz,yy,yY,yx,yw,yv,yu,yq,yp,yX,yj,yk,yg,yW,yV,yU,yZ,yQ,xz]))
      ·have e0 : i = l.length:=by omega
       subst e0
       rw [List.drop_length] at hm'
       simp only [M.decX] at hm'
       subst hm'
       have h1 : ¬ ((l.length : Int) < (l.length : Int)):=by omega
       cases hlb : li
       ·rw [hlb] at hS
        simp only [M.remT,Bool.false_eq_true,if_false] at hS
        refine run_sound (Tab.ok_Γ _) 100 _ _ _ _ ?_
        simp (maxSteps:=9999999) only [EV0,zx,zw,zv,zu,zq,zp,zj,zk,zg,leT,zZ,rvC,zY,zX,zW,zV,↓zU,↓zQ,reduceCtorEq,yz,yy,yY,yx,yw,yv,yu,yq,yp,yX,yj,yk,yg,yW,yV,yU,yZ,yQ,xz,TRm,listedG,put2G,setFirstG,memF_eq H,memF_set H,memF_app H,setM_fun H,listedM,put2M,setFirstM,slotF,slot_eta,cap_eta,hlb,bne,Slot.cl,Cap.cl,← hslz,R.lend,R.unlend,S_ren,C.ren,V.ren,Blk.ren,take_app,drop_app,Nat.not_lt_zero,Nat.lt_irrefl,Nat.add_sub_cancel_left,Nat.not_lt,Nat.le_add_right,setM_len,hcm,hcm2,put,fillP,sub,EVt,h1]
        trace_state
        refine fin_of (v:=.s (.i .i64 0)) (ls:=[]) (h:=setM h a b (m'.pX x slotZ)) rfl ?_ ?_
        ·exact drop_i (by simp (maxSteps:=9999999) only [EV0,zx,zw,zv,zu,zq,zp,zj,zk,zg,leT,zZ,rvC,zY,zX,zW,zV,↓zU,↓zQ,reduceCtorEq,yz,yy,yY,yx,yw,yv,yu,yq,yp,yX,yj,yk,yg,yW,yV,yU,yZ,yQ,xz]) (hcm _) (Nat.le_of_eq (hlm _).symm)
        ·simp (maxSteps:=9999999) only [EV0,zx,zw,zv,zu,zq,zp,zj,zk,zg,leT,zZ,rvC,zY,zX,zW,zV,↓zU,↓zQ,reduceCtorEq,yz,yy,yY,yx,yw,yv,yu,yq,yp,yX,yj,yk,yg,yW,yV,yU,yZ,yQ,xz]
         exact hS
       ·rw [hlb] at hS
        simp only [M.remT,if_true] at hS
        by_cases hp0 : p0 = 0
        ·have hp0' : (p0 == 0) = true:=by simpa using hp0
         rw [if_pos hp0] at hS
         refine run_sound (Tab.ok_Γ _) 100 _ _ _ _ ?_
         simp (maxSteps:=9999999) only [EV0,zx,zw,zv,zu,zq,zp,zj,zk,zg,leT,zZ,rvC,zY,zX,zW,zV,↓zU,↓zQ,reduceCtorEq,yz,yy,yY,yx,yw,yv,yu,yq,yp,yX,yj,yk,yg,yW,yV,yU,yZ,yQ,xz,TRm,listedG,put2G,setFirstG,memF_eq H,memF_set H,memF_app H,setM_fun H,listedM,put2M,setFirstM,slotF,slot_eta,cap_eta,hlb,bne,Slot.cl,Cap.cl,← hslz,R.lend,R.unlend,S_ren,C.ren,V.ren,Blk.ren,take_app,drop_app,Nat.not_lt_zero,Nat.lt_irrefl,Nat.add_sub_cancel_left,Nat.not_lt,Nat.le_add_right,setM_len,hcm,hcm2,put,fillP,sub,EVt,h1,hp0',t31,t41,htk,hdr,hlc]
         trace_state
         refine fin_of (v:=.s (.i .i64 0)) (ls:=[]) (h:=setM h a b ((((m'.pX x slotZ).sfX q0).turnX p0 fun t => ⟨t.cap,t.prev,q0,t.depth⟩).turnX q0 fun t => ⟨t.cap,p0,t.next,t.depth⟩)) rfl ?_ ?_
         ·exact drop_i (by simp (maxSteps:=9999999) only [EV0,zx,zw,zv,zu,zq,zp,zj,zk,zg,leT,zZ,rvC,zY,zX,zW,zV,↓zU,↓zQ,reduceCtorEq,yz,yy,yY,yx,yw,yv,yu,yq,yp,yX,yj,yk,yg,yW,yV,yU,yZ,yQ,xz]) (hcm _) (Nat.le_of_eq (hlm _).symm)
         ·simp (maxSteps:=9999999) only [EV0,zx,zw,zv,zu,zq,zp,zj,zk,zg,leT,zZ,rvC,zY,zX,zW,zV,↓zU,↓zQ,reduceCtorEq,yz,yy,yY,yx,yw,yv,yu,yq,yp,yX,yj,yk,yg,yW,yV,yU,yZ,yQ,xz]
          exact hS
        ·have hp0' : (p0 == 0) = false:=by simpa using hp0
         simp only [hp0,if_false] at hS
         refine run_sound (Tab.ok_Γ _) 100 _ _ _ _ ?_
         simp (maxSteps:=9999999) only [EV0,zx,zw,zv,zu,zq,zp,zj,zk,zg,leT,zZ,rvC,zY,zX,zW,zV,↓zU,↓zQ,reduceCtorEq,yz,yy,yY,yx,yw,yv,yu,yq,yp,yX,yj,yk,yg,yW,yV,yU,yZ,yQ,xz,TRm,listedG,put2G,setFirstG,memF_eq H,memF_set H,memF_app H,setM_fun H,listedM,put2M,setFirstM,slotF,slot_eta,cap_eta,hlb,bne,Slot.cl,Cap.cl,← hslz,R.lend,R.unlend,S_ren,C.ren,V.ren,Blk.ren,take_app,drop_app,Nat.not_lt_zero,Nat.lt_irrefl,Nat.add_sub_cancel_left,Nat.not_lt,Nat.le_add_right,setM_len,hcm,hcm2,put,fillP,sub,EVt,h1,hp0',t31,t41,htk,hdr,hlc]
         trace_state
         refine fin_of (v:=.s (.i .i64 0)) (ls:=[]) (h:=setM h a b (((m'.pX x slotZ).turnX p0 fun t => ⟨t.cap,t.prev,q0,t.depth⟩).turnX q0 fun t => ⟨t.cap,p0,t.next,t.depth⟩)) rfl ?_ ?_
         ·exact drop_i (by simp (maxSteps:=9999999) only [EV0,zx,zw,zv,zu,zq,zp,zj,zk,zg,leT,zZ,rvC,zY,zX,zW,zV,↓zU,↓zQ,reduceCtorEq,yz,yy,yY,yx,yw,yv,yu,yq,yp,yX,yj,yk,yg,yW,yV,yU,yZ,yQ,xz]) (hcm _) (Nat.le_of_eq (hlm _).symm)
         ·simp (maxSteps:=9999999) only [EV0,zx,zw,zv,zu,zq,zp,zj,zk,zg,leT,zZ,rvC,zY,zX,zW,zV,↓zU,↓zQ,reduceCtorEq,yz,yy,yY,yx,yw,yv,yu,yq,yp,yX,yj,yk,yg,yW,yV,yU,yZ,yQ,xz]
          exact hS
  ·have hf' : (m.fE x == 0) = false:=by simpa using hf
   simp only [hf,if_false] at hS
   simp (maxSteps:=9999999) only [EV0,zx,zw,zv,zu,zq,zp,zj,zk,zg,leT,zZ,rvC,zY,zX,zW,zV,↓zU,↓zQ,reduceCtorEq,yz,yy,yY,yx,yw,yv,yu,yq,yp,yX,yj,yk,yg,yW,yV,yU,yZ,yQ,xz,df20,TRm,fullG,memF_eq H,memF_set H,fullM,hs,hf',hf,bne,Slot.cl,Cap.cl,put,fillP,sub,EVt]
   refine fin_of (v:=.s (.i .i64 (m.fE x))) (ls:=[]) (h:=setM h a b (m.gX x)) rfl ?_ ?_
   ·exact Wk.keep 0 rfl rfl (by simp (maxSteps:=9999999) only [EV0,zx,zw,zv,zu,zq,zp,zj,zk,zg,leT,zZ,rvC,zY,zX,zW,zV,↓zU,↓zQ,reduceCtorEq,yz,yy,yY,yx,yw,yv,yu,yq,yp,yX,yj,yk,yg,yW,yV,yU,yZ,yQ,xz]) (by rfl) (by rfl)
   ·simp (maxSteps:=9999999) only [EV0,zx,zw,zv,zu,zq,zp,zj,zk,zg,leT,zZ,rvC,zY,zX,zW,zV,↓zU,↓zQ,reduceCtorEq,yz,yy,yY,yx,yw,yv,yu,yq,yp,yX,yj,yk,yg,yW,yV,yU,yZ,yQ,xz]
    exact hS
 ·exact hS.elim

def rdW (d : Int) (N : Nat) : Nat → Int → M → List Int → Option (List Int) × M
 | 0,x,m,l => (none,m)
 | k + 1,x,m,l => if x = 0 then (some l,m) else if m.fE x = 0 ∧ l.length ≤ N then
   (if (m.gV x).depth ≤ d then (some l,m.gX x) else rdW d N k (m.gV x).next (m.gX x) (l ++ [x])) else (none,m.gX x)
def rlisM (b : Nat) (m : M) (st : M → List Blk) : List V → Res
 | [] => dscR st (rdW (-1) (m.w.length / 4) (m.w.length / 4 + 2) m.fst m.fstX [])
 | _ => .bad
noncomputable def rlisG:=memF rlisM
def rSl (i : Nat) (l : List Int) (c : Nat) : S:=match l with
 | [] => .ns
 | _ :: l => .sl (.l i) 0 (l.length + 1) c
def rLS (own : List Blk) (l : List Int) (c : Nat) : List Blk:=match l with
 | [] => own
 | x :: l => own ++ [⟨.rw,intsB (x :: l),c⟩]
noncomputable def TDr : Tab:=addT 74 fullG (addT 73 firstG (noT))
theorem TDr_snd : TDr.Snd Try.prog:=addT_snd ok74 rfull_snd (addT_snd ok73 rfirst_snd ((noT_snd _)))
theorem rlis_snd : Snd Try.prog 49 (FSpec.of rlisG):=(fwp_sound (Tab.snd_Γ TDr_snd) mixed Try.func49 dc49).weaken fun args h K hc hS => by
 refine fwp_runW (Tab.ok_Γ _) 200 ?_
 obtain ⟨a,b,m,rest,rfl,H,hS1⟩:=memF_spec (f:=rlisM) hS
 clear hS
 have hS:=hS1
 clear hS1
 unfold rlisM at hS
 split at hS
 ·obtain ⟨m0,hm0⟩ : ∃ m0,m.fstX = m0:=⟨_,rfl⟩
  obtain ⟨q0,hq0⟩ : ∃ q0,m.fst = q0:=⟨_,rfl⟩
  have hw0 : m0.w.length = m.w.length:=by rw [← hm0]; unfold M.fstX; split <;> rfl
  rw [hm0,hq0] at hS
  simp (maxSteps:=9999999) only [EV0,zx,zw,zv,zu,zq,zp,zj,zk,zg,leT,zZ,rvC,zY,zX,zW,zV,↓zU,↓zQ,reduceCtorEq,yz,yy,yY,yx,yw,yv,yu,yq,yp,yX,yj,yk,yg,yW,yV,yU,yZ,yQ,xz,df49,TDr,firstG,firstM,memF_eq H,memF_set H,hm0,hq0,put,fillP,sub,EVt]
  clear hm0 hq0
  have hlm : ∀ m2,(setM h a b m2).length = h.length:=fun _ => setM_len
  have hcm : ∀ m2,clean (setM h a b m2).length (setM h a b m2) = true:=fun _ => by rw [setM_len]; exact setM_clean H hc H.ltb
  have ha1 : ∀ m2,(setM h a b m2)[a]? = some (MB b m2):=fun m2 => (H.set m2).ha
  have hal : ∀ m2,a < (setM h a b m2).length:=fun m2 => by rw [setM_len]; exact H.lta
  have hml:=m.l
  have hq : IntKind.i64.wrap ((m.w.length : Int).tdiv 4) = ((m.w.length / 4 : Nat) : Int):=by
   rw [Int.tdiv_eq_ediv_of_nonneg (by omega),wrap64] <;> omega
  obtain ⟨N,hN⟩ : ∃ N,m.w.length / 4 = N:=⟨_,rfl⟩
  rw [hN] at hS hq
  obtain ⟨o,ho⟩ : ∃ o,rdW (-1) N (N + 2) q0 m0 [] = o:=⟨_,rfl⟩
  rw [ho] at hS
  refine loop_rule (α:=List Int × Nat × Int × M) [2,3,4,5,6,7,10,11,12,13,14,15,16,17,18,19,20,21,22,23,24,25,26,27,28,29,30,31,32,33,34,35,36] (fun z => [(4, .s (rSl 0 z.1 z.2.1)),(5, .s (.i .i64 z.2.2.1))]) (fun z => rLS [] z.1 z.2.1) (fun z => setM h a b z.2.2.2) (fun z => z.1.length ≤ N + 1 ∧ z.1.length ≤ z.2.1 ∧ z.2.2.2.w.length = m.w.length ∧ rdW (-1) N (N + 2 - z.1.length) z.2.2.1 z.2.2.2 z.1 = o) (fun z => N + 2 - z.1.length) ([],0,q0,m0) ⟨Nat.zero_le _,Nat.zero_le _,hw0,ho⟩ ?_ ?_
  ·refine Wk.same (by rfl) rfl ?_
   simp (maxSteps:=9999999) only [EV0,zx,zw,zv,zu,zq,zp,zj,zk,zg,leT,zZ,rvC,zY,zX,zW,zV,↓zU,↓zQ,reduceCtorEq,yz,yy,yY,yx,yw,yv,yu,yq,yp,yX,yj,yk,yg,yW,yV,yU,yZ,yQ,xz,rSl]
  ·rintro X ⟨l,c,y,m'⟩ ⟨hk,hlc,hw,ht⟩ IH
   simp only at hk hlc hw ht ⊢
   obtain ⟨k,hkk⟩ : ∃ k,N + 2 - l.length = k + 1:=⟨N + 1 - l.length,by omega⟩
   rw [hkk] at ht
   simp only [rdW] at ht
   clear ho
   have hNl : N ≤ 16384:=by omega
   have hwl : (m'.gX y).w.length = m.w.length:=by rw [gX_w]; exact hw
   by_cases hy0 : y = 0
   ·rw [if_pos hy0] at ht
    have hy : (y == 0) = true:=by simpa using hy0
    rw [← ht] at hS
    cases l with
    | nil =>
     simp only [dscR,spec_ok] at hS
     simp only [rSl,rLS]
     refine run_sound (Tab.ok_Γ _) 100 _ _ _ _ ?_
     simp (maxSteps:=9999999) only [EV0,zx,zw,zv,zu,zq,zp,zj,zk,zg,leT,zZ,rvC,zY,zX,zW,zV,↓zU,↓zQ,reduceCtorEq,yz,yy,yY,yx,yw,yv,yu,yq,yp,yX,yj,yk,yg,yW,yV,yU,yZ,yQ,xz,TDr,hy,bne]
     refine fin_of (v:=.tup [.s .ns, .s (.i .i64 0)]) (ls:=[]) (h:=setM h a b m') rfl ?_ ?_
     ·exact Wk.keep 0 rfl rfl (by simp (maxSteps:=9999999) only [EV0,zx,zw,zv,zu,zq,zp,zj,zk,zg,leT,zZ,rvC,zY,zX,zW,zV,↓zU,↓zQ,reduceCtorEq,yz,yy,yY,yx,yw,yv,yu,yq,yp,yX,yj,yk,yg,yW,yV,yU,yZ,yQ,xz]) (by rfl) (by rfl)
     ·simp (maxSteps:=9999999) only [EV0,zx,zw,zv,zu,zq,zp,zj,zk,zg,leT,zZ,rvC,zY,zX,zW,zV,↓zU,↓zQ,reduceCtorEq,yz,yy,yY,yx,yw,yv,yu,yq,yp,yX,yj,yk,yg,yW,yV,yU,yZ,yQ,xz]
      exact hS
    | cons y l' =>
     simp only [dscR,spec_all] at hS
     obtain ⟨B,hB⟩ : ∃ B,intsB (y :: l') = B:=⟨_,rfl⟩
     obtain ⟨b1,b2,b3,b4,b5,b6⟩:=intsB_is (y :: l')
     rw [hB] at b1 b2 b3 b4 b5 b6 hS
     have hb3 : ∀ a b,B.all (S.val a b) = true:=fun u v => by have:=b3 u v; simpa only [vals] using this
     simp only [rSl,rLS,hB,List.cons_append,List.nil_append]
     refine run_sound (Tab.ok_Γ _) 100 _ _ _ _ ?_
     simp (maxSteps:=9999999) only [EV0,zx,zw,zv,zu,zq,zp,zj,zk,zg,leT,zZ,rvC,zY,zX,zW,zV,↓zU,↓zQ,reduceCtorEq,yz,yy,yY,yx,yw,yv,yu,yq,yp,yX,yj,yk,yg,yW,yV,yU,yZ,yQ,xz,TDr,hy,bne]
     have hcq:=hcm m'
     have hnq : h.length ≤ (setM h a b m').length:=Nat.le_of_eq (hlm _).symm
     refine fin_of (v:=.tup [.s (.sl (.l 0) 0 (l'.length + 1) c), .s (.i .i64 0)]) (ls:=[⟨.rw,B,c⟩]) (h:=setM h a b m') rfl ?_ ?_
     ·refine Wk.sel [0] (by decide) hnq ?_ ?_ ?_ ?_ hcq (clean_pick hcq _)
      ·simp (maxSteps:=9999999) only [EV0,zx,zw,zv,zu,zq,zp,zj,zk,zg,leT,zZ,rvC,zY,zX,zW,zV,↓zU,↓zQ,reduceCtorEq,yz,yy,yY,yx,yw,yv,yu,yq,yp,yX,yj,yk,yg,yW,yV,yU,yZ,yQ,xz,List.nil_append,Blk.ren,V.ren,C.ren,S_ren,wc_ren,R.pick_g,R.pick_0,R.pick_s,List.map_append,wc_cons,wc_snoc,wc_nil,hb3,b5,result]
      ·simp (maxSteps:=9999999) only [EV0,zx,zw,zv,zu,zq,zp,zj,zk,zg,leT,zZ,rvC,zY,zX,zW,zV,↓zU,↓zQ,reduceCtorEq,yz,yy,yY,yx,yw,yv,yu,yq,yp,yX,yj,yk,yg,yW,yV,yU,yZ,yQ,xz,List.nil_append,Blk.ren,V.ren,C.ren,S_ren,wc_ren,R.pick_g,R.pick_0,R.pick_s,hb3,b5,result]
      ·simp (maxSteps:=9999999) only [EV0,zx,zw,zv,zu,zq,zp,zj,zk,zg,leT,zZ,rvC,zY,zX,zW,zV,↓zU,↓zQ,reduceCtorEq,yz,yy,yY,yx,yw,yv,yu,yq,yp,yX,yj,yk,yg,yW,yV,yU,yZ,yQ,xz,List.nil_append,app_len,nlt0,nltn,reduceLT,Nat.le_add_right,hb3,b5,result]
      ·simp (maxSteps:=9999999) only [EV0,zx,zw,zv,zu,zq,zp,zj,zk,zg,leT,zZ,rvC,zY,zX,zW,zV,↓zU,↓zQ,reduceCtorEq,yz,yy,yY,yx,yw,yv,yu,yq,yp,yX,yj,yk,yg,yW,yV,yU,yZ,yQ,xz,List.nil_append,app_len,nlt0,nltn,reduceLT,Nat.le_add_right,vals_cons,vals_nil,wc_val,wc_vals,hb3,b5,result]
     ·simp (maxSteps:=9999999) only [EV0,zx,zw,zv,zu,zq,zp,zj,zk,zg,leT,zZ,rvC,zY,zX,zW,zV,↓zU,↓zQ,reduceCtorEq,yz,yy,yY,yx,yw,yv,yu,yq,yp,yX,yj,yk,yg,yW,yV,yU,yZ,yQ,xz]
      refine ⟨[0],by simp,rfl, ?_⟩
      simp only [getAll,List.getElem?_cons_zero]
      refine ⟨?_, ?_⟩
      ·have hk:=intsB_kept [0] (y :: l')
       rw [hB] at hk
       simp only [List.all_cons,List.all_nil,hk,decide_true,Bool.and_true]
      ·refine cast ?_ (hS c (by simpa using hlc))
       simp only [V.ren,C.ren,S.ren,R.prom,List.map_cons,List.map_nil,Blk.ren,b5,spec_ok,hlm,List.idxOf,List.findIdx,List.findIdx.go,beq_self_eq_true,cond_true,Nat.add_zero,setM_len]
   ·rw [if_neg hy0] at ht
    have hy : (y == 0) = false:=by simpa using hy0
    obtain ⟨⟨⟨d0,d1,d2,d3,d4,d5,d6,d7,d8,d9,d10⟩,p1,q1,r1⟩,hs1⟩ : ∃ s,m'.gV y = s:=⟨_,rfl⟩
    rw [hs1] at ht
    simp only at ht
    by_cases hf : m'.fE y = 0
    ·by_cases hNN : l.length ≤ N
     ·rw [if_pos ⟨hf,hNN⟩] at ht
      have hgt : ¬ ((N : Int) < (l.length : Int)):=by omega
      rw [if_neg (show ¬ r1 ≤ -1 by have:=gV_dep m' y; rw [hs1] at this; exact this)] at ht
      have hcq:=hcm (m'.gX y)
      have hnq : h.length ≤ (setM h a b (m'.gX y)).length:=Nat.le_of_eq (hlm _).symm
      have hal1:=hal (m'.gX y)
      cases l with
      | nil =>
       have hgt0 : ¬ ((N : Int) < 0):=by omega
       simp only [rSl,rLS]
       refine run_sound (Tab.ok_Γ _) 100 _ _ _ _ ?_
       simp (maxSteps:=9999999) only [EV0,zx,zw,zv,zu,zq,zp,zj,zk,zg,leT,zZ,rvC,zY,zX,zW,zV,↓zU,↓zQ,reduceCtorEq,yz,yy,yY,yx,yw,yv,yu,yq,yp,yX,yj,yk,yg,yW,yV,yU,yZ,yQ,xz,TDr,fullG,memF_set H,setM_fun H,fullM,ha1,MB,hs1,hf,hy,Slot.cl,Cap.cl,bne,hq,hwl,put,fillP,sub,EVt,hgt0]
       intro c1 hle1
       refine IH ([y],c1,q1,m'.gX y) _ (by simp only [List.length_cons,List.length_nil] at hk hkk ⊢; omega) ⟨by simp,by simpa using hle1,hwl, ?_⟩ ?_
       ·simp only [List.length_cons,List.length_nil] at hkk ⊢
        rw [show N + 2 - (0 + 1) = k by omega]
        exact ht
       ·simp only [rSl,rLS,intsB,List.map_cons,List.map_nil,List.length_nil,Nat.zero_add,Nat.mul_one,List.cons_append,List.nil_append,Slot.cl,Cap.cl]
        refine Wk.sel [2] (by decide) hnq ?_ ?_ ?_ ?_ hcq (clean_pick hcq _)
        ·simp (maxSteps:=9999999) only [EV0,zx,zw,zv,zu,zq,zp,zj,zk,zg,leT,zZ,rvC,zY,zX,zW,zV,↓zU,↓zQ,reduceCtorEq,yz,yy,yY,yx,yw,yv,yu,yq,yp,yX,yj,yk,yg,yW,yV,yU,yZ,yQ,xz,List.nil_append,Blk.ren,V.ren,C.ren,S_ren,wc_ren,R.pick_g,R.pick_0,R.pick_s,List.map_append,wc_cons,wc_snoc,wc_nil,Nat.mul_one,hal1]
        ·simp (maxSteps:=9999999) only [EV0,zx,zw,zv,zu,zq,zp,zj,zk,zg,leT,zZ,rvC,zY,zX,zW,zV,↓zU,↓zQ,reduceCtorEq,yz,yy,yY,yx,yw,yv,yu,yq,yp,yX,yj,yk,yg,yW,yV,yU,yZ,yQ,xz,List.nil_append,Blk.ren,V.ren,C.ren,S_ren,wc_ren,R.pick_g,R.pick_0,R.pick_s,Nat.mul_one,hal1]
        ·simp (maxSteps:=9999999) only [EV0,zx,zw,zv,zu,zq,zp,zj,zk,zg,leT,zZ,rvC,zY,zX,zW,zV,↓zU,↓zQ,reduceCtorEq,yz,yy,yY,yx,yw,yv,yu,yq,yp,yX,yj,yk,yg,yW,yV,yU,yZ,yQ,xz,List.nil_append,app_len,nlt0,nltn,reduceLT,Nat.le_add_right,Nat.mul_one,hal1]
        ·simp (maxSteps:=9999999) only [EV0,zx,zw,zv,zu,zq,zp,zj,zk,zg,leT,zZ,rvC,zY,zX,zW,zV,↓zU,↓zQ,reduceCtorEq,yz,yy,yY,yx,yw,yv,yu,yq,yp,yX,yj,yk,yg,yW,yV,yU,yZ,yQ,xz,List.nil_append,app_len,nlt0,nltn,reduceLT,Nat.le_add_right,vals_cons,vals_nil,wc_val,wc_vals,Nat.mul_one,hal1]
      | cons z l' =>
       obtain ⟨B,hB⟩ : ∃ B,intsB (z :: l') = B:=⟨_,rfl⟩
       obtain ⟨b1,b2,b3,b4,b5,b6⟩:=intsB_is (z :: l')
       rw [hB] at b1 b2 b3 b4 b5 b6
       have hb3 : ∀ a b,B.all (S.val a b) = true:=fun u v => by have:=b3 u v; simpa only [vals] using this
       have hgt0:=hgt
       simp only [List.length_cons] at hgt0
       simp only [rSl,rLS,hB,List.cons_append,List.nil_append]
       refine run_sound (Tab.ok_Γ _) 100 _ _ _ _ ?_
       simp (maxSteps:=9999999) only [EV0,zx,zw,zv,zu,zq,zp,zj,zk,zg,leT,zZ,rvC,zY,zX,zW,zV,↓zU,↓zQ,reduceCtorEq,yz,yy,yY,yx,yw,yv,yu,yq,yp,yX,yj,yk,yg,yW,yV,yU,yZ,yQ,xz,TDr,fullG,memF_set H,setM_fun H,fullM,ha1,MB,hs1,hf,hy,Slot.cl,Cap.cl,bne,hq,hwl,put,fillP,sub,EVt,hgt0,b1,b2,b3,b4]
       refine ⟨by simp only [List.length_cons] at hk; omega,fun c1 hle1 => ?_⟩
       refine IH (z :: l' ++ [y],c1,q1,m'.gX y) _ (by simp only [List.length_append,List.length_cons,List.length_nil] at hk hkk ⊢; omega) ⟨by simp only [List.length_append,List.length_cons,List.length_nil] at hNN ⊢; omega,by simp only [List.length_append,List.length_cons,List.length_nil] at hle1 ⊢; omega,hwl, ?_⟩ ?_
       ·simp only [List.length_append,List.length_cons,List.length_nil] at hkk ⊢
        rw [show N + 2 - (l'.length + 1 + (0 + 1)) = k by omega]
        exact ht
       ·have hB2 : intsB (z :: (l' ++ [y])) = B ++ [.i .i64 y]:=by rw [← hB,intsB_app]; rfl
        have hl2 : (l' ++ [y]).length + 1 = l'.length + 1 + 1:=by simp
        simp only [rSl,rLS,List.cons_append,List.nil_append,hB2,hl2,Nat.mul_one,Slot.cl,Cap.cl]
        refine Wk.sel [0] (by decide) hnq ?_ ?_ ?_ ?_ hcq (clean_pick hcq _)
        ·simp (maxSteps:=9999999) only [EV0,zx,zw,zv,zu,zq,zp,zj,zk,zg,leT,zZ,rvC,zY,zX,zW,zV,↓zU,↓zQ,reduceCtorEq,yz,yy,yY,yx,yw,yv,yu,yq,yp,yX,yj,yk,yg,yW,yV,yU,yZ,yQ,xz,List.nil_append,Blk.ren,V.ren,C.ren,S_ren,wc_ren,R.pick_g,R.pick_0,R.pick_s,List.map_append,wc_cons,wc_snoc,wc_nil,Nat.mul_one,hal1,hb3,b5,List.map_append,List.map_cons,List.map_nil,vals,List.all_append]
        ·simp (maxSteps:=9999999) only [EV0,zx,zw,zv,zu,zq,zp,zj,zk,zg,leT,zZ,rvC,zY,zX,zW,zV,↓zU,↓zQ,reduceCtorEq,yz,yy,yY,yx,yw,yv,yu,yq,yp,yX,yj,yk,yg,yW,yV,yU,yZ,yQ,xz,List.nil_append,Blk.ren,V.ren,C.ren,S_ren,wc_ren,R.pick_g,R.pick_0,R.pick_s,Nat.mul_one,hal1,hb3,b5,List.map_append,List.map_cons,List.map_nil,vals,List.all_append]
        ·simp (maxSteps:=9999999) only [EV0,zx,zw,zv,zu,zq,zp,zj,zk,zg,leT,zZ,rvC,zY,zX,zW,zV,↓zU,↓zQ,reduceCtorEq,yz,yy,yY,yx,yw,yv,yu,yq,yp,yX,yj,yk,yg,yW,yV,yU,yZ,yQ,xz,List.nil_append,app_len,nlt0,nltn,reduceLT,Nat.le_add_right,Nat.mul_one,hal1,hb3,b5,List.map_append,List.map_cons,List.map_nil,vals,List.all_append]
        ·simp (maxSteps:=9999999) only [EV0,zx,zw,zv,zu,zq,zp,zj,zk,zg,leT,zZ,rvC,zY,zX,zW,zV,↓zU,↓zQ,reduceCtorEq,yz,yy,yY,yx,yw,yv,yu,yq,yp,yX,yj,yk,yg,yW,yV,yU,yZ,yQ,xz,List.nil_append,app_len,nlt0,nltn,reduceLT,Nat.le_add_right,vals_cons,vals_nil,wc_val,wc_vals,Nat.mul_one,hal1,hb3,b5,List.map_append,List.map_cons,List.map_nil,vals,List.all_append]
     ·rw [if_neg fun h => hNN h.2] at ht
      have hgt : (N : Int) < (l.length : Int):=by omega
      rw [← ht] at hS
      simp only [dscR,spec_ok] at hS
      cases l with
      | nil =>
       have hgt0 : (N : Int) < 0:=by simpa using hgt
       simp only [rSl,rLS]
       refine run_sound (Tab.ok_Γ _) 100 _ _ _ _ ?_
       simp (maxSteps:=9999999) only [EV0,zx,zw,zv,zu,zq,zp,zj,zk,zg,leT,zZ,rvC,zY,zX,zW,zV,↓zU,↓zQ,reduceCtorEq,yz,yy,yY,yx,yw,yv,yu,yq,yp,yX,yj,yk,yg,yW,yV,yU,yZ,yQ,xz,TDr,fullG,memF_set H,setM_fun H,fullM,ha1,MB,hs1,hf,hy,Slot.cl,Cap.cl,bne,hq,hwl,put,fillP,sub,EVt,hgt0,List.length_nil]
       refine fin_of (v:=.tup [.s .ns, .s (.i .i64 110)]) (ls:=[]) (h:=setM h a b (m'.gX y)) rfl ?_ ?_
       ·exact Wk.keep 0 rfl rfl (by simp (maxSteps:=9999999) only [EV0,zx,zw,zv,zu,zq,zp,zj,zk,zg,leT,zZ,rvC,zY,zX,zW,zV,↓zU,↓zQ,reduceCtorEq,yz,yy,yY,yx,yw,yv,yu,yq,yp,yX,yj,yk,yg,yW,yV,yU,yZ,yQ,xz]) (by rfl) (by rfl)
       ·simp (maxSteps:=9999999) only [EV0,zx,zw,zv,zu,zq,zp,zj,zk,zg,leT,zZ,rvC,zY,zX,zW,zV,↓zU,↓zQ,reduceCtorEq,yz,yy,yY,yx,yw,yv,yu,yq,yp,yX,yj,yk,yg,yW,yV,yU,yZ,yQ,xz]
        exact hS
      | cons z l' =>
       have hgt0:=hgt
       simp only [List.length_cons] at hgt0
       simp only [rSl,rLS,List.cons_append,List.nil_append]
       refine run_sound (Tab.ok_Γ _) 100 _ _ _ _ ?_
       simp (maxSteps:=9999999) only [EV0,zx,zw,zv,zu,zq,zp,zj,zk,zg,leT,zZ,rvC,zY,zX,zW,zV,↓zU,↓zQ,reduceCtorEq,yz,yy,yY,yx,yw,yv,yu,yq,yp,yX,yj,yk,yg,yW,yV,yU,yZ,yQ,xz,TDr,fullG,memF_set H,setM_fun H,fullM,ha1,MB,hs1,hf,hy,Slot.cl,Cap.cl,bne,hq,hwl,put,fillP,sub,EVt,hgt0,List.length_cons]
       refine fin_of (v:=.tup [.s .ns, .s (.i .i64 110)]) (ls:=[]) (h:=setM h a b (m'.gX y)) rfl ?_ ?_
       ·exact Wk.keep 0 rfl rfl (by simp (maxSteps:=9999999) only [EV0,zx,zw,zv,zu,zq,zp,zj,zk,zg,leT,zZ,rvC,zY,zX,zW,zV,↓zU,↓zQ,reduceCtorEq,yz,yy,yY,yx,yw,yv,yu,yq,yp,yX,yj,yk,yg,yW,yV,yU,yZ,yQ,xz]) (by rfl) (by rfl)
       ·simp (maxSteps:=9999999) only [EV0,zx,zw,zv,zu,zq,zp,zj,zk,zg,leT,zZ,rvC,zY,zX,zW,zV,↓zU,↓zQ,reduceCtorEq,yz,yy,yY,yx,yw,yv,yu,yq,yp,yX,yj,yk,yg,yW,yV,yU,yZ,yQ,xz]
        exact hS
    ·rw [if_neg fun h => hf h.1] at ht
     have hf' : (m'.fE y == 0) = false:=by simpa using hf
     rw [← ht] at hS
     simp only [dscR,spec_ok] at hS
     cases l with
     | nil =>
      simp only [rSl,rLS]
      refine run_sound (Tab.ok_Γ _) 100 _ _ _ _ ?_
      simp (maxSteps:=9999999) only [EV0,zx,zw,zv,zu,zq,zp,zj,zk,zg,leT,zZ,rvC,zY,zX,zW,zV,↓zU,↓zQ,reduceCtorEq,yz,yy,yY,yx,yw,yv,yu,yq,yp,yX,yj,yk,yg,yW,yV,yU,yZ,yQ,xz,TDr,fullG,memF_set H,setM_fun H,fullM,ha1,MB,hs1,hf,hy,Slot.cl,Cap.cl,bne,hq,hwl,put,fillP,sub,EVt,hf',List.length_nil]
      refine fin_of (v:=.tup [.s .ns, .s (.i .i64 110)]) (ls:=[]) (h:=setM h a b (m'.gX y)) rfl ?_ ?_
      ·exact Wk.keep 0 rfl rfl (by simp (maxSteps:=9999999) only [EV0,zx,zw,zv,zu,zq,zp,zj,zk,zg,leT,zZ,rvC,zY,zX,zW,zV,↓zU,↓zQ,reduceCtorEq,yz,yy,yY,yx,yw,yv,yu,yq,yp,yX,yj,yk,yg,yW,yV,yU,yZ,yQ,xz]) (by rfl) (by rfl)
      ·simp (maxSteps:=9999999) only [EV0,zx,zw,zv,zu,zq,zp,zj,zk,zg,leT,zZ,rvC,zY,zX,zW,zV,↓zU,↓zQ,reduceCtorEq,yz,yy,yY,yx,yw,yv,yu,yq,yp,yX,yj,yk,yg,yW,yV,yU,yZ,yQ,xz]
       exact hS
     | cons z l' =>
      simp only [rSl,rLS,List.cons_append,List.nil_append]
      refine run_sound (Tab.ok_Γ _) 100 _ _ _ _ ?_
      simp (maxSteps:=9999999) only [EV0,zx,zw,zv,zu,zq,zp,zj,zk,zg,leT,zZ,rvC,zY,zX,zW,zV,↓zU,↓zQ,reduceCtorEq,yz,yy,yY,yx,yw,yv,yu,yq,yp,yX,yj,yk,yg,yW,yV,yU,yZ,yQ,xz,TDr,fullG,memF_set H,setM_fun H,fullM,ha1,MB,hs1,hf,hy,Slot.cl,Cap.cl,bne,hq,hwl,put,fillP,sub,EVt,hf',List.length_cons]
      refine fin_of (v:=.tup [.s .ns, .s (.i .i64 110)]) (ls:=[]) (h:=setM h a b (m'.gX y)) rfl ?_ ?_
      ·exact Wk.keep 0 rfl rfl (by simp (maxSteps:=9999999) only [EV0,zx,zw,zv,zu,zq,zp,zj,zk,zg,leT,zZ,rvC,zY,zX,zW,zV,↓zU,↓zQ,reduceCtorEq,yz,yy,yY,yx,yw,yv,yu,yq,yp,yX,yj,yk,yg,yW,yV,yU,yZ,yQ,xz]) (by rfl) (by rfl)
      ·simp (maxSteps:=9999999) only [EV0,zx,zw,zv,zu,zq,zp,zj,zk,zg,leT,zZ,rvC,zY,zX,zW,zV,↓zU,↓zQ,reduceCtorEq,yz,yy,yY,yx,yw,yv,yu,yq,yp,yX,yj,yk,yg,yW,yV,yU,yZ,yQ,xz]
       exact hS
 ·exact hS.elim
end Go.Proofs.Ytcdfofeolgbnbaa

/- The document's Next,Last,Below,Remove. -/
namespace Go.Proofs.Ytcdfofeolgbnbaa
open Go.D
set_option linter.all false
set_option maxRecDepth 100000
set_option maxHeartbeats 8000000

theorem rdW_len {d : Int} {N : Nat} : ∀ (k : Nat) (x : Int) (m : M) (l : List Int) {l' : List Int} {m' : M},rdW d N k x m l = (some l',m') → l'.length ≤ l.length + k
 | 0,x,m,l,l',m',h => by simp [rdW] at h
 | k + 1,x,m,l,l',m',h => by
  simp only [rdW] at h
  split at h
  ·simp only [Prod.mk.injEq,Option.some.injEq] at h; rw [← h.1]; omega
  ·split at h
   ·split at h
    ·simp only [Prod.mk.injEq,Option.some.injEq] at h; rw [← h.1]; omega
    ·have:=rdW_len k _ _ _ h
     simp only [List.length_append,List.length_cons,List.length_nil] at this
     omega
   ·simp at h
def M.rdsO (m : M) (x : Int) : Option (List Int) × M:=if m.fE x = 0 then rdW (m.gV x).depth (m.w.length / 4) (m.w.length / 4 + 2) (m.gV x).next (m.gX x) [] else (none,m.gX x)
def M.rdsL (m : M) (x : Int) : List Int:=(m.rdsO x).1.getD []
theorem in_take {x : Int} {l : List Int} {i : Nat} (hi : i < l.length) (e : nth 0 l i = x) : x ∈ l:=by rw [← e,nth_eq hi]; exact List.getElem_mem hi

def M.rdecX : M → List Int → M
 | m,[] => m
 | m,x :: l => (if m.gE x = 0 then (m.gX x).pX x (depC (m.gV x)) else m.gX x).rdecX l
def M.rremT (m : M) (x : Int) (s : Slot) : M:=(if s.prev = 0 then (if m.fst = x then (m.fstX.pX x slotZ).lkX s.prev s.next else m.fstX.pX x slotZ) else (m.pX x slotZ).lkX s.prev s.next).bkX s.prev s.next
def M.rrem (m : M) (x : Int) : Int × M:=if m.fE x = 0 then (match rdW (m.gV x).depth (m.w.length / 4) (m.w.length / 4 + 2) (m.gV x).next ((m.gX x).gX x) [] with
 | (none,m2) => (110,m2)
 | (some l,m2) => (0,(m2.rdecX l).rremT x (m.gV x))) else (m.fE x,m.gX x)
end Go.Proofs.Ytcdfofeolgbnbaa

/- Law 11: a handler's cap,lists of numbers; both memories. -/
namespace Go.Proofs.Ytcdfofeolgbnbaa
open Go.D
open Nat (reduceAdd reducePow reduceMul reduceSub reduceLeDiff reduceLT reduceEqDiff)
open Int (reduceNeg reduceLE reduceEq reduceNe reduceToNat)
open Go.D renaming istep → zx,pickR → zw,bin1R → zv,un1R → zu,eqS → zq,eq1 → zp,cmpS → zj,cmp1 → zk,isNil → zg,shows → zZ,result → zY,q_cond_t → zU,q_cond_f → zQ
open List renaming set → zX,replicate → zW
open Option renaming map → zV
open Nat renaming reduceAdd → yz,reducePow → yy,reduceMul → yx,reduceSub → yw,reduceLeDiff → yv,reduceLT → yu,reduceEqDiff → yq
open Int renaming reduceNeg → yp,reduceLE → yj,reduceEq → yk,reduceNe → yg,reduceToNat → yZ,reducePow → yY,reduceLT → yX,reduceAdd → yW,reduceSub → yV,reduceMul → yU,reduceBEq → yQ,reduceBNe → xz
set_option linter.all false
set_option maxRecDepth 100000
set_option maxHeartbeats 8000000

theorem eq_of_nthI {v w : List Int} (hl : v.length = w.length) (h : ∀ i,i < v.length → nth 0 v i = nth 0 w i) : v = w :=
 List.ext_getElem hl fun i h1 h2 => by have:=h i h1; rwa [nth_eq h1,nth_eq h2] at this
noncomputable def intsG : List V → List Blk → Res
 | [.s x, .s y],h => match arrOf In.c h x,arrOf In.c h y with
  | some v,some w => .ob (v.length ≤ 8796093022208 ∧ w.length ≤ 8796093022208) (.ok (.s (.b (decide (v = w)))) [] h)
  | _,_ => .bad
 | _,_ => .bad
theorem intsG_spec {args : List V} {h : List Blk} {K : V → List Blk → Prop} (hS : (intsG args h).spec K) : ∃ x y v w,args = [.s x, .s y] ∧ IsArr In.c h x v ∧ IsArr In.c h y w ∧ v.length ≤ 8796093022208 ∧ w.length ≤ 8796093022208 ∧ K (.s (.b (decide (v = w)))) h:=by
 unfold intsG at hS
 split at hS
 ·split at hS
  ·rename_i e1 e2
   exact ⟨_,_,_,_,rfl,arrOf_some e1,arrOf_some e2,hS.1.1,hS.1.2,hS.2⟩
  ·exact hS.elim
 ·exact hS.elim
theorem ints_snd : Snd Try.prog 30 (FSpec.of intsG):=snd_run (noT_snd _) mixed Try.func30 dc30 100 fun args h K hc hS => by
 obtain ⟨x,y,v,w,rfl,Hx,Hy,lx,ly,hK⟩:=intsG_spec hS
 clear hS
 have hlx:=fun ls h' => Hx.sl.len (ls:=ls) (h:=h')
 have hly:=fun ls h' => Hy.sl.len (ls:=ls) (h:=h')
 by_cases hn : v.length = w.length
 ·have e2 : ((v.length : Int) != (w.length : Int)) = false:=by rw [hn]; simp
  simp (maxSteps:=9999999) only [EV0,zx,zw,zv,zu,zq,zp,zj,zk,zg,leT,zZ,rvC,zY,zX,zW,zV,↓zU,↓zQ,reduceCtorEq,yz,yy,yY,yx,yw,yv,yu,yq,yp,yX,yj,yk,yg,yW,yV,yU,yZ,yQ,xz,df30,↓hlx,↓hly,e2]
  refine loop_rule (α:=Nat) [4,5,11,12,13,14,15,16,17,18,19,20,21,22,23,24,25] (fun q => [(5, .s (.i .i64 (q : Int)))]) (fun _ => []) (fun q => h) (fun q => q ≤ v.length ∧ ∀ i,i < q → nth 0 v i = nth 0 w i) (fun q => v.length - q) 0 ⟨Nat.zero_le _,fun i hi => absurd hi (Nat.not_lt_zero _)⟩ ?_ ?_
  ·refine Wk.less ?_
   simp (maxSteps:=9999999) only [EV0,zx,zw,zv,zu,zq,zp,zj,zk,zg,leT,zZ,rvC,zY,zX,zW,zV,↓zU,↓zQ,reduceCtorEq,yz,yy,yY,yx,yw,yv,yu,yq,yp,yX,yj,yk,yg,yW,yV,yU,yZ,yQ,xz,Int.natCast_zero]
  ·rintro X q ⟨hq,hpre⟩ IH
   rcases Nat.lt_or_ge q v.length with h1 | h1
   ·have h2 : q < w.length:=by omega
    obtain ⟨j,c,st,room,rfl,hj,hd⟩:=Hx.at h1
    obtain ⟨j2,c2,st2,room2,rfl,hj2,hd2⟩:=Hy.at h2
    rw [arr_ints] at hj hj2
    obtain ⟨d1,d2,d3,d4⟩:=idx h1 (by omega)
    have d5 : (q : Int) < w.length:=by omega
    have g1:=intsB_get h1
    have g2:=intsB_get h2
    by_cases hx : nth 0 v q = nth 0 w q
    ·have f1 : (nth 0 v q != nth 0 w q) = false:=by simpa using hx
     refine run_sound (Tab.ok_Γ _) 100 _ _ _ _ ?_
     simp (maxSteps:=9999999) only [EV0,zx,zw,zv,zu,zq,zp,zj,zk,zg,leT,zZ,rvC,zY,zX,zW,zV,↓zU,↓zQ,reduceCtorEq,yz,yy,yY,yx,yw,yv,yu,yq,yp,yX,yj,yk,yg,yW,yV,yU,yZ,yQ,xz,d1,d2,d3,d4,d5,g1,g2,hj,hj2,hd,hd2,f1,hx,Int.toNat_natCast]
     exact IH (q + 1) _ (by omega) ⟨by omega,fun i hi => by
      rcases Nat.lt_or_ge i q with h2 | h2
      ·exact hpre i h2
      ·have : i = q:=by omega
       subst this; exact hx⟩ (Wk.same rfl rfl (by simp (maxSteps:=9999999) only [EV0,zx,zw,zv,zu,zq,zp,zj,zk,zg,leT,zZ,rvC,zY,zX,zW,zV,↓zU,↓zQ,reduceCtorEq,yz,yy,yY,yx,yw,yv,yu,yq,yp,yX,yj,yk,yg,yW,yV,yU,yZ,yQ,xz]))
    ·have f1 : (nth 0 v q != nth 0 w q) = true:=by simpa using hx
     have e1 : ¬ v = w:=take_ne h1 h2 hx
     simp only [e1,decide_false] at hK
     refine run_sound (Tab.ok_Γ _) 100 _ _ _ _ ?_
     simp (maxSteps:=9999999) only [EV0,zx,zw,zv,zu,zq,zp,zj,zk,zg,leT,zZ,rvC,zY,zX,zW,zV,↓zU,↓zQ,reduceCtorEq,yz,yy,yY,yx,yw,yv,yu,yq,yp,yX,yj,yk,yg,yW,yV,yU,yZ,yQ,xz,d1,d2,d3,d4,d5,g1,g2,hj,hj2,hd,hd2,f1,hx,Int.toNat_natCast]
     exact hK
   ·have : q = v.length:=by omega
    subst this
    have e1:=eq_of_nthI hn hpre
    simp only [e1,decide_true] at hK
    refine run_sound (Tab.ok_Γ _) 100 _ _ _ _ ?_
    simp (maxSteps:=9999999) only [EV0,zx,zw,zv,zu,zq,zp,zj,zk,zg,leT,zZ,rvC,zY,zX,zW,zV,↓zU,↓zQ,reduceCtorEq,yz,yy,yY,yx,yw,yv,yu,yq,yp,yX,yj,yk,yg,yW,yV,yU,yZ,yQ,xz,↓hlx,Int.lt_irrefl]
    exact hK
 ·have e1 : ¬ (v = w):=fun e => hn (by rw [e])
  have e2 : ((v.length : Int) != (w.length : Int)) = true:=by rw [bne_iff_ne]; omega
  have e3 : ¬ ((v.length : Int) = (w.length : Int)):=by omega
  simp only [e1,decide_false] at hK
  simp (maxSteps:=9999999) only [EV0,zx,zw,zv,zu,zq,zp,zj,zk,zg,leT,zZ,rvC,zY,zX,zW,zV,↓zU,↓zQ,reduceCtorEq,yz,yy,yY,yx,yw,yv,yu,yq,yp,yX,yj,yk,yg,yW,yV,yU,yZ,yQ,xz,df30,↓hlx,↓hly,e2,e3]
  exact hK
theorem has_snd : Snd Try.prog 51 (FSpec.of containsG):=snd_run (noT_snd _) mixed Try.func51 dc51 100 fun args h K hc hS => by
 obtain ⟨s,x,l,rfl,Hs,hl,hK⟩:=containsG_spec hS
 clear hS
 have hlen:=fun ls h' => Hs.sl.len (ls:=ls) (h:=h')
 simp (maxSteps:=9999999) only [EV0,zx,zw,zv,zu,zq,zp,zj,zk,zg,leT,zZ,rvC,zY,zX,zW,zV,↓zU,↓zQ,reduceCtorEq,yz,yy,yY,yx,yw,yv,yu,yq,yp,yX,yj,yk,yg,yW,yV,yU,yZ,yQ,xz,df51,↓hlen]
 refine loop_rule (α:=Nat) [4,5,6,7,8,9,10,11,12,13,14,15,16,17] (fun q => [(5, .s (.i .i64 (q : Int)))]) (fun _ => []) (fun _ => h) (fun q => q ≤ l.length ∧ x ∉ l.take q) (fun q => l.length - q) 0 ⟨Nat.zero_le _,by simp⟩ ?_ ?_
 ·refine Wk.less ?_
  simp (maxSteps:=9999999) only [EV0,zx,zw,zv,zu,zq,zp,zj,zk,zg,leT,zZ,rvC,zY,zX,zW,zV,↓zU,↓zQ,reduceCtorEq,yz,yy,yY,yx,yw,yv,yu,yq,yp,yX,yj,yk,yg,yW,yV,yU,yZ,yQ,xz,Int.natCast_zero]
 ·rintro X q ⟨hq,hn⟩ IH
  rcases Nat.lt_or_ge q l.length with h1 | h1
  ·obtain ⟨j,c',st,room,rfl,hj,hd⟩:=Hs.at h1
   obtain ⟨d1,d2,d3,d4⟩:=idx h1 (by omega)
   rw [arr_ints] at hj
   have g1:=intsB_get h1
   by_cases e : x = nth 0 l q
   ·have e1 : decide (x ∈ l) = true:=by simpa using in_take h1 e.symm
    have e2 : (nth 0 l q == x) = true:=by rw [← e]; simp
    rw [e1] at hK
    refine run_sound (Tab.ok_Γ _) 100 _ _ _ _ ?_
    simp (maxSteps:=9999999) only [EV0,zx,zw,zv,zu,zq,zp,zj,zk,zg,leT,zZ,rvC,zY,zX,zW,zV,↓zU,↓zQ,reduceCtorEq,yz,yy,yY,yx,yw,yv,yu,yq,yp,yX,yj,yk,yg,yW,yV,yU,yZ,yQ,xz,d1,d2,d3,d4,g1,hj,hd,e2,Int.toNat_natCast]
    exact hK
   ·have e2 : (nth 0 l q == x) = false:=by simpa using fun h => e h.symm
    refine run_sound (Tab.ok_Γ _) 100 _ _ _ _ ?_
    simp (maxSteps:=9999999) only [EV0,zx,zw,zv,zu,zq,zp,zj,zk,zg,leT,zZ,rvC,zY,zX,zW,zV,↓zU,↓zQ,reduceCtorEq,yz,yy,yY,yx,yw,yv,yu,yq,yp,yX,yj,yk,yg,yW,yV,yU,yZ,yQ,xz,d1,d2,d3,d4,g1,hj,hd,e2,Int.toNat_natCast]
    exact IH (q + 1) _ (by omega) ⟨by omega,not_take h1 hn e⟩ (Wk.same rfl rfl (by simp (maxSteps:=9999999) only [EV0,zx,zw,zv,zu,zq,zp,zj,zk,zg,leT,zZ,rvC,zY,zX,zW,zV,↓zU,↓zQ,reduceCtorEq,yz,yy,yY,yx,yw,yv,yu,yq,yp,yX,yj,yk,yg,yW,yV,yU,yZ,yQ,xz]))
  ·have e0 : q = l.length:=by omega
   subst e0
   rw [List.take_length] at hn
   have e1 : decide (x ∈ l) = false:=by simpa using hn
   rw [e1] at hK
   refine run_sound (Tab.ok_Γ _) 100 _ _ _ _ ?_
   simp (maxSteps:=9999999) only [EV0,zx,zw,zv,zu,zq,zp,zj,zk,zg,leT,zZ,rvC,zY,zX,zW,zV,↓zU,↓zQ,reduceCtorEq,yz,yy,yY,yx,yw,yv,yu,yq,yp,yX,yj,yk,yg,yW,yV,yU,yZ,yQ,xz,↓hlen,Int.lt_irrefl]
   exact hK
def hndV (n : Int) : Cap:=⟨12,0,0,0,0,0,0,0,0,0,if n.tmod 16 < 0 then n.tmod 16 + 16 else n.tmod 16⟩
def hndG : List V → List Blk → Res
 | [.s (.i .i64 n)],h => .ob (-9223372036854775808 ≤ n ∧ n < 9223372036854775808) (.ok (.agg (hndV n).cl) [] h)
 | _,_ => .bad
theorem tmod16 (n : Int) : -16 < n.tmod 16 ∧ n.tmod 16 < 16:=⟨by have:=Int.lt_tmod_of_pos n (b:=16) (by omega); simpa using this,Int.tmod_lt_of_pos n (by omega)⟩
theorem hnd_snd : Snd Try.prog 52 (FSpec.of hndG):=snd_run (noT_snd _) mixed Try.func52 dc52 100 fun args h K hc hS => by
 unfold hndG at hS
 split at hS
 ·rename_i n
  simp only [spec_ob,spec_ok,hndV,Cap.cl] at hS
  obtain ⟨hn,hS⟩:=hS
  obtain ⟨t1,t2⟩:=tmod16 n
  have w0 : IntKind.i64.wrap (n.tmod 16) = n.tmod 16:=by rw [wrap64] <;> omega
  have w1 : IntKind.i64.wrap (n.tmod 16 + 16) = n.tmod 16 + 16:=by rw [wrap64] <;> omega
  by_cases c1 : n.tmod 16 < 0
  ·rw [if_pos c1] at hS
   simp (maxSteps:=9999999) only [EV0,zx,zw,zv,zu,zq,zp,zj,zk,zg,leT,zZ,rvC,zY,zX,zW,zV,↓zU,↓zQ,reduceCtorEq,yz,yy,yY,yx,yw,yv,yu,yq,yp,yX,yj,yk,yg,yW,yV,yU,yZ,yQ,xz,df52,w0,w1,c1,put,fillP,sub,EVt]
   exact hS
  ·rw [if_neg c1] at hS
   simp (maxSteps:=9999999) only [EV0,zx,zw,zv,zu,zq,zp,zj,zk,zg,leT,zZ,rvC,zY,zX,zW,zV,↓zU,↓zQ,reduceCtorEq,yz,yy,yY,yx,yw,yv,yu,yq,yp,yX,yj,yk,yg,yW,yV,yU,yZ,yQ,xz,df52,w0,w1,c1,put,fillP,sub,EVt]
   exact hS
 ·exact hS.elim

/-! ### both memories -/
def bothB (a p : Nat) : Blk:=⟨.rw,[.p (.g a) 0, .p (.g p) 0],2⟩
structure IsB (H : List Blk) (c a b p q : Nat) (m r : M) : Prop where
 hc : H[c]? = some (bothB a p)
 hm : IsMem H a b m
 hr : IsMem H p q r
 d : a ≠ p ∧ a ≠ q ∧ b ≠ p ∧ b ≠ q
def twoH (H : List Blk) (a b p q : Nat) (m r : M) (X : List Blk) : List Blk:=setM (setM H a b m) p q r ++ X
theorem setM_at {h : List Blk} {a b k : Nat} {m : M} (h1 : k ≠ a) (h2 : k ≠ b) : (setM h a b m)[k]? = h[k]?:=by
 simp only [setM]
 rw [List.getElem?_set_ne (Ne.symm h2),List.getElem?_set_ne (Ne.symm h1)]
theorem setM_comm {h : List Blk} {a b p q : Nat} {m r : M} (d : a ≠ p ∧ a ≠ q ∧ b ≠ p ∧ b ≠ q) : setM (setM h a b m) p q r = setM (setM h p q r) a b m:=by
 obtain ⟨d1,d2,d3,d4⟩:=d
 simp only [setM]
 rw [List.set_comm _ _ d3,List.set_comm _ _ d1,List.set_comm _ _ d4,List.set_comm _ _ d2]
theorem IsMem.oth {h : List Blk} {a b p q : Nat} {m m' r : M} (H : IsMem h a b m) (d : a ≠ p ∧ a ≠ q ∧ b ≠ p ∧ b ≠ q) : IsMem (setM h p q r) a b m:=by
 obtain ⟨d1,d2,d3,d4⟩:=d
 exact ⟨H.ne,(setM_at d1 d2).trans H.ha,(setM_at d3 d4).trans H.hb⟩
section
variable {H X : List Blk} {c a b p q : Nat} {m r : M}
theorem IsB.c_ne (I : IsB H c a b p q m r) : c ≠ a ∧ c ≠ b ∧ c ≠ p ∧ c ≠ q:=by
 refine ⟨fun e => ?_,fun e => ?_,fun e => ?_,fun e => ?_⟩
 ·have:=I.hc.symm.trans (e ▸ I.hm.ha); simp [bothB,MB] at this
 ·have:=I.hc.symm.trans (e ▸ I.hm.hb); simp only [bothB,MW,Option.some.injEq,Blk.mk.injEq] at this
  obtain ⟨_,e2,_⟩:=this
  cases hw : m.w with
  | nil => rw [hw] at e2; cases e2
  | cons x l => rw [hw] at e2; simp [wc_cons] at e2
 ·have:=I.hc.symm.trans (e ▸ I.hr.ha); simp [bothB,MB] at this
 ·have:=I.hc.symm.trans (e ▸ I.hr.hb); simp only [bothB,MW,Option.some.injEq,Blk.mk.injEq] at this
  obtain ⟨_,e2,_⟩:=this
  cases hw : r.w with
  | nil => rw [hw] at e2; cases e2
  | cons x l => rw [hw] at e2; simp [wc_cons] at e2
theorem IsB.sym_d (I : IsB H c a b p q m r) : p ≠ a ∧ p ≠ b ∧ q ≠ a ∧ q ≠ b:=⟨Ne.symm I.d.1,Ne.symm I.d.2.2.1,Ne.symm I.d.2.1,Ne.symm I.d.2.2.2⟩
theorem IsB.set (I : IsB H c a b p q m r) (m' r' : M) : IsB (setM (setM H a b m') p q r') c a b p q m' r':=by
 obtain ⟨h1,h2,h3,h4⟩:=I.c_ne
 refine ⟨?_, ?_, ?_,I.d⟩
 ·rw [setM_at h3 h4,setM_at h1 h2]; exact I.hc
 ·exact (I.hm.set m').oth (m':=m') I.d
 ·exact (I.hr.oth (m':=r) (r:=m') I.sym_d).set r'
theorem IsB.app (I : IsB H c a b p q m r) : IsB (H ++ X) c a b p q m r :=
 ⟨by rw [List.getElem?_append_left (List.getElem?_eq_some_iff.1 I.hc).1]; exact I.hc,I.hm.app,I.hr.app,I.d⟩
theorem IsB.two (I : IsB H c a b p q m r) (m' r' : M) (X : List Blk) : IsB (twoH H a b p q m' r' X) c a b p q m' r':=(I.set m' r').app
theorem twoH_len (m r : M) : (twoH H a b p q m r X).length = H.length + X.length:=by simp [twoH,setM_len]
theorem twoH_app (m r : M) (Y : List Blk) : twoH H a b p q m r X ++ Y = twoH H a b p q m r (X ++ Y):=by simp [twoH]
theorem IsB.setA (I : IsB H c a b p q m r) (m' r' m2 : M) (X : List Blk) : setM (twoH H a b p q m' r' X) a b m2 = twoH H a b p q m2 r' X:=by
 unfold twoH
 rw [setM_app (I.set m' r').hm,setM_comm I.d,setM_set I.hm.ne,← setM_comm I.d]
theorem IsB.setP (I : IsB H c a b p q m r) (m' r' r2 : M) (X : List Blk) : setM (twoH H a b p q m' r' X) p q r2 = twoH H a b p q m' r2 X:=by
 unfold twoH
 rw [setM_app (I.set m' r').hr,setM_set I.hr.ne]
theorem IsB.self (I : IsB H c a b p q m r) : twoH H a b p q m r [] = H:=by
 unfold twoH
 rw [setM_self I.hm,setM_self I.hr,List.append_nil]
theorem IsB.fm (I : IsB H c a b p q m r) {f : Nat → M → (M → List Blk) → List V → Res} (m' r' : M) (X : List Blk) (rest : List V) : memF f (.s (.p (.g a) 0) :: rest) (twoH H a b p q m' r' X) = f b m' (fun m2 => twoH H a b p q m2 r' X) rest:=by
 rw [memF_eq (I.two m' r' X).hm,show setM (twoH H a b p q m' r' X) a b = fun m2 => twoH H a b p q m2 r' X from funext fun m2 => I.setA m' r' m2 X]
theorem IsB.fr (I : IsB H c a b p q m r) {f : Nat → M → (M → List Blk) → List V → Res} (m' r' : M) (X : List Blk) (rest : List V) : memF f (.s (.p (.g p) 0) :: rest) (twoH H a b p q m' r' X) = f q r' (fun r2 => twoH H a b p q m' r2 X) rest:=by
 rw [memF_eq (I.two m' r' X).hr,show setM (twoH H a b p q m' r' X) p q = fun r2 => twoH H a b p q m' r2 X from funext fun r2 => I.setP m' r' r2 X]
theorem IsB.at_c (I : IsB H c a b p q m r) (m' r' : M) (X : List Blk) : (twoH H a b p q m' r' X)[c]? = some ⟨.rw,[.p (.g a) 0, .p (.g p) 0],2⟩:=(I.two m' r' X).hc
theorem IsB.at_x (m' r' : M) (Y : Blk) (X : List Blk) : (twoH H a b p q m' r' (Y :: X))[H.length]? = some Y:=by
 unfold twoH
 rw [List.getElem?_append_right (by simp [setM_len])]
 simp [setM_len]
theorem twoH_x (m r : M) (X : List Blk) : twoH H a b p q m r X = twoH H a b p q m r [] ++ X:=(twoH_app (X:=[]) m r X).symm
theorem IsB.clean (I : IsB H c a b p q m r) {m1 r1 : M} (hc : clean (twoH H a b p q m1 r1 X).length (twoH H a b p q m1 r1 X) = true) (m' r' : M) : clean (twoH H a b p q m' r' X).length (twoH H a b p q m' r' X) = true:=by
 have e : twoH H a b p q m' r' X = setM (setM (twoH H a b p q m1 r1 X) a b m') p q r':=by rw [I.setA,I.setP]
 have hl : (twoH H a b p q m' r' X).length = (twoH H a b p q m1 r1 X).length:=by rw [twoH_len,twoH_len]
 rw [hl,e]
 have hM:=(I.two m1 r1 X).hm
 have hR:=(I.two m' r1 X).hr
 refine setM_clean (m0:=r1) ?_ (setM_clean hM hc hM.ltb) ?_
 ·rw [I.setA]; exact hR
 ·have:=hR.ltb; rw [twoH_len] at this ⊢; exact this
theorem IsB.uniq (I : IsB H c a b p q m r) {a' b' p' q' : Nat} {m' r' : M} (J : IsB H c a' b' p' q' m' r') : a = a' ∧ b = b' ∧ p = p' ∧ q = q' ∧ m = m' ∧ r = r':=by
 have e:=I.hc.symm.trans J.hc
 simp only [bothB,Option.some.injEq,Blk.mk.injEq,List.cons.injEq,S.p.injEq,R.g.injEq,true_and,and_true] at e
 obtain ⟨rfl,rfl⟩:=e
 obtain ⟨e1,e2⟩:=I.hm.uniq J.hm
 obtain ⟨e3,e4⟩:=I.hr.uniq J.hr
 exact ⟨rfl,e1,rfl,e3,e2,e4⟩
end
open Classical in
noncomputable def bothOf (H : List Blk) (c : Nat) : Option (Nat × Nat × Nat × Nat × M × M):=if hx : ∃ x : Nat × Nat × Nat × Nat × M × M,IsB H c x.1 x.2.1 x.2.2.1 x.2.2.2.1 x.2.2.2.2.1 x.2.2.2.2.2 then some (Classical.choose hx) else none
theorem bothOf_eq {H : List Blk} {c a b p q : Nat} {m r : M} (I : IsB H c a b p q m r) : bothOf H c = some (a,b,p,q,m,r):=by
 have hx : ∃ x : Nat × Nat × Nat × Nat × M × M,IsB H c x.1 x.2.1 x.2.2.1 x.2.2.2.1 x.2.2.2.2.1 x.2.2.2.2.2:=⟨(a,b,p,q,m,r),I⟩
 unfold bothOf
 rw [dif_pos hx]
 obtain ⟨e1,e2,e3,e4,e5,e6⟩:=IsB.uniq (Classical.choose_spec hx) I
 exact congrArg some (Prod.ext e1 (Prod.ext e2 (Prod.ext e3 (Prod.ext e4 (Prod.ext e5 e6)))))
theorem bothOf_some {H : List Blk} {c a b p q : Nat} {m r : M} (e : bothOf H c = some (a,b,p,q,m,r)) : IsB H c a b p q m r:=by
 unfold bothOf at e
 split at e
 ·rename_i hx
  have:=Classical.choose_spec hx
  rw [Option.some.injEq] at e
  rwa [e] at this
 ·cases e
noncomputable def bothF (f : M → M → (M → M → List Blk) → List V → Res) : List V → List Blk → Res
 | .s (.p (.g c) 0) :: rest,H => match bothOf H c with
  | some (a,b,p,q,m,r) => f m r (fun m r => twoH H a b p q m r []) rest
  | none => .bad
 | _,_ => .bad
theorem bothF_spec {f : M → M → (M → M → List Blk) → List V → Res} {args : List V} {H : List Blk} {K : V → List Blk → Prop} (hS : (bothF f args H).spec K) :
  ∃ H0 c a b p q m r rest,args = .s (.p (.g c) 0) :: rest ∧ H = twoH H0 a b p q m r [] ∧ IsB H0 c a b p q m r ∧ (f m r (fun m r => twoH H0 a b p q m r []) rest).spec K:=by
 unfold bothF at hS
 split at hS
 ·split at hS
  ·rename_i e
   have I:=bothOf_some e
   exact ⟨H,_,_,_,_,_,_,_,_,rfl,I.self.symm,I,hS⟩
  ·exact hS.elim
 ·exact hS.elim
theorem bothF_eq {f : M → M → (M → M → List Blk) → List V → Res} {H X : List Blk} {c a b p q : Nat} {m r m' r' : M} {rest : List V} (I : IsB H c a b p q m r) : bothF f (.s (.p (.g c) 0) :: rest) (twoH H a b p q m' r' X) = f m' r' (fun m r => twoH H a b p q m r X) rest:=by
 unfold bothF
 simp only [bothOf_eq (I.two m' r' X)]
 congr 1
 funext m2 r2
 unfold twoH
 rw [setM_app (I.set m' r').hm,setM_comm I.d,setM_set I.hm.ne,← setM_comm I.d,setM_app (I.set m2 r').hr,setM_set I.hr.ne,List.append_nil]
end Go.Proofs.Ytcdfofeolgbnbaa

