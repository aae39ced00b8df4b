/- Package cdt: Remove. -/
import Derived.Test.YtcdfofeolgbnbaaGreatZ13
import Derived.Test.YtcdfofeolgbnbaaGreatZ22
import Derived.Test.YtcdfofeolgbnbaaGreatZ26
/- Package cdt: Remove. -/
namespace Go.Proofs.YtcdfofeolgbnbaaGreat
open Go.D
open Nat (reduceAdd reducePow reduceMul reduceSub reduceLeDiff reduceLT reduceEqDiff)
open Int (reduceNeg reduceLE reduceEq reduceNe reduceToNat)
open Go.D renaming istep → zy,pickR → zx,bin1R → zw,un1R → zv,eqS → zu,eq1 → zq,cmpS → zp,cmp1 → zj,isNil → zk,shows → zg,result → zZ,q_cond_t → zV,q_cond_f → zU
open List renaming set → zY,replicate → zX
open Option renaming map → zW
open Nat renaming reduceAdd → zQ,reducePow → yz,reduceMul → yy,reduceSub → yx,reduceLeDiff → yw,reduceLT → yv,reduceEqDiff → yu
open Int renaming reduceNeg → yq,reduceLE → yj,reduceEq → yk,reduceNe → yg,reduceToNat → yZ,reducePow → yY,reduceLT → yX,reduceAdd → yW,reduceSub → yV,reduceMul → yU,reduceBEq → yQ,reduceBNe → xz
set_option linter.all false
set_option maxRecDepth 100000
set_option maxHeartbeats 8000000

def depC (s : Slot) : Slot:=⟨s.cap,s.prev,s.next,IntKind.i64.wrap (s.depth - 1)⟩
def M.decX : M → List Int → M
 | m,[] => m
 | m,x :: l => (m.turnX x depC).decX l
def M.remT (m : M) (x : Int) (s : Slot) (li : Bool) : M:=if li = true then ((if s.prev = 0 then (m.pX x slotZ).sfX s.next else m.pX x slotZ).turnX s.prev fun t => ⟨t.cap,t.prev,s.next,t.depth⟩).turnX s.next fun t => ⟨t.cap,s.prev,t.next,t.depth⟩ else m.pX x slotZ
def M.rem (m : M) (x : Int) : Int × M:=if m.fE x = 0 then (match dsW (m.gV x).depth (m.w.length / 4) (m.gV x).next ((m.gX x).gX x) [] with
 | (none,m2) => (110,m2)
 | (some l,m2) => (0,((m2.liX (m.gV x)).decX l).remT x (m.gV x) (m2.liB x (m.gV x)))) else (m.fE x,m.gX x)
def remM (b : Nat) (m : M) (st : M → List Blk) : List V → Res
 | [.s (.i .i64 x)] => .ok (.s (.i .i64 (m.rem x).1)) [] (st (m.rem x).2)
 | _ => .bad
noncomputable def remG:=memF remM
noncomputable def TRm : Tab:=addT 74 fullG (addT 47 dscG (addT 75 listedG (addT 76 turnG (addT 79 put2G (addT 80 setFirstG (noT))))))
theorem TRm_snd : TRm.Snd Tryz.prog:=addT_snd ok74 full_snd (addT_snd ok47 dsc_snd (addT_snd ok75 listed_snd (addT_snd ok76 turn_snd (addT_snd ok79 put2_snd (addT_snd ok80 setFirst_snd ((noT_snd _)))))))
theorem decX_drop {m : M} {l : List Int} {i : Nat} (h : i < l.length) : m.decX (l.drop i) = (m.turnX (nth 0 l i) depC).decX (l.drop (i + 1)):=by
 rw [← List.getElem_cons_drop h,nth_eq h]; rfl
theorem rem_snd : Snd Tryz.prog 23 (FSpec.of remG):=(fwp_sound (Tab.snd_Γ TRm_snd) mixed Tryz.func23 dc23).weaken fun args h K hc hS => by
 refine fwp_runW (Tab.ok_Γ _) 200 ?_
 obtain ⟨a,b,m,rest,rfl,H,hS1⟩:=memF_spec (f:=remM) hS
 clear hS
 have hS:=hS1
 clear hS1
 unfold remM at hS
 split at hS
 ·rename_i x
  simp only [spec_ok,M.rem] at hS
  have hlm : ∀ m2,(setM h a b m2).length = h.length:=fun _ => setM_len
  have hcm : ∀ m2,clean (setM h a b m2).length (setM h a b m2) = true:=fun _ => by rw [setM_len]; exact setM_clean H hc H.ltb
  have hcm2 : ∀ m2,clean h.length (setM h a b m2) = true:=fun _ => setM_clean H hc H.ltb
  have hml:=m.l
  obtain ⟨s,hs⟩ : ∃ s,m.gV x = s:=⟨_,rfl⟩
  by_cases hf : m.fE x = 0
  ·simp only [hf,if_true,hs] at hS
   have hs2 : (m.gX x).gV x = s:=by rw [gX_gV]; exact hs
   have hf2 : (m.gX x).fE x = 0:=by rw [gX_fE]; exact hf
   have hwl : (m.gX x).w.length = m.w.length:=by rw [gX_w]
   obtain ⟨o,ho⟩ : ∃ o,dsW s.depth (m.w.length / 4) s.next ((m.gX x).gX x) [] = o:=⟨_,rfl⟩
   rw [ho] at hS
   obtain ⟨⟨c0,c1,c2,c3,c4,c5,c6,c7,c8,c9,c10⟩,p0,q0,r0⟩:=s
   rcases o with ⟨_ | l,m2⟩
   ·simp only at hS
    simp (maxSteps:=9999999) only [EV0,zy,zx,zw,zv,zu,zq,zp,zj,zk,leT,zg,rvC,zZ,zY,zX,zW,↓zV,↓zU,reduceCtorEq,zQ,yz,yY,yy,yx,yw,yv,yu,yq,yX,yj,yk,yg,yW,yV,yU,yZ,yQ,xz,df23,TRm,fullG,dscG,memF_eq H,memF_set H,fullM,dscM,dscR,hs,hs2,hf,hf2,hwl,ho,bne,Slot.cl,Cap.cl,put,fillP,sub,EVt]
    refine fin_of (v:=.s (.i .i64 110)) (ls:=[]) (h:=setM h a b m2) rfl ?_ ?_
    ·exact Wk.keep 0 rfl rfl (by simp (maxSteps:=9999999) only [EV0,zy,zx,zw,zv,zu,zq,zp,zj,zk,leT,zg,rvC,zZ,zY,zX,zW,↓zV,↓zU,reduceCtorEq,zQ,yz,yY,yy,yx,yw,yv,yu,yq,yX,yj,yk,yg,yW,yV,yU,yZ,yQ,xz]) (by rfl) (by rfl)
    ·simp (maxSteps:=9999999) only [EV0,zy,zx,zw,zv,zu,zq,zp,zj,zk,leT,zg,rvC,zZ,zY,zX,zW,↓zV,↓zU,reduceCtorEq,zQ,yz,yY,yy,yx,yw,yv,yu,yq,yX,yj,yk,yg,yW,yV,yU,yZ,yQ,xz]
     exact hS
   ·simp only at hS
    obtain ⟨li,hli⟩ : ∃ li,m2.liB x ⟨⟨c0,c1,c2,c3,c4,c5,c6,c7,c8,c9,c10⟩,p0,q0,r0⟩ = li:=⟨_,rfl⟩
    obtain ⟨m3,hm3⟩ : ∃ m3,m2.liX ⟨⟨c0,c1,c2,c3,c4,c5,c6,c7,c8,c9,c10⟩,p0,q0,r0⟩ = m3:=⟨_,rfl⟩
    rw [hli,hm3] at hS
    have hsl : ∀ m' (X : List Blk),slotAt (setM h a b m' ++ (X ++ [⟨.rw,(⟨⟨c0,c1,c2,c3,c4,c5,c6,c7,c8,c9,c10⟩,p0,q0,r0⟩ : Slot).cl,14⟩])) (h.length + X.length) = some ⟨⟨c0,c1,c2,c3,c4,c5,c6,c7,c8,c9,c10⟩,p0,q0,r0⟩:=fun m' X => slotAt_eq (by rw [List.getElem?_append_right (by rw [setM_len]; omega),setM_len,Nat.add_sub_cancel_left,List.getElem?_append_right (Nat.le_refl _),Nat.sub_self]; rfl)
    have t3 : ∀ m' q (X : List Blk),turnG [.s (.p (.g a) 0), .s (.i .i64 q), .s (.fn 81 [(.g (h.length + X.length),0)])] (setM h a b m' ++ (X ++ [⟨.rw,(⟨⟨c0,c1,c2,c3,c4,c5,c6,c7,c8,c9,c10⟩,p0,q0,r0⟩ : Slot).cl,14⟩])) = .ok (.tup []) [] (setM h a b (m'.turnX q fun s => ⟨s.cap,s.prev,q0,s.depth⟩) ++ (X ++ [⟨.rw,(⟨⟨c0,c1,c2,c3,c4,c5,c6,c7,c8,c9,c10⟩,p0,q0,r0⟩ : Slot).cl,14⟩])):=fun m' q X => by
     unfold turnG
     rw [memF_app H]
     simp only [turnM,chg,hsl,reduceEqDiff,if_true,if_false]
    have t4 : ∀ m' q (X : List Blk),turnG [.s (.p (.g a) 0), .s (.i .i64 q), .s (.fn 82 [(.g (h.length + X.length),0)])] (setM h a b m' ++ (X ++ [⟨.rw,(⟨⟨c0,c1,c2,c3,c4,c5,c6,c7,c8,c9,c10⟩,p0,q0,r0⟩ : Slot).cl,14⟩])) = .ok (.tup []) [] (setM h a b (m'.turnX q fun s => ⟨s.cap,p0,s.next,s.depth⟩) ++ (X ++ [⟨.rw,(⟨⟨c0,c1,c2,c3,c4,c5,c6,c7,c8,c9,c10⟩,p0,q0,r0⟩ : Slot).cl,14⟩])):=fun m' q X => by
     unfold turnG
     rw [memF_app H]
     simp only [turnM,chg,hsl,reduceEqDiff,if_true,if_false]
    have t30:=fun m' q => t3 m' q []
    have t40:=fun m' q => t4 m' q []
    simp only [List.length_nil,Nat.add_zero,List.nil_append,Slot.cl,Cap.cl] at t30 t40
    have hslz : (slotZ : Slot) = ⟨⟨0,0,0,0,0,0,0,0,0,0,0⟩,0,0,0⟩:=rfl
    obtain ⟨m4,hm4⟩ : ∃ m4,m3.decX l = m4:=⟨_,rfl⟩
    rw [hm4] at hS
    cases l with
    | nil =>
     simp only [M.decX] at hm4
     subst hm4
     have hm4:=hm3
     cases hlb : li
     ·rw [hlb] at hS
      simp only [M.remT,Bool.false_eq_true,if_false] at hS
      simp (maxSteps:=9999999) only [EV0,zy,zx,zw,zv,zu,zq,zp,zj,zk,leT,zg,rvC,zZ,zY,zX,zW,↓zV,↓zU,reduceCtorEq,zQ,yz,yY,yy,yx,yw,yv,yu,yq,yX,yj,yk,yg,yW,yV,yU,yZ,yQ,xz,df23,TRm,fullG,dscG,listedG,put2G,setFirstG,memF_eq H,memF_set H,memF_app H,setM_fun H,fullM,dscM,dscR,listedM,put2M,setFirstM,slotF,slot_eta,cap_eta,hs,hs2,hf,hf2,hwl,ho,hli,hlb,hm3,hm4,bne,Slot.cl,Cap.cl,← hslz,R.lend,R.unlend,S_ren,C.ren,V.ren,Blk.ren,take_app,drop_app,Nat.not_lt_zero,Nat.lt_irrefl,Nat.add_sub_cancel_left,Nat.not_lt,Nat.le_add_right,setM_len,hcm,hcm2,put,fillP,sub,EVt]
      refine fin_of (v:=.s (.i .i64 0)) (ls:=[]) (h:=setM h a b (m3.pX x slotZ)) rfl ?_ ?_
      ·exact Wk.keep 0 rfl rfl (by simp (maxSteps:=9999999) only [EV0,zy,zx,zw,zv,zu,zq,zp,zj,zk,leT,zg,rvC,zZ,zY,zX,zW,↓zV,↓zU,reduceCtorEq,zQ,yz,yY,yy,yx,yw,yv,yu,yq,yX,yj,yk,yg,yW,yV,yU,yZ,yQ,xz]) (by rfl) (by rfl)
      ·simp (maxSteps:=9999999) only [EV0,zy,zx,zw,zv,zu,zq,zp,zj,zk,leT,zg,rvC,zZ,zY,zX,zW,↓zV,↓zU,reduceCtorEq,zQ,yz,yY,yy,yx,yw,yv,yu,yq,yX,yj,yk,yg,yW,yV,yU,yZ,yQ,xz]
       exact hS
     ·rw [hlb] at hS
      simp only [M.remT,if_true] at hS
      by_cases hp0 : p0 = 0
      ·have hp0' : (p0 == 0) = true:=by simpa using hp0
       rw [if_pos hp0] at hS
       simp (maxSteps:=9999999) only [EV0,zy,zx,zw,zv,zu,zq,zp,zj,zk,leT,zg,rvC,zZ,zY,zX,zW,↓zV,↓zU,reduceCtorEq,zQ,yz,yY,yy,yx,yw,yv,yu,yq,yX,yj,yk,yg,yW,yV,yU,yZ,yQ,xz,df23,TRm,fullG,dscG,listedG,put2G,setFirstG,memF_eq H,memF_set H,memF_app H,setM_fun H,fullM,dscM,dscR,listedM,put2M,setFirstM,slotF,slot_eta,cap_eta,hs,hs2,hf,hf2,hwl,ho,hli,hlb,hm3,hm4,bne,Slot.cl,Cap.cl,← hslz,R.lend,R.unlend,S_ren,C.ren,V.ren,Blk.ren,take_app,drop_app,Nat.not_lt_zero,Nat.lt_irrefl,Nat.add_sub_cancel_left,Nat.not_lt,Nat.le_add_right,setM_len,hcm,hcm2,put,fillP,sub,EVt,hp0',t30,t40]
       refine fin_of (v:=.s (.i .i64 0)) (ls:=[]) (h:=setM h a b ((((m3.pX x slotZ).sfX q0).turnX p0 fun t => ⟨t.cap,t.prev,q0,t.depth⟩).turnX q0 fun t => ⟨t.cap,p0,t.next,t.depth⟩)) rfl ?_ ?_
       ·exact Wk.keep 0 rfl rfl (by simp (maxSteps:=9999999) only [EV0,zy,zx,zw,zv,zu,zq,zp,zj,zk,leT,zg,rvC,zZ,zY,zX,zW,↓zV,↓zU,reduceCtorEq,zQ,yz,yY,yy,yx,yw,yv,yu,yq,yX,yj,yk,yg,yW,yV,yU,yZ,yQ,xz]) (by rfl) (by rfl)
       ·simp (maxSteps:=9999999) only [EV0,zy,zx,zw,zv,zu,zq,zp,zj,zk,leT,zg,rvC,zZ,zY,zX,zW,↓zV,↓zU,reduceCtorEq,zQ,yz,yY,yy,yx,yw,yv,yu,yq,yX,yj,yk,yg,yW,yV,yU,yZ,yQ,xz]
        exact hS
      ·have hp0' : (p0 == 0) = false:=by simpa using hp0
       simp only [hp0,if_false] at hS
       simp (maxSteps:=9999999) only [EV0,zy,zx,zw,zv,zu,zq,zp,zj,zk,leT,zg,rvC,zZ,zY,zX,zW,↓zV,↓zU,reduceCtorEq,zQ,yz,yY,yy,yx,yw,yv,yu,yq,yX,yj,yk,yg,yW,yV,yU,yZ,yQ,xz,df23,TRm,fullG,dscG,listedG,put2G,setFirstG,memF_eq H,memF_set H,memF_app H,setM_fun H,fullM,dscM,dscR,listedM,put2M,setFirstM,slotF,slot_eta,cap_eta,hs,hs2,hf,hf2,hwl,ho,hli,hlb,hm3,hm4,bne,Slot.cl,Cap.cl,← hslz,R.lend,R.unlend,S_ren,C.ren,V.ren,Blk.ren,take_app,drop_app,Nat.not_lt_zero,Nat.lt_irrefl,Nat.add_sub_cancel_left,Nat.not_lt,Nat.le_add_right,setM_len,hcm,hcm2,put,fillP,sub,EVt,hp0',t30,t40]
       refine fin_of (v:=.s (.i .i64 0)) (ls:=[]) (h:=setM h a b (((m3.pX x slotZ).turnX p0 fun t => ⟨t.cap,t.prev,q0,t.depth⟩).turnX q0 fun t => ⟨t.cap,p0,t.next,t.depth⟩)) rfl ?_ ?_
       ·exact Wk.keep 0 rfl rfl (by simp (maxSteps:=9999999) only [EV0,zy,zx,zw,zv,zu,zq,zp,zj,zk,leT,zg,rvC,zZ,zY,zX,zW,↓zV,↓zU,reduceCtorEq,zQ,yz,yY,yy,yx,yw,yv,yu,yq,yX,yj,yk,yg,yW,yV,yU,yZ,yQ,xz]) (by rfl) (by rfl)
       ·simp (maxSteps:=9999999) only [EV0,zy,zx,zw,zv,zu,zq,zp,zj,zk,leT,zg,rvC,zZ,zY,zX,zW,↓zV,↓zU,reduceCtorEq,zQ,yz,yY,yy,yx,yw,yv,yu,yq,yX,yj,yk,yg,yW,yV,yU,yZ,yQ,xz]
        exact hS
    | cons y l =>
     have hl:=dsW_len _ _ _ _ ho
     obtain ⟨B,hB⟩ : ∃ B,intsB (y :: l) = B:=⟨_,rfl⟩
     have hbB : ∀ m' c,(setM h a b m' ++ [⟨.rw,B,c⟩])[h.length]? = some (⟨.rw,B,c⟩ : Blk):=fun m' c => by rw [List.getElem?_append_right (by rw [setM_len]; omega),setM_len,Nat.sub_self]; rfl
     have hB0 : B[0]? = some (.i .i64 y):=by rw [← hB]; rfl
     have hBl : B.length = l.length + 1:=by rw [← hB]; simp [intsB]
     have hB1 : ∀ i,i < l.length → B[1 + i]? = some (.i .i64 (nth 0 l i)):=fun i hi => by
      rw [← hB,intsB_get (by simp only [List.length_cons]; omega),Nat.add_comm 1 i]; rfl
     have tD1 : ∀ m' q c,turnG [.s (.p (.g a) 0), .s (.i .i64 q), .s (.fn 77 [])] (setM h a b m' ++ [⟨.rw,B,c⟩]) = .ok (.tup []) [] (setM h a b (m'.turnX q depC) ++ [⟨.rw,B,c⟩]):=fun m' q c => by
      unfold turnG
      rw [memF_app H]
      simp only [turnM,chg,true_or,if_true]
      rfl
     have tD2 : ∀ m' q c,turnG [.s (.p (.g a) 0), .s (.i .i64 q), .s (.fn 78 [])] (setM h a b m' ++ [⟨.rw,B,c⟩]) = .ok (.tup []) [] (setM h a b (m'.turnX q depC) ++ [⟨.rw,B,c⟩]):=fun m' q c => by
      unfold turnG
      rw [memF_app H]
      simp only [turnM,chg,or_true,if_true]
      rfl
     have z1 : (0 : Int) < ((l.length + 1 : Nat) : Int):=by omega
     simp (maxSteps:=9999999) only [EV0,zy,zx,zw,zv,zu,zq,zp,zj,zk,leT,zg,rvC,zZ,zY,zX,zW,↓zV,↓zU,reduceCtorEq,zQ,yz,yY,yy,yx,yw,yv,yu,yq,yX,yj,yk,yg,yW,yV,yU,yZ,yQ,xz,df23,TRm,fullG,dscG,listedG,put2G,setFirstG,memF_eq H,memF_set H,memF_app H,setM_fun H,fullM,dscM,dscR,listedM,put2M,setFirstM,slotF,slot_eta,cap_eta,hs,hs2,hf,hf2,hwl,ho,hli,hm3,bne,Slot.cl,Cap.cl,← hslz,R.lend,R.unlend,S_ren,C.ren,V.ren,Blk.ren,take_app,drop_app,Nat.not_lt_zero,Nat.lt_irrefl,Nat.add_sub_cancel_left,Nat.not_lt,Nat.le_add_right,setM_len,hcm,hcm2,put,fillP,sub,EVt,hB,hbB,hB0,hBl,tD1,z1,Int.toNat_natCast]
     intro c hc1
     refine ⟨⟨by omega,by omega⟩, ?_⟩
     have hob : ∀ i,i < l.length → B[(if c = 1 then 0 else 1) + i]? = some (.i .i64 (nth 0 l i)):=fun i hi => by rw [if_neg (by omega)]; exact hB1 i hi
     generalize (if c = 1 then 0 else 1) = o' at hob ⊢
     have l1 : l.length ≤ 9223372036854775807:=by simp only [List.length_cons,List.length_nil] at hl; omega
     clear hs hs2 hf hf2 hwl ho hli
     have t31:=fun m' q => t3 m' q [⟨.rw,B,c⟩]
     have t41:=fun m' q => t4 m' q [⟨.rw,B,c⟩]
     simp only [List.length_cons,List.length_nil,Nat.zero_add,List.cons_append,List.nil_append,Slot.cl,Cap.cl] at t31 t41
     have htk : ∀ (m' : M) (Z : Blk),List.take (h.length + 1) (setM h a b m' ++ [⟨.rw,B,c⟩,Z]) = setM h a b m' ++ [⟨.rw,B,c⟩]:=fun m' Z => by
      rw [List.append_cons,List.take_left' (by simp [setM_len])]
     have hdr : ∀ (m' : M) (Z : Blk),List.drop (h.length + 1) (setM h a b m' ++ [⟨.rw,B,c⟩,Z]) = [Z]:=fun m' Z => by
      rw [List.append_cons,List.drop_left' (by simp [setM_len])]
     have hlc : ∀ (m' : M),clean (h.length + 1) (setM h a b m' ++ [⟨.rw,B,c⟩]) = true:=fun m' => by
      refine clean_app (hcm2 m') (by omega) ?_
      have hv : vals (h.length + 1) 0 B = true:=by rw [← hB]; exact (intsB_is _).va _ _
      simp only [clean,List.all_cons,List.all_nil,Bool.and_true,hv]
     simp only [Nat.add_sub_cancel]
     refine loop_rule (α:=Nat × M) [10,44,45,46,47,48,49,50,51] (fun z => [(44, .s (.i .i64 (z.1 : Int)))]) (fun _ => [⟨.rw,(⟨⟨c0,c1,c2,c3,c4,c5,c6,c7,c8,c9,c10⟩,p0,q0,r0⟩ : Slot).cl,14⟩]) (fun z => setM h a b z.2 ++ [⟨.rw,B,c⟩]) (fun z => z.1 ≤ l.length ∧ z.2.decX (l.drop z.1) = m4) (fun z => l.length - z.1) (0,m3.turnX y depC) ⟨Nat.zero_le _,hm4⟩ ?_ ?_
     ·refine Wk.same (by rfl) rfl ?_
      simp (maxSteps:=9999999) only [EV0,zy,zx,zw,zv,zu,zq,zp,zj,zk,leT,zg,rvC,zZ,zY,zX,zW,↓zV,↓zU,reduceCtorEq,zQ,yz,yY,yy,yx,yw,yv,yu,yq,yX,yj,yk,yg,yW,yV,yU,yZ,yQ,xz,Int.natCast_zero]
     ·rintro X ⟨i,m'⟩ ⟨hi,hm'⟩ IH
      simp only at hi hm' ⊢
      simp only [Slot.cl,Cap.cl]
      by_cases h1 : i < l.length
      ·obtain ⟨d1,d2,d3,d4⟩:=idx h1 l1
       have g1:=hob i h1
       rw [decX_drop h1] at hm'
       refine run_sound (Tab.ok_Γ _) 100 _ _ _ _ ?_
       simp (maxSteps:=9999999) only [EV0,zy,zx,zw,zv,zu,zq,zp,zj,zk,leT,zg,rvC,zZ,zY,zX,zW,↓zV,↓zU,reduceCtorEq,zQ,yz,yY,yy,yx,yw,yv,yu,yq,yX,yj,yk,yg,yW,yV,yU,yZ,yQ,xz,TRm,hbB,g1,d1,d2,d3,d4,tD2,Int.toNat_natCast]
       exact IH (i + 1,m'.turnX (nth 0 l i) depC) _ (by simp only; omega) ⟨by simp only; omega,hm'⟩ (Wk.same (by rfl) rfl (by simp (maxSteps:=9999999) only [EV0,zy,zx,zw,zv,zu,zq,zp,zj,zk,leT,zg,rvC,zZ,zY,zX,zW,↓zV,↓zU,reduceCtorEq,zQ,yz,yY,yy,yx,yw,yv,yu,yq,yX,yj,yk,yg,yW,yV,yU,yZ,yQ,xz]))
      ·have e0 : i = l.length:=by omega
       subst e0
       rw [List.drop_length] at hm'
       simp only [M.decX] at hm'
       subst hm'
       have h1 : ¬ ((l.length : Int) < (l.length : Int)):=by omega
       cases hlb : li
       ·rw [hlb] at hS
        simp only [M.remT,Bool.false_eq_true,if_false] at hS
        refine run_sound (Tab.ok_Γ _) 100 _ _ _ _ ?_
        simp (maxSteps:=9999999) only [EV0,zy,zx,zw,zv,zu,zq,zp,zj,zk,leT,zg,rvC,zZ,zY,zX,zW,↓zV,↓zU,reduceCtorEq,zQ,yz,yY,yy,yx,yw,yv,yu,yq,yX,yj,yk,yg,yW,yV,yU,yZ,yQ,xz,TRm,listedG,put2G,setFirstG,memF_eq H,memF_set H,memF_app H,setM_fun H,listedM,put2M,setFirstM,slotF,slot_eta,cap_eta,hlb,bne,Slot.cl,Cap.cl,← hslz,R.lend,R.unlend,S_ren,C.ren,V.ren,Blk.ren,take_app,drop_app,Nat.not_lt_zero,Nat.lt_irrefl,Nat.add_sub_cancel_left,Nat.not_lt,Nat.le_add_right,setM_len,hcm,hcm2,put,fillP,sub,EVt,h1]
        trace_state
        refine fin_of (v:=.s (.i .i64 0)) (ls:=[]) (h:=setM h a b (m'.pX x slotZ)) rfl ?_ ?_
        ·exact drop_i (by simp (maxSteps:=9999999) only [EV0,zy,zx,zw,zv,zu,zq,zp,zj,zk,leT,zg,rvC,zZ,zY,zX,zW,↓zV,↓zU,reduceCtorEq,zQ,yz,yY,yy,yx,yw,yv,yu,yq,yX,yj,yk,yg,yW,yV,yU,yZ,yQ,xz]) (hcm _) (Nat.le_of_eq (hlm _).symm)
        ·simp (maxSteps:=9999999) only [EV0,zy,zx,zw,zv,zu,zq,zp,zj,zk,leT,zg,rvC,zZ,zY,zX,zW,↓zV,↓zU,reduceCtorEq,zQ,yz,yY,yy,yx,yw,yv,yu,yq,yX,yj,yk,yg,yW,yV,yU,yZ,yQ,xz]
         exact hS
       ·rw [hlb] at hS
        simp only [M.remT,if_true] at hS
        by_cases hp0 : p0 = 0
        ·have hp0' : (p0 == 0) = true:=by simpa using hp0
         rw [if_pos hp0] at hS
         refine run_sound (Tab.ok_Γ _) 100 _ _ _ _ ?_
         simp (maxSteps:=9999999) only [EV0,zy,zx,zw,zv,zu,zq,zp,zj,zk,leT,zg,rvC,zZ,zY,zX,zW,↓zV,↓zU,reduceCtorEq,zQ,yz,yY,yy,yx,yw,yv,yu,yq,yX,yj,yk,yg,yW,yV,yU,yZ,yQ,xz,TRm,listedG,put2G,setFirstG,memF_eq H,memF_set H,memF_app H,setM_fun H,listedM,put2M,setFirstM,slotF,slot_eta,cap_eta,hlb,bne,Slot.cl,Cap.cl,← hslz,R.lend,R.unlend,S_ren,C.ren,V.ren,Blk.ren,take_app,drop_app,Nat.not_lt_zero,Nat.lt_irrefl,Nat.add_sub_cancel_left,Nat.not_lt,Nat.le_add_right,setM_len,hcm,hcm2,put,fillP,sub,EVt,h1,hp0',t31,t41,htk,hdr,hlc]
         trace_state
         refine fin_of (v:=.s (.i .i64 0)) (ls:=[]) (h:=setM h a b ((((m'.pX x slotZ).sfX q0).turnX p0 fun t => ⟨t.cap,t.prev,q0,t.depth⟩).turnX q0 fun t => ⟨t.cap,p0,t.next,t.depth⟩)) rfl ?_ ?_
         ·exact drop_i (by simp (maxSteps:=9999999) only [EV0,zy,zx,zw,zv,zu,zq,zp,zj,zk,leT,zg,rvC,zZ,zY,zX,zW,↓zV,↓zU,reduceCtorEq,zQ,yz,yY,yy,yx,yw,yv,yu,yq,yX,yj,yk,yg,yW,yV,yU,yZ,yQ,xz]) (hcm _) (Nat.le_of_eq (hlm _).symm)
         ·simp (maxSteps:=9999999) only [EV0,zy,zx,zw,zv,zu,zq,zp,zj,zk,leT,zg,rvC,zZ,zY,zX,zW,↓zV,↓zU,reduceCtorEq,zQ,yz,yY,yy,yx,yw,yv,yu,yq,yX,yj,yk,yg,yW,yV,yU,yZ,yQ,xz]
          exact hS
        ·have hp0' : (p0 == 0) = false:=by simpa using hp0
         simp only [hp0,if_false] at hS
         refine run_sound (Tab.ok_Γ _) 100 _ _ _ _ ?_
         simp (maxSteps:=9999999) only [EV0,zy,zx,zw,zv,zu,zq,zp,zj,zk,leT,zg,rvC,zZ,zY,zX,zW,↓zV,↓zU,reduceCtorEq,zQ,yz,yY,yy,yx,yw,yv,yu,yq,yX,yj,yk,yg,yW,yV,yU,yZ,yQ,xz,TRm,listedG,put2G,setFirstG,memF_eq H,memF_set H,memF_app H,setM_fun H,listedM,put2M,setFirstM,slotF,slot_eta,cap_eta,hlb,bne,Slot.cl,Cap.cl,← hslz,R.lend,R.unlend,S_ren,C.ren,V.ren,Blk.ren,take_app,drop_app,Nat.not_lt_zero,Nat.lt_irrefl,Nat.add_sub_cancel_left,Nat.not_lt,Nat.le_add_right,setM_len,hcm,hcm2,put,fillP,sub,EVt,h1,hp0',t31,t41,htk,hdr,hlc]
         trace_state
         refine fin_of (v:=.s (.i .i64 0)) (ls:=[]) (h:=setM h a b (((m'.pX x slotZ).turnX p0 fun t => ⟨t.cap,t.prev,q0,t.depth⟩).turnX q0 fun t => ⟨t.cap,p0,t.next,t.depth⟩)) rfl ?_ ?_
         ·exact drop_i (by simp (maxSteps:=9999999) only [EV0,zy,zx,zw,zv,zu,zq,zp,zj,zk,leT,zg,rvC,zZ,zY,zX,zW,↓zV,↓zU,reduceCtorEq,zQ,yz,yY,yy,yx,yw,yv,yu,yq,yX,yj,yk,yg,yW,yV,yU,yZ,yQ,xz]) (hcm _) (Nat.le_of_eq (hlm _).symm)
         ·simp (maxSteps:=9999999) only [EV0,zy,zx,zw,zv,zu,zq,zp,zj,zk,leT,zg,rvC,zZ,zY,zX,zW,↓zV,↓zU,reduceCtorEq,zQ,yz,yY,yy,yx,yw,yv,yu,yq,yX,yj,yk,yg,yW,yV,yU,yZ,yQ,xz]
          exact hS
  ·have hf' : (m.fE x == 0) = false:=by simpa using hf
   simp only [hf,if_false] at hS
   simp (maxSteps:=9999999) only [EV0,zy,zx,zw,zv,zu,zq,zp,zj,zk,leT,zg,rvC,zZ,zY,zX,zW,↓zV,↓zU,reduceCtorEq,zQ,yz,yY,yy,yx,yw,yv,yu,yq,yX,yj,yk,yg,yW,yV,yU,yZ,yQ,xz,df23,TRm,fullG,memF_eq H,memF_set H,fullM,hs,hf',hf,bne,Slot.cl,Cap.cl,put,fillP,sub,EVt]
   refine fin_of (v:=.s (.i .i64 (m.fE x))) (ls:=[]) (h:=setM h a b (m.gX x)) rfl ?_ ?_
   ·exact Wk.keep 0 rfl rfl (by simp (maxSteps:=9999999) only [EV0,zy,zx,zw,zv,zu,zq,zp,zj,zk,leT,zg,rvC,zZ,zY,zX,zW,↓zV,↓zU,reduceCtorEq,zQ,yz,yY,yy,yx,yw,yv,yu,yq,yX,yj,yk,yg,yW,yV,yU,yZ,yQ,xz]) (by rfl) (by rfl)
   ·simp (maxSteps:=9999999) only [EV0,zy,zx,zw,zv,zu,zq,zp,zj,zk,leT,zg,rvC,zZ,zY,zX,zW,↓zV,↓zU,reduceCtorEq,zQ,yz,yY,yy,yx,yw,yv,yu,yq,yX,yj,yk,yg,yW,yV,yU,yZ,yQ,xz]
    exact hS
 ·exact hS.elim
end Go.Proofs.YtcdfofeolgbnbaaGreat

