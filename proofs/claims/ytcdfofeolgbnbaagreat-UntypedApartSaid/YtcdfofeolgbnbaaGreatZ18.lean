/- Package heap: the kernel's words. -/
import Derived.Test.YtcdfofeolgbnbaaGreatZ11
import Derived.Test.YtcdfofeolgbnbaaGreatZ17
import Derived.Test.YtcdfofeolgbnbaaGreatZ15
/- Package slots: Get,Empty. -/
namespace Go.Proofs.YtcdfofeolgbnbaaGreat
open Go.D
set_option linter.all false
set_option maxRecDepth 100000
set_option maxHeartbeats 4000000

theorem M.tick_tick (m:M) (j k:Int):(m.tick j).tick k=m.tick (j+k):=by
 refine M.ext' rfl ?_
 simp only [M.tick]
 rw [IntKind.wrap_i64,IntKind.wrap_i64,IntKind.wrap_i64]; omega

def slotC (w0 w1 w2:Int):Slot:=⟨decC w0 w1,w2%65536,w2/65536%65536,w2/4294967296%65536⟩
def slotB (w0 w1 w2 w3:Int):Bool:=decB w0 w1&&(decide (w2/281474976710656=0)&&(w3==0&&slotRB (slotC w0 w1 w2)))
def M.slotB (m:M) (a:Int):Bool:=_root_.Go.Proofs.YtcdfofeolgbnbaaGreat.slotB (m.at a) (m.at (a+1)) (m.at (a+2)) (m.at (a+3))
def M.slotC (m:M) (a:Int):Slot:=_root_.Go.Proofs.YtcdfofeolgbnbaaGreat.slotC (m.at a) (m.at (a+1)) (m.at (a+2))
def getSM (b:Nat) (m:M) (st:M->List Blk):List V->Res
 | [.s (.i .i64 a)]=>.br (thereB m a) (.br (m.slotB a) (.ok (.tup [.agg (m.slotC a).cl, .s (.i .i64 0)]) [] (st (m.tick 4))) (.ok (.tup [.agg slotZ.cl, .s (.i .i64 110)]) [] (st (m.tick 4))))
   (.ok (.tup [.agg slotZ.cl, .s (.i .i64 20)]) [] (st m))
 | _=>.bad
noncomputable def getSG:=memF getSM

theorem there_iff {m:M} {a:Int}:thereB m a=true↔4<=a/\a.tmod 4=0/\a<=m.w.length-4:=by
 simp only [thereB,Bool.and_eq_true,decide_eq_true_eq,beq_iff_eq]

theorem up16_B (w:Nat):unpackB (w:Int) [16,16,16] 0=decide ((w:Int)/281474976710656=0):=by
 simp only [unpackB,fieldB,Int.reduceAdd,Int.reduceSub,Int.reduceLE,Int.reduceToNat,Int.toNat_natCast,Nat.reducePow,and_true,decide_true,Bool.true_and]
 rw [Bool.eq_iff_iff]; simp only [decide_eq_true_eq]; omega
theorem up16_V (w:Nat):unpackV (w:Int) [16,16,16] 0=[(w:Int)%65536,(w:Int)/65536%65536,(w:Int)/4294967296%65536]:=by
 simp only [unpackV,getV,Int.reduceAdd,Int.reduceToNat,Int.toNat_natCast,Nat.reducePow,Nat.div_one]
 simp only [List.cons.injEq,and_true]
 omega

noncomputable def TGt:Tab:=addT 85 sthereG (addT 86 readG (addT 87 decG (addT 88 unpackG (addT 89 slotRG noT))))
theorem TGt_snd:TGt.Snd Tryz.prog:=addT_snd ok85 sthere_snd (addT_snd ok86 mread_snd (addT_snd ok87 dec_snd (addT_snd ok88 unpack_snd (addT_snd ok89 slotR_snd (noT_snd _)))))
theorem getS_snd:Snd Tryz.prog 26 (FSpec.of getSG):=snd_run TGt_snd mixed Tryz.func26 dc26 300 fun args h K hc hS=>by
 obtain ⟨a,b,m,rest,rfl,H,hS1⟩:=memF_spec hS
 clear hS
 have hS:=hS1
 clear hS1
 unfold getSM at hS
 split at hS
 ·rename_i x
  simp only [spec_ok,spec_br,setM_self H] at hS
  have hl:=m.l
  cases ht:thereB m x with
  | false =>
   have hS:=hS.2 ht
   simp (maxSteps:=999999) only [go_sem,simprocAttr,↓qT,↓qF,df26,TGt,sthereG,memF_eq H,sthereM,setM_self H,ht,put,fillP,sub,EVt]
   exact hS
  | true =>
   have hS:=hS.1 ht
   have hb:=there_iff.1 ht
   have hcm:∀ m',clean (setM h a b m').length (setM h a b m')=true:=fun m'=>by rw [setM_len]; exact setM_clean H hc H.ltb
   have h0:m.has x 1=true:=M.has_of (by omega)
   have h1:m.has (x+1) 1=true:=M.has_of (by omega)
   have h2:m.has (x+2) 1=true:=M.has_of (by omega)
   have h3:m.has (x+3) 1=true:=M.has_of (by omega)
   have w0:IntKind.i64.wrap (x+0)=x:=by rw [wrap64]<;>omega
   have w1:IntKind.i64.wrap (x+1)=x+1:=wrap64 (by omega) (by omega)
   have w2:IntKind.i64.wrap (x+2)=x+2:=wrap64 (by omega) (by omega)
   have w3:IntKind.i64.wrap (x+3)=x+3:=wrap64 (by omega) (by omega)
   have v1:IntKind.i64.wrap 1=1:=by decide
   have v2:IntKind.i64.wrap 2=2:=by decide
   have v3:IntKind.i64.wrap 3=3:=by decide
   have v4:IntKind.i64.wrap 4=4:=by decide
   have u0:=m.at_u x
   have u1:=m.at_u (x+1)
   have u2:=m.at_u (x+2)
   have u3:=m.at_u (x+3)
   simp only [M.slotB,M.slotC] at hS
   obtain ⟨a0,e0⟩:∃ a,m.at x=a:=⟨_,rfl⟩
   obtain ⟨a1,e1⟩:∃ a,m.at (x+1)=a:=⟨_,rfl⟩
   obtain ⟨a2,e2⟩:∃ a,m.at (x+2)=a:=⟨_,rfl⟩
   obtain ⟨a3,e3⟩:∃ a,m.at (x+3)=a:=⟨_,rfl⟩
   rw [e0] at u0 hS
   rw [e1] at u1 hS
   rw [e2] at u2 hS
   rw [e3] at hS
   obtain ⟨a2,rfl,_⟩:=u2.nat
   have eB:=up16_B a2
   have eV:=up16_V a2
   have i0:IntKind.i64.wrap ((a2:Int)%65536)=(a2:Int)%65536:=wrap64 (by omega) (by omega)
   have i1:IntKind.i64.wrap ((a2:Int)/65536%65536)=(a2:Int)/65536%65536:=wrap64 (by omega) (by omega)
   have i2:IntKind.i64.wrap ((a2:Int)/4294967296%65536)=(a2:Int)/4294967296%65536:=wrap64 (by omega) (by omega)
   simp (maxSteps:=999999) only [go_sem,simprocAttr,↓qT,↓qF,df26,TGt,sthereG,memF_eq H,sthereM,setM_self H,ht,put,fillP,sub,EVt]
   rw [holds_loop]
   refine swp_loop fun X hX=>?_
   refine hX _ ?_
   refine run_sound (Tab.ok_Γ _) 200 _ _ _ _ ?_
   simp (maxSteps:=999999) only [go_sem,simprocAttr,↓qT,↓qF,TGt,readG,memF_eq H,memF_set H,readM,h0,h1,h2,h3,w0,w1,w2,w3,v1,v2,v3,v4,e0,e1,e2,e3,M.at_tick,M.tick_has,M.tick_tick,put,setM_fun H]
   refine hX _ ?_
   refine run_sound (Tab.ok_Γ _) 200 _ _ _ _ ?_
   simp (maxSteps:=999999) only [go_sem,simprocAttr,↓qT,↓qF,TGt,readG,memF_eq H,memF_set H,readM,h0,h1,h2,h3,w0,w1,w2,w3,v1,v2,v3,v4,e0,e1,e2,e3,M.at_tick,M.tick_has,M.tick_tick,put,setM_fun H]
   refine hX _ ?_
   refine run_sound (Tab.ok_Γ _) 200 _ _ _ _ ?_
   simp (maxSteps:=999999) only [go_sem,simprocAttr,↓qT,↓qF,TGt,readG,memF_eq H,memF_set H,readM,h0,h1,h2,h3,w0,w1,w2,w3,v1,v2,v3,v4,e0,e1,e2,e3,M.at_tick,M.tick_has,M.tick_tick,put,setM_fun H]
   refine hX _ ?_
   refine run_sound (Tab.ok_Γ _) 200 _ _ _ _ ?_
   simp (maxSteps:=999999) only [go_sem,simprocAttr,↓qT,↓qF,TGt,readG,memF_eq H,memF_set H,readM,h0,h1,h2,h3,w0,w1,w2,w3,v1,v2,v3,v4,e0,e1,e2,e3,M.at_tick,M.tick_has,M.tick_tick,put,setM_fun H]
   refine hX _ ?_
   cases hd:decB a0 a1 with
   | false =>
    have hS:=hS.2 (by simp only [slotB,hd,Bool.false_and])
    by_cases c2:(a2:Int)/281474976710656=0
    ·refine run_sound (Tab.ok_Γ _) 400 _ _ _ _ ?_
     simp (maxSteps:=999999) only [go_sem,simprocAttr,↓qT,↓qF,TGt,readG,memF_eq H,memF_set H,readM,h0,h1,h2,h3,w0,w1,w2,w3,v1,v2,v3,v4,e0,e1,e2,e3,M.at_tick,M.tick_has,M.tick_tick,put,setM_fun H,decG,unpackG,wordsR,pairV,R.lend,R.unlend,S_ren,C.ren,V.ren,Blk.ren,take_app,drop_app,Nat.not_lt_zero,Nat.lt_irrefl,Nat.add_sub_cancel_left,Nat.not_lt,Nat.le_add_right,decI,arr,Ic,Uc,List.take,eB,eV,u0,u1,u2,hd,c2,capZ,Cap.cl,fillP,nlt,hcm,sub,EVt,List.map_cons,List.map_nil]
     first|exact hS|exact fun _ _=>hS
    ·refine run_sound (Tab.ok_Γ _) 400 _ _ _ _ ?_
     simp (maxSteps:=999999) only [go_sem,simprocAttr,↓qT,↓qF,TGt,readG,memF_eq H,memF_set H,readM,h0,h1,h2,h3,w0,w1,w2,w3,v1,v2,v3,v4,e0,e1,e2,e3,M.at_tick,M.tick_has,M.tick_tick,put,setM_fun H,decG,unpackG,wordsR,pairV,R.lend,R.unlend,S_ren,C.ren,V.ren,Blk.ren,take_app,drop_app,Nat.not_lt_zero,Nat.lt_irrefl,Nat.add_sub_cancel_left,Nat.not_lt,Nat.le_add_right,decI,arr,Ic,Uc,List.take,eB,eV,u0,u1,u2,hd,c2,capZ,Cap.cl,fillP,nlt,hcm,sub,EVt]
     first|exact hS|exact fun _ _=>hS
   | true =>
    by_cases c2:(a2:Int)/281474976710656=0
    ·by_cases c3:a3=0
     ·cases hr:slotRB (slotC a0 a1 a2) with
      | false =>
       have hS:=hS.2 (by simp only [slotB,hd,hr,Bool.and_false])
       simp only [slotC] at hr
       refine run_sound (Tab.ok_Γ _) 400 _ _ _ _ ?_
       simp (maxSteps:=999999) only [go_sem,simprocAttr,↓qT,↓qF,TGt,readG,memF_eq H,memF_set H,readM,h0,h1,h2,h3,w0,w1,w2,w3,v1,v2,v3,v4,e0,e1,e2,e3,M.at_tick,M.tick_has,M.tick_tick,put,setM_fun H,decG,unpackG,wordsR,pairV,slotRG,slotF,cap_eta,R.lend,R.unlend,S_ren,C.ren,V.ren,Blk.ren,take_app,drop_app,Nat.not_lt_zero,Nat.lt_irrefl,Nat.add_sub_cancel_left,Nat.not_lt,Nat.le_add_right,decI,arr,Ic,Uc,List.take,eB,eV,u0,u1,u2,hd,c2,c3,hr,i0,i1,i2,capZ,Cap.cl,fillP,nlt,hcm,sub,EVt]
       first|exact hS|exact fun _ _=>hS
      | true =>
       have hS:=hS.1 (by simp only [slotB,hd,c2,c3,hr,decide_true,beq_self_eq_true,Bool.and_true])
       simp only [slotC] at hr
       simp only [slotC,Slot.cl] at hS
       refine run_sound (Tab.ok_Γ _) 400 _ _ _ _ ?_
       simp (maxSteps:=999999) only [go_sem,simprocAttr,↓qT,↓qF,TGt,readG,memF_eq H,memF_set H,readM,h0,h1,h2,h3,w0,w1,w2,w3,v1,v2,v3,v4,e0,e1,e2,e3,M.at_tick,M.tick_has,M.tick_tick,put,setM_fun H,decG,unpackG,wordsR,pairV,slotRG,slotF,cap_eta,R.lend,R.unlend,S_ren,C.ren,V.ren,Blk.ren,take_app,drop_app,Nat.not_lt_zero,Nat.lt_irrefl,Nat.add_sub_cancel_left,Nat.not_lt,Nat.le_add_right,decI,arr,Ic,Uc,List.take,eB,eV,u0,u1,u2,hd,c2,c3,hr,i0,i1,i2,capZ,Cap.cl,fillP,nlt,hcm,sub,EVt]
       first|exact hS|exact fun _ _=>hS
     ·have hS:=hS.2 (by simp [slotB,c3])
      refine run_sound (Tab.ok_Γ _) 400 _ _ _ _ ?_
      simp (maxSteps:=999999) only [go_sem,simprocAttr,↓qT,↓qF,TGt,readG,memF_eq H,memF_set H,readM,h0,h1,h2,h3,w0,w1,w2,w3,v1,v2,v3,v4,e0,e1,e2,e3,M.at_tick,M.tick_has,M.tick_tick,put,setM_fun H,decG,unpackG,wordsR,pairV,slotRG,slotF,cap_eta,R.lend,R.unlend,S_ren,C.ren,V.ren,Blk.ren,take_app,drop_app,Nat.not_lt_zero,Nat.lt_irrefl,Nat.add_sub_cancel_left,Nat.not_lt,Nat.le_add_right,decI,arr,Ic,Uc,List.take,eB,eV,u0,u1,u2,hd,c2,c3,i0,i1,i2,capZ,Cap.cl,fillP,nlt,hcm,sub,EVt]
      first|exact hS|exact fun _ _=>hS
    ·have hS:=hS.2 (by simp [slotB,c2])
     refine run_sound (Tab.ok_Γ _) 400 _ _ _ _ ?_
     simp (maxSteps:=999999) only [go_sem,simprocAttr,↓qT,↓qF,TGt,readG,memF_eq H,memF_set H,readM,h0,h1,h2,h3,w0,w1,w2,w3,v1,v2,v3,v4,e0,e1,e2,e3,M.at_tick,M.tick_has,M.tick_tick,put,setM_fun H,decG,unpackG,wordsR,pairV,R.lend,R.unlend,S_ren,C.ren,V.ren,Blk.ren,take_app,drop_app,Nat.not_lt_zero,Nat.lt_irrefl,Nat.add_sub_cancel_left,Nat.not_lt,Nat.le_add_right,decI,arr,Ic,Uc,List.take,eB,eV,u0,u1,u2,hd,c2,capZ,Cap.cl,fillP,nlt,hcm,sub,EVt]
     first|exact hS|exact fun _ _=>hS
 ·exact hS.elim
end Go.Proofs.YtcdfofeolgbnbaaGreat

/- Package slots: the document's Get,Put,Empty. -/
namespace Go.Proofs.YtcdfofeolgbnbaaGreat
open Go.D
open Nat (reduceAdd reducePow reduceMul reduceSub reduceLeDiff reduceLT reduceEqDiff)
open Int (reduceNeg reduceLE reduceEq reduceNe reduceToNat)
open Go.D renaming istep → zy,pickR → zx,bin1R → zw,un1R → zv,eqS → zu,eq1 → zq,cmpS → zp,cmp1 → zj,isNil → zk,shows → zg,result → zZ,qT → zV,qF → zU
open List renaming set → zY,replicate → zX
open Option renaming map → zW
open Nat renaming reduceAdd → zQ,reducePow → yz,reduceMul → yy,reduceSub → yx,reduceLeDiff → yw,reduceLT → yv,reduceEqDiff → yu
open Int renaming reduceNeg → yq,reduceLE → yp,reduceEq → yj,reduceNe → yk,reduceToNat → yg,reducePow → yZ,reduceLT → yY,reduceAdd → yX,reduceSub → yW,reduceMul → yV,reduceBEq → yU,reduceBNe → yQ
set_option linter.all false
set_option maxRecDepth 100000
set_option maxHeartbeats 4000000

noncomputable def TGr:Tab:=addT 172 sthereG (addT 179 readG (addT 180 decG (addT 173 slotRG (addT 174 encG (addT 175 writeG noT)))))
theorem TGr_snd:TGr.Snd Tryz.prog:=addT_snd ok172 rat_snd (addT_snd ok179 rread_snd (addT_snd ok180 rdec_snd (addT_snd ok173 rslotR_snd (addT_snd ok174 renc_snd (addT_snd ok175 rwrite_snd (noT_snd _))))))
theorem min16:min 16 IntKind.u64.bits=16:=rfl
theorem min32:min 32 IntKind.u64.bits=32:=rfl
theorem rgetS_snd:Snd Tryz.prog 126 (FSpec.of getSG):=snd_run TGr_snd mixed Tryz.func126 dc126 300 fun args h K hc hS=>by
 obtain ⟨a,b,m,rest,rfl,H,hS1⟩:=memF_spec hS
 clear hS
 have hS:=hS1
 clear hS1
 unfold getSM at hS
 split at hS
 ·rename_i x
  simp only [spec_ok,spec_br,setM_self H] at hS
  have hl:=m.l
  cases ht:thereB m x with
  | false =>
   have hS:=hS.2 ht
   simp (maxSteps:=999999) only [EV0,zy,zx,zw,zv,zu,zq,zp,zj,zk,leT,zg,rvC,zZ,zY,zX,zW,↓zV,↓zU,reduceCtorEq,zQ,yz,yZ,yy,yx,yw,yv,yu,yq,yY,yp,yj,yk,yX,yW,yV,yg,yU,yQ,df126,TGr,sthereG,memF_eq H,sthereM,setM_self H,ht,put,fillP,sub,EVt]
   exact hS
  | true =>
   have hS:=hS.1 ht
   have hb:=there_iff.1 ht
   have h0:m.has x 1=true:=M.has_of (by omega)
   have h1:m.has (x+1) 1=true:=M.has_of (by omega)
   have h2:m.has (x+2) 1=true:=M.has_of (by omega)
   have h3:m.has (x+3) 1=true:=M.has_of (by omega)
   have w1:IntKind.i64.wrap (x+1)=x+1:=wrap64 (by omega) (by omega)
   have w2:IntKind.i64.wrap (x+2)=x+2:=wrap64 (by omega) (by omega)
   have w3:IntKind.i64.wrap (x+3)=x+3:=wrap64 (by omega) (by omega)
   have u0:=m.at_u x
   have u1:=m.at_u (x+1)
   have u2:=m.at_u (x+2)
   simp only [M.slotB,M.slotC] at hS
   obtain ⟨a0,e0⟩:∃ a,m.at x=a:=⟨_,rfl⟩
   obtain ⟨a1,e1⟩:∃ a,m.at (x+1)=a:=⟨_,rfl⟩
   obtain ⟨a2,e2⟩:∃ a,m.at (x+2)=a:=⟨_,rfl⟩
   obtain ⟨a3,e3⟩:∃ a,m.at (x+3)=a:=⟨_,rfl⟩
   rw [e0] at u0 hS
   rw [e1] at u1 hS
   rw [e2] at u2 hS
   rw [e3] at hS
   obtain ⟨a2,rfl,_⟩:=u2.nat
   have t0:((a2:Int)).tmod 65536=(a2:Int)%65536:=Int.tmod_eq_emod_of_nonneg (by omega)
   have t1:((a2:Int)/65536).tmod 65536=(a2:Int)/65536%65536:=Int.tmod_eq_emod_of_nonneg (by omega)
   have t2:((a2:Int)/4294967296).tmod 65536=(a2:Int)/4294967296%65536:=Int.tmod_eq_emod_of_nonneg (by omega)
   have i0:IntKind.i64.wrap ((a2:Int)%65536)=(a2:Int)%65536:=wrap64 (by omega) (by omega)
   have i1:IntKind.i64.wrap ((a2:Int)/65536%65536)=(a2:Int)/65536%65536:=wrap64 (by omega) (by omega)
   have i2:IntKind.i64.wrap ((a2:Int)/4294967296%65536)=(a2:Int)/4294967296%65536:=wrap64 (by omega) (by omega)
   have c2:(281474976710656<=(a2:Int))=¬ ((a2:Int)/281474976710656=0):=propext (by omega)
   cases hd:decB a0 a1 with
   | false =>
    have hS:=hS.2 (by simp only [slotB,hd,Bool.false_and])
    cases hr:slotRB ⟨capZ,(a2:Int)%65536,(a2:Int)/65536%65536,(a2:Int)/4294967296%65536⟩
    all_goals simp only [capZ] at hr
    all_goals simp (maxSteps:=999999) only [EV0,zy,zx,zw,zv,zu,zq,zp,zj,zk,leT,zg,rvC,zZ,zY,zX,zW,↓zV,↓zU,reduceCtorEq,zQ,yz,yZ,yy,yx,yw,yv,yu,yq,yY,yp,yj,yk,yX,yW,yV,yg,yU,yQ,df126,TGr,sthereG,memF_eq H,memF_set H,sthereM,setM_self H,setM_fun H,ht,readG,readM,h0,h1,h2,h3,w1,w2,w3,e0,e1,e2,e3,M.at_tick,M.tick_has,M.tick_tick,decG,slotRG,slotF,cap_eta,u0,u1,u2,t0,t1,t2,i0,i1,i2,hd,hr,min16,min32,capZ,Cap.cl,put,fillP,sub,EVt]
    all_goals exact hS
   | true =>
    by_cases hx:slotB a0 a1 a2 a3=true
    ·have hS:=hS.1 hx
     simp only [slotB,hd,Bool.true_and,Bool.and_eq_true,decide_eq_true_eq,beq_iff_eq] at hx
     obtain ⟨c3,c4,hr⟩:=hx
     simp only [slotC] at hr
     simp only [slotC,Slot.cl] at hS
     simp (maxSteps:=999999) only [EV0,zy,zx,zw,zv,zu,zq,zp,zj,zk,leT,zg,rvC,zZ,zY,zX,zW,↓zV,↓zU,reduceCtorEq,zQ,yz,yZ,yy,yx,yw,yv,yu,yq,yY,yp,yj,yk,yX,yW,yV,yg,yU,yQ,df126,TGr,sthereG,memF_eq H,memF_set H,sthereM,setM_self H,setM_fun H,ht,readG,readM,h0,h1,h2,h3,w1,w2,w3,e0,e1,e2,e3,M.at_tick,M.tick_has,M.tick_tick,decG,slotRG,slotF,cap_eta,u0,u1,u2,t0,t1,t2,i0,i1,i2,hd,hr,c2,c3,c4,min16,min32,capZ,Cap.cl,put,fillP,sub,EVt]
     exact hS
    ·have hS:=hS.2 (by simpa using hx)
     by_cases c3:(a2:Int)/281474976710656=0
     all_goals by_cases c4:a3=0
     all_goals cases hr:slotRB (slotC a0 a1 a2)
     all_goals try (exfalso; apply hx; simp [slotB,hd,c3,c4,hr]; done)
     all_goals simp only [slotC] at hr
     all_goals simp (maxSteps:=999999) only [EV0,zy,zx,zw,zv,zu,zq,zp,zj,zk,leT,zg,rvC,zZ,zY,zX,zW,↓zV,↓zU,reduceCtorEq,zQ,yz,yZ,yy,yx,yw,yv,yu,yq,yY,yp,yj,yk,yX,yW,yV,yg,yU,yQ,df126,TGr,sthereG,memF_eq H,memF_set H,sthereM,setM_self H,setM_fun H,ht,readG,readM,h0,h1,h2,h3,w1,w2,w3,e0,e1,e2,e3,M.at_tick,M.tick_has,M.tick_tick,decG,slotRG,slotF,cap_eta,u0,u1,u2,t0,t1,t2,i0,i1,i2,hd,hr,c2,c3,c4,min16,min32,capZ,Cap.cl,put,fillP,sub,EVt]
     all_goals exact hS
 ·exact hS.elim

/-! ### Empty -/
def emptySM (b:Nat) (m:M) (st:M->List Blk):List V->Res
 | [.s (.i .i64 a)]=>.br (thereB m a) (.br (m.slotB a) (.ok (.tup [.s (.b (m.slotC a).isZ), .s (.i .i64 0)]) [] (st (m.tick 4))) (.ok (.tup [.s (.b false), .s (.i .i64 110)]) [] (st (m.tick 4))))
   (.ok (.tup [.s (.b false), .s (.i .i64 20)]) [] (st m))
 | _=>.bad
noncomputable def emptySG:=memF emptySM
noncomputable def TEm:Tab:=addT 26 getSG (addT 126 getSG noT)
theorem TEm_snd:TEm.Snd Tryz.prog:=addT_snd ok26 getS_snd (addT_snd ok126 rgetS_snd (noT_snd _))
theorem slot_null {s:Slot} (h:slotRB s=true):(s.cap.ty==0)=s.isZ:=by
 cases hz:s.isZ with
 | true=>rw [Slot.isZ_iff.1 hz]; rfl
 | false =>
  simp only [slotRB,hz,Bool.not_false,Bool.and_true,Bool.and_eq_true,Bool.not_eq_true'] at h
  exact h.1
theorem emptyS_snd:Snd Tryz.prog 125 (FSpec.of emptySG):=snd_run TEm_snd mixed Tryz.func125 dc125 200 fun args h K hc hS=>by
 obtain ⟨a,b,m,rest,rfl,H,hS1⟩:=memF_spec hS
 clear hS
 have hS:=hS1
 clear hS1
 unfold emptySM at hS
 split at hS
 ·rename_i x
  simp only [spec_ok,spec_br,setM_self H] at hS
  cases ht:thereB m x with
  | false =>
   have hS:=hS.2 ht
   simp (maxSteps:=999999) only [EV0,zy,zx,zw,zv,zu,zq,zp,zj,zk,leT,zg,rvC,zZ,zY,zX,zW,↓zV,↓zU,reduceCtorEq,zQ,yz,yZ,yy,yx,yw,yv,yu,yq,yY,yp,yj,yk,yX,yW,yV,yg,yU,yQ,df125,TEm,getSG,memF_eq H,getSM,setM_self H,ht,slotZ,capZ,Slot.cl,put,fillP,sub,EVt]
   exact hS
  | true =>
   have hS:=hS.1 ht
   cases hb:m.slotB x with
   | false =>
    have hS:=hS.2 hb
    simp (maxSteps:=999999) only [EV0,zy,zx,zw,zv,zu,zq,zp,zj,zk,leT,zg,rvC,zZ,zY,zX,zW,↓zV,↓zU,reduceCtorEq,zQ,yz,yZ,yy,yx,yw,yv,yu,yq,yY,yp,yj,yk,yX,yW,yV,yg,yU,yQ,df125,TEm,getSG,memF_eq H,getSM,setM_self H,ht,hb,slotZ,capZ,Slot.cl,put,fillP,sub,EVt]
    exact hS
   | true =>
    have hS:=hS.1 hb
    simp only [Slot.isZ] at hS
    simp (maxSteps:=999999) only [EV0,zy,zx,zw,zv,zu,zq,zp,zj,zk,leT,zg,rvC,zZ,zY,zX,zW,↓zV,↓zU,reduceCtorEq,zQ,yz,yZ,yy,yx,yw,yv,yu,yq,yY,yp,yj,yk,yX,yW,yV,yg,yU,yQ,df125,TEm,getSG,memF_eq H,getSM,setM_self H,ht,hb,slotZ,capZ,Slot.cl,put,fillP,sub,EVt]
    exact hS
 ·exact hS.elim

theorem M.put_tick (m:M) (k:Int) (i:Nat) (x:Int):(m.tick k).put i x=(m.put i x).tick k:=rfl
def Slot.links (s:Slot):Int:=s.prev+65536*s.next+4294967296*s.depth
def M.putS (m:M) (a:Int) (s:Slot):M:=((((m.put a.toNat s.cap.w0).put (a+1).toNat s.cap.num).put (a+2).toNat s.links).put (a+3).toNat 0).tick 4
def putSM (b:Nat) (m:M) (st:M->List Blk):List V->Res
 | [.s (.i .i64 a),x]=>slotF (fun s=>.br (thereB m a) (.br (slotRB s) (.ok (.s (.i .i64 0)) [] (st (m.putS a s))) (.ok (.s (.i .i64 110)) [] (st m))) (.ok (.s (.i .i64 20)) [] (st m))) [x]
 | _=>.bad
noncomputable def putSG:=memF putSM
theorem putSM_spec {b:Nat} {m:M} {st:M->List Blk} {args:List V} {K:V->List Blk->Prop} (h:(putSM b m st args).spec K) :
  ∃ a s,args=[.s (.i .i64 a), .agg s.cl]/\(thereB m a=false->K (.s (.i .i64 20)) (st m))/\(thereB m a=true->slotRB s=false->K (.s (.i .i64 110)) (st m))/\(thereB m a=true->slotRB s=true->K (.s (.i .i64 0)) (st (m.putS a s))):=by
 unfold putSM at h
 split at h
 ·rename_i a x
  obtain ⟨s,e,h⟩:=slotF_spec h
  simp only [List.cons.injEq,and_true] at e
  subst e
  have h:(thereB m a=true->(slotRB s=true->K _ _)/\(slotRB s=false->K _ _))/\(thereB m a=false->K _ _):=h
  exact ⟨a,s,rfl,h.2,fun e=>(h.1 e).2,fun e=>(h.1 e).1⟩
 ·exact h.elim

def pfldG:List V->List Blk->Res
 | [.s (.i .i64 n)],h=>.ok (.agg [.i .i64 16, .i .u64 (IntKind.u64.wrap n)]) [] h
 | _,_=>.bad
theorem pfld_snd:Snd Tryz.prog 139 (FSpec.of pfldG):=snd_run (noT_snd _) mixed Tryz.func139 dc139 100 fun args h K _ hS=>by
 unfold pfldG at hS
 split at hS
 ·simp only [spec_ok] at hS
  simp (maxSteps:=999999) only [EV0,zy,zx,zw,zv,zu,zq,zp,zj,zk,leT,zg,rvC,zZ,zY,zX,zW,↓zV,↓zU,reduceCtorEq,zQ,yz,yZ,yy,yx,yw,yv,yu,yq,yY,yp,yj,yk,yX,yW,yV,yg,yU,yQ,df139,put,fillP,sub,EVt]
  exact hS
 ·exact hS.elim
theorem slotRB_iff {s:Slot} (h:slotRB s=true):rightB s.cap=true/\(0<=s.prev/\s.prev<65536/\s.prev%4=0)/\(0<=s.next/\s.next<65536/\s.next%4=0)/\0<=s.depth/\s.depth<65536:=by
 simp only [slotRB,linkB,Bool.and_eq_true,decide_eq_true_eq,beq_iff_eq] at h
 obtain ⟨_,h1,⟨p1,p2,p3⟩,⟨n1,n2,n3⟩,d1,d2⟩:=h
 rw [Int.tmod_eq_emod_of_nonneg p1] at p3
 rw [Int.tmod_eq_emod_of_nonneg n1] at n3
 exact ⟨h1,⟨p1,p2,p3⟩,⟨n1,n2,n3⟩,d1,d2⟩
theorem links_B {s:Slot} (h:slotRB s=true):packB [⟨16,s.prev⟩,⟨16,s.next⟩,⟨16,s.depth⟩] 0=true:=by
 obtain ⟨_,h1,h2,h3⟩:=slotRB_iff h
 simp only [packB,setB,fieldB,Bool.and_eq_true,decide_eq_true_eq]
 simp only [Int.reduceAdd,Int.reduceSub,reduceLE,reduceToNat,reducePow,true_and,and_true]
 omega
theorem links_V {s:Slot} (h:slotRB s=true):packV [⟨16,s.prev⟩,⟨16,s.next⟩,⟨16,s.depth⟩] 0=s.links:=by
 obtain ⟨_,h1,h2,h3⟩:=slotRB_iff h
 simp only [packV,Int.reduceAdd,reduceToNat,reducePow,Slot.links]
 omega
theorem links_u {s:Slot} (h:slotRB s=true):u64 s.links:=by
 obtain ⟨_,h1,h2,h3⟩:=slotRB_iff h
 simp only [u64,Slot.links]; omega

noncomputable def TPu:Tab:=addT 85 sthereG (addT 89 slotRG (addT 138 encG (addT 139 pfldG (addT 140 packG (addT 141 writeG noT)))))
theorem TPu_snd:TPu.Snd Tryz.prog:=addT_snd ok85 sthere_snd (addT_snd ok89 slotR_snd (addT_snd ok138 enc_snd (addT_snd ok139 pfld_snd (addT_snd ok140 pack_snd (addT_snd ok141 mwrite_snd (noT_snd _))))))
theorem putS_snd:Snd Tryz.prog 79 (FSpec.of putSG):=snd_run TPu_snd mixed Tryz.func79 dc79 300 fun args h K hc hS=>by
 obtain ⟨a,b,m,rest,rfl,H,hS1⟩:=memF_spec hS
 clear hS
 have hS:=hS1
 clear hS1
 obtain ⟨x,s,rfl,q1,q2,q3⟩:=putSM_spec hS
 clear hS
 rw [setM_self H] at q1 q2
 have hl:=m.l
 cases ht:thereB m x with
 | false =>
  have hS:=q1 ht
  simp only [Slot.cl]
  simp (maxSteps:=999999) only [EV0,zy,zx,zw,zv,zu,zq,zp,zj,zk,leT,zg,rvC,zZ,zY,zX,zW,↓zV,↓zU,reduceCtorEq,zQ,yz,yZ,yy,yx,yw,yv,yu,yq,yY,yp,yj,yk,yX,yW,yV,yg,yU,yQ,df79,TPu,sthereG,memF_eq H,sthereM,setM_self H,ht]
  exact hS
 | true =>
  cases hr:slotRB s with
  | false =>
   have hS:=q2 ht hr
   simp only [Slot.cl]
   simp (maxSteps:=999999) only [EV0,zy,zx,zw,zv,zu,zq,zp,zj,zk,leT,zg,rvC,zZ,zY,zX,zW,↓zV,↓zU,reduceCtorEq,zQ,yz,yZ,yy,yx,yw,yv,yu,yq,yY,yp,yj,yk,yX,yW,yV,yg,yU,yQ,df79,TPu,sthereG,memF_eq H,sthereM,setM_self H,ht,slotRG,slotF,slot_eta,hr,sub,EVt]
   exact hS
  | true =>
   have hS:=q3 ht hr
   have hb:=there_iff.1 ht
   obtain ⟨rc,⟨p1,p2,_⟩,⟨n1,n2,_⟩,d1,d2⟩:=slotRB_iff hr
   obtain ⟨u0,u1,_,_⟩:=enc_back rc
   have u2:=links_u hr
   have eB:=links_B hr
   have eV:=links_V hr
   have h0:m.has x 1=true:=M.has_of (by omega)
   have h1:m.has (x+1) 1=true:=M.has_of (by omega)
   have h2:m.has (x+2) 1=true:=M.has_of (by omega)
   have h3:m.has (x+3) 1=true:=M.has_of (by omega)
   have w0:IntKind.i64.wrap (x+0)=x:=by rw [wrap64]<;>omega
   have w1:IntKind.i64.wrap (x+1)=x+1:=wrap64 (by omega) (by omega)
   have w2:IntKind.i64.wrap (x+2)=x+2:=wrap64 (by omega) (by omega)
   have w3:IntKind.i64.wrap (x+3)=x+3:=wrap64 (by omega) (by omega)
   have v1:IntKind.i64.wrap 1=1:=by decide
   have v2:IntKind.i64.wrap 2=2:=by decide
   have v3:IntKind.i64.wrap 3=3:=by decide
   have v4:IntKind.i64.wrap 4=4:=by decide
   have x1:IntKind.u64.wrap s.prev=s.prev:=wrapu p1 (by omega)
   have x2:IntKind.u64.wrap s.next=s.next:=wrapu n1 (by omega)
   have x3:IntKind.u64.wrap s.depth=s.depth:=wrapu d1 (by omega)
   have y1:u64 s.prev:=⟨p1,by omega⟩
   have y2:u64 s.next:=⟨n1,by omega⟩
   have y3:u64 s.depth:=⟨d1,by omega⟩
   have u3:=u64_0
   simp only [M.putS] at hS
   simp only [Slot.cl]
   simp (maxSteps:=999999) only [EV0,zy,zx,zw,zv,zu,zq,zp,zj,zk,leT,zg,rvC,zZ,zY,zX,zW,↓zV,↓zU,reduceCtorEq,zQ,yz,yZ,yy,yx,yw,yv,yu,yq,yY,yp,yj,yk,yX,yW,yV,yg,yU,yQ,df79,TPu,sthereG,memF_eq H,sthereM,setM_self H,ht,slotRG,slotF,slot_eta,cap_eta,hr,rc,encG,capF,pfldG,packG,R.lend,R.unlend,S_ren,C.ren,V.ren,Blk.ren,take_app,drop_app,Nat.not_lt_zero,Nat.lt_irrefl,Nat.add_sub_cancel_left,Nat.not_lt,Nat.le_add_right,decF,arr,Fd.c,List.take,eB,eV,x1,x2,x3,put,fillP,sub,EVt]
   refine ⟨?_,hc, ?_⟩
   ·intro f hf
    simp only [List.mem_cons,List.not_mem_nil,or_false] at hf
    rcases hf with rfl|rfl|rfl<;>assumption
   rw [holds_loop]
   refine swp_loop fun X hX=>?_
   refine hX _ ?_
   refine run_sound (Tab.ok_Γ _) 200 _ _ _ _ ?_
   simp (maxSteps:=999999) only [EV0,zy,zx,zw,zv,zu,zq,zp,zj,zk,leT,zg,rvC,zZ,zY,zX,zW,↓zV,↓zU,reduceCtorEq,zQ,yz,yZ,yy,yx,yw,yv,yu,yq,yY,yp,yj,yk,yX,yW,yV,yg,yU,yQ,TPu,writeG,memF_eq H,memF_set H,writeM,h0,h1,h2,h3,w0,w1,w2,w3,v1,v2,v3,v4,u0,u1,u2,u3,M.put_has,M.tick_has,M.put_tick,M.tick_tick,put,setM_fun H]
   refine hX _ ?_
   refine run_sound (Tab.ok_Γ _) 200 _ _ _ _ ?_
   simp (maxSteps:=999999) only [EV0,zy,zx,zw,zv,zu,zq,zp,zj,zk,leT,zg,rvC,zZ,zY,zX,zW,↓zV,↓zU,reduceCtorEq,zQ,yz,yZ,yy,yx,yw,yv,yu,yq,yY,yp,yj,yk,yX,yW,yV,yg,yU,yQ,TPu,writeG,memF_eq H,memF_set H,writeM,h0,h1,h2,h3,w0,w1,w2,w3,v1,v2,v3,v4,u0,u1,u2,u3,M.put_has,M.tick_has,M.put_tick,M.tick_tick,put,setM_fun H]
   refine hX _ ?_
   refine run_sound (Tab.ok_Γ _) 200 _ _ _ _ ?_
   simp (maxSteps:=999999) only [EV0,zy,zx,zw,zv,zu,zq,zp,zj,zk,leT,zg,rvC,zZ,zY,zX,zW,↓zV,↓zU,reduceCtorEq,zQ,yz,yZ,yy,yx,yw,yv,yu,yq,yY,yp,yj,yk,yX,yW,yV,yg,yU,yQ,TPu,writeG,memF_eq H,memF_set H,writeM,h0,h1,h2,h3,w0,w1,w2,w3,v1,v2,v3,v4,u0,u1,u2,u3,M.put_has,M.tick_has,M.put_tick,M.tick_tick,put,setM_fun H]
   refine hX _ ?_
   refine run_sound (Tab.ok_Γ _) 200 _ _ _ _ ?_
   simp (maxSteps:=999999) only [EV0,zy,zx,zw,zv,zu,zq,zp,zj,zk,leT,zg,rvC,zZ,zY,zX,zW,↓zV,↓zU,reduceCtorEq,zQ,yz,yZ,yy,yx,yw,yv,yu,yq,yY,yp,yj,yk,yX,yW,yV,yg,yU,yQ,TPu,writeG,memF_eq H,memF_set H,writeM,h0,h1,h2,h3,w0,w1,w2,w3,v1,v2,v3,v4,u0,u1,u2,u3,M.put_has,M.tick_has,M.put_tick,M.tick_tick,put,setM_fun H]
   refine hX _ ?_
   refine run_sound (Tab.ok_Γ _) 200 _ _ _ _ ?_
   simp (maxSteps:=999999) only [EV0,zy,zx,zw,zv,zu,zq,zp,zj,zk,leT,zg,rvC,zZ,zY,zX,zW,↓zV,↓zU,reduceCtorEq,zQ,yz,yZ,yy,yx,yw,yv,yu,yq,yY,yp,yj,yk,yX,yW,yV,yg,yU,yQ,TPu,writeG,memF_eq H,memF_set H,writeM,h0,h1,h2,h3,w0,w1,w2,w3,v1,v2,v3,v4,u0,u1,u2,u3,M.put_has,M.tick_has,M.put_tick,M.tick_tick,put,setM_fun H]
   exact hS

theorem rputS_snd:Snd Tryz.prog 118 (FSpec.of putSG):=snd_run TGr_snd mixed Tryz.func118 dc118 300 fun args h K hc hS=>by
 obtain ⟨a,b,m,rest,rfl,H,hS1⟩:=memF_spec hS
 clear hS
 have hS:=hS1
 clear hS1
 obtain ⟨x,s,rfl,q1,q2,q3⟩:=putSM_spec hS
 clear hS
 rw [setM_self H] at q1 q2
 have hl:=m.l
 cases ht:thereB m x with
 | false =>
  have hS:=q1 ht
  simp only [Slot.cl]
  simp (maxSteps:=999999) only [EV0,zy,zx,zw,zv,zu,zq,zp,zj,zk,leT,zg,rvC,zZ,zY,zX,zW,↓zV,↓zU,reduceCtorEq,zQ,yz,yZ,yy,yx,yw,yv,yu,yq,yY,yp,yj,yk,yX,yW,yV,yg,yU,yQ,df118,TGr,sthereG,memF_eq H,sthereM,setM_self H,ht]
  exact hS
 | true =>
  cases hr:slotRB s with
  | false =>
   have hS:=q2 ht hr
   simp only [Slot.cl]
   simp (maxSteps:=999999) only [EV0,zy,zx,zw,zv,zu,zq,zp,zj,zk,leT,zg,rvC,zZ,zY,zX,zW,↓zV,↓zU,reduceCtorEq,zQ,yz,yZ,yy,yx,yw,yv,yu,yq,yY,yp,yj,yk,yX,yW,yV,yg,yU,yQ,df118,TGr,sthereG,memF_eq H,sthereM,setM_self H,ht,slotRG,slotF,slot_eta,hr,sub,EVt]
   exact hS
  | true =>
   have hS:=q3 ht hr
   have hb:=there_iff.1 ht
   obtain ⟨rc,⟨p1,p2,_⟩,⟨n1,n2,_⟩,d1,d2⟩:=slotRB_iff hr
   obtain ⟨u0,u1,_,_⟩:=enc_back rc
   have u2:=links_u hr
   have h0:m.has x 1=true:=M.has_of (by omega)
   have h1:m.has (x+1) 1=true:=M.has_of (by omega)
   have h2:m.has (x+2) 1=true:=M.has_of (by omega)
   have h3:m.has (x+3) 1=true:=M.has_of (by omega)
   have w1:IntKind.i64.wrap (x+1)=x+1:=wrap64 (by omega) (by omega)
   have w2:IntKind.i64.wrap (x+2)=x+2:=wrap64 (by omega) (by omega)
   have w3:IntKind.i64.wrap (x+3)=x+3:=wrap64 (by omega) (by omega)
   have x1:IntKind.u64.wrap s.prev=s.prev:=wrapu p1 (by omega)
   have x2:IntKind.u64.wrap s.next=s.next:=wrapu n1 (by omega)
   have x3:IntKind.u64.wrap s.depth=s.depth:=wrapu d1 (by omega)
   have x4:IntKind.u64.wrap (s.next*65536)=s.next*65536:=wrapu (by omega) (by omega)
   have x5:IntKind.u64.wrap (s.depth*4294967296)=s.depth*4294967296:=wrapu (by omega) (by omega)
   have x6:IntKind.u64.wrap (s.prev+s.next*65536)=s.prev+s.next*65536:=wrapu (by omega) (by omega)
   have x7:IntKind.u64.wrap (s.prev+s.next*65536+s.depth*4294967296)=s.links:=by
    rw [wrapu (by omega) (by omega),Slot.links]; omega
   have u3:=u64_0
   simp only [M.putS] at hS
   simp only [Slot.cl]
   simp (maxSteps:=999999) only [EV0,zy,zx,zw,zv,zu,zq,zp,zj,zk,leT,zg,rvC,zZ,zY,zX,zW,↓zV,↓zU,reduceCtorEq,zQ,yz,yZ,yy,yx,yw,yv,yu,yq,yY,yp,yj,yk,yX,yW,yV,yg,yU,yQ,df118,TGr,sthereG,memF_eq H,memF_set H,sthereM,setM_self H,setM_fun H,ht,slotRG,slotF,slot_eta,cap_eta,hr,rc,encG,capF,writeG,writeM,h0,h1,h2,h3,w1,w2,w3,u0,u1,u2,u3,M.put_has,M.tick_has,M.put_tick,M.tick_tick,x1,x2,x3,x4,x5,x6,x7,min16,min32,put,fillP,sub,EVt]
   exact hS
end Go.Proofs.YtcdfofeolgbnbaaGreat

/- Lists of words: the document's Load,Same. -/
namespace Go.Proofs.YtcdfofeolgbnbaaGreat
open Go.D
set_option linter.all false
set_option maxRecDepth 100000
set_option maxHeartbeats 4000000

theorem eq_of_nth {v w:List Int} (hl:v.length=w.length) (h:∀ i,i<v.length->nth 0 v i=nth 0 w i):v=w :=
 List.ext_getElem hl fun i h1 h2=>by have:=h i h1; rwa [nth_eq h1,nth_eq h2] at this

theorem M.putS_len (m:M) (a:Int) (s:Slot):(m.putS a s).w.length=m.w.length:=by simp only [M.putS,M.tick_len,M.put_len]
theorem M.putS_there (m:M) (a b:Int) (s:Slot):thereB (m.putS a s) b=thereB m b:=by simp only [thereB,M.putS_len]
theorem uw_0:uw 0=0:=rfl
theorem M.at_putS {m:M} {a:Int} {s:Slot} (ht:thereB m a=true) (hr:slotRB s=true) {j:Int} (hj:0<=j) :
  (m.putS a s).at j=if j=a then s.cap.w0 else if j=a+1 then s.cap.num else if j=a+2 then s.links else if j=a+3 then 0 else m.at j:=by
 have hb:=there_iff.1 ht
 obtain ⟨u0,u1,_,_⟩:=enc_back (slotRB_iff hr).1
 have u2:=links_u hr
 simp only [M.putS,M.at_tick,M.at_put,M.put_len,uw_of u0,uw_of u1,uw_of u2,uw_0]
 by_cases h0:j=a
 ·subst h0
  rw [if_neg (by omega),if_neg (by omega),if_neg (by omega),if_pos (by omega),if_pos rfl]
 ·rw [if_neg h0]
  by_cases h1:j=a+1
  ·subst h1
   rw [if_neg (by omega),if_neg (by omega),if_pos (by omega),if_pos rfl]
  ·rw [if_neg h1]
   by_cases h2:j=a+2
   ·subst h2
    rw [if_neg (by omega),if_pos (by omega),if_pos rfl]
   ·rw [if_neg h2]
    by_cases h3:j=a+3
    ·subst h3
     rw [if_pos (by omega),if_pos rfl]
    ·rw [if_neg h3,if_neg (by omega),if_neg (by omega),if_neg (by omega),if_neg (by omega)]
theorem slot_back {s:Slot} (hr:slotRB s=true):slotB s.cap.w0 s.cap.num s.links 0=true/\slotC s.cap.w0 s.cap.num s.links=s:=by
 obtain ⟨rc,h1,h2,h3⟩:=slotRB_iff hr
 obtain ⟨_,_,e1,e2⟩:=enc_back rc
 have e:slotC s.cap.w0 s.cap.num s.links=s:=by
  obtain ⟨c,p,n,d⟩:=s
  simp only at h1 h2 h3 e2
  simp only [slotC,e2,Slot.links,Slot.mk.injEq,true_and]
  omega
 refine ⟨?_,e⟩
 have hl:s.links/281474976710656=0:=by simp only [Slot.links]; omega
 simp only [slotB,e1,e,hr,hl,decide_true,Bool.true_and,beq_self_eq_true,Bool.and_true]
theorem M.putS_slot {m:M} {a:Int} {s:Slot} (ht:thereB m a=true) (hr:slotRB s=true):(m.putS a s).slotB a=true/\(m.putS a s).slotC a=s:=by
 have hb:=there_iff.1 ht
 simp only [M.slotB,M.slotC]
 rw [M.at_putS ht hr (by omega),M.at_putS ht hr (by omega),M.at_putS ht hr (by omega),M.at_putS ht hr (by omega)]
 simp only [if_true]
 rw [if_neg (by omega),if_neg (by omega),if_neg (by omega),if_neg (by omega),if_neg (by omega),if_neg (by omega)]
 exact slot_back hr
theorem M.putS_other {m:M} {a b:Int} {s:Slot} (ht:thereB m a=true) (hr:slotRB s=true) (hb:thereB m b=true) (hn:a≠b):(m.putS a s).slotB b=m.slotB b/\(m.putS a s).slotC b=m.slotC b:=by
 have h1:=there_iff.1 ht
 have h2:=there_iff.1 hb
 rw [Int.tmod_eq_emod_of_nonneg (by omega)] at h1 h2
 have e:∀ k:Int,0<=k->k<=3->(m.putS a s).at (b+k)=m.at (b+k):=fun k h3 h4=>by
  rw [M.at_putS ht hr (by omega),if_neg (by omega),if_neg (by omega),if_neg (by omega),if_neg (by omega)]
 have e0:=e 0 (by omega) (by omega)
 rw [Int.add_zero] at e0
 simp only [M.slotB,M.slotC,e0,e 1 (by omega) (by omega),e 2 (by omega) (by omega),e 3 (by omega) (by omega),and_self]

noncomputable def keptF (f:Int->Int->Int->Nat->M->(M->List Blk)->List V->Res):List V->List Blk->Res
 | .agg [.i .i64 x, .i .i64 y, .i .i64 z]::rest,h=>memF (f x y z) rest h
 | _,_=>.bad
theorem keptF_spec {f:Int->Int->Int->Nat->M->(M->List Blk)->List V->Res} {args:List V} {h:List Blk} {K:V->List Blk->Prop} (hS:(keptF f args h).spec K) :
  ∃ x y z a b m rest,args=.agg [.i .i64 x, .i .i64 y, .i .i64 z]::.s (.p (.g a) 0)::rest/\IsMem h a b m/\(f x y z b m (setM h a b) rest).spec K:=by
 unfold keptF at hS
 split at hS
 ·obtain ⟨a,b,m,rest,rfl,H,hS⟩:=memF_spec hS
  exact ⟨_,_,_,a,b,m,rest,rfl,H,hS⟩
 ·exact hS.elim

def keptB (words least:Int) (m:M) (n:Int):Bool:=decide (least<=n)&&(n.tmod words==0&&decide (n<=IntKind.i64.wrap (m.w.length-words)))
def mayM (at_ words least:Int) (b:Nat) (m:M) (st:M->List Blk):List V->Res
 | [.s (.i .i64 n)]=>.ob (words≠0) (.ok (.s (.b (keptB words least m n))) [] (st m))
 | _=>.bad
noncomputable def mayG:=keptF mayM
noncomputable def TMw:Tab:=addT 150 wordsG noT
theorem TMw_snd:TMw.Snd Tryz.prog:=addT_snd ok150 mwords_snd (noT_snd _)
theorem may_snd:Snd Tryz.prog 188 (FSpec.of mayG):=snd_run TMw_snd mixed Tryz.func188 dc188 100 fun args h K hc hS=>by
 obtain ⟨x,y,z,a,b,m,rest,rfl,H,hS1⟩:=keptF_spec hS
 clear hS
 unfold mayM at hS1
 split at hS1
 ·rename_i n
  simp only [spec_ok,spec_ob,setM_self H,keptB] at hS1
  obtain ⟨hy,hS⟩:=hS1
  have hy:¬ y=0:=hy
  by_cases c1:z<=n
  ·cases c2:n.tmod y==0
   ·simp (maxSteps:=999999) only [go_sem,simprocAttr,↓qT,↓qF,df188,TMw,wordsG,memF_eq H,wordsM,setM_self H,hy,c1,c2,sub,EVt]
    simpa [c1,c2] using hS
   ·have c3:n.tmod y=0:=by simpa using c2
    simp (maxSteps:=999999) only [go_sem,simprocAttr,↓qT,↓qF,df188,TMw,wordsG,memF_eq H,wordsM,setM_self H,hy,c1,c2,c3,sub,EVt]
    simpa [c1,c3] using hS
  ·simp (maxSteps:=999999) only [go_sem,simprocAttr,↓qT,↓qF,df188,TMw,wordsG,memF_eq H,wordsM,setM_self H,hy,c1,sub,EVt]
   simpa [c1] using hS
 ·exact hS1.elim

def setM_ (at_ words least:Int) (b:Nat) (m:M) (st:M->List Blk):List V->Res
 | [.s (.i .i64 n)]=>.ob (words≠0) (.br (n==0||keptB words least m n)
   (.br (m.has at_ 1) (.ok (.s (.i .i64 0)) [] (st ((m.put at_.toNat (IntKind.u64.wrap n)).tick 1))) (.ok (.s (.i .i64 20)) [] (st m)))
   (.ok (.s (.i .i64 20)) [] (st m)))
 | _=>.bad
noncomputable def setG_:=keptF setM_
noncomputable def TKs:Tab:=addT 188 mayG (addT 141 writeG (addT 86 readG noT))
theorem TKs_snd:TKs.Snd Tryz.prog:=addT_snd ok188 may_snd (addT_snd ok141 mwrite_snd (addT_snd ok86 mread_snd (noT_snd _)))
theorem wrapu_u (n:Int):u64 (IntKind.u64.wrap n):=by rw [IntKind.wrap_u64]; simp only [u64]; omega
theorem kset_snd:Snd Tryz.prog 143 (FSpec.of setG_):=snd_run TKs_snd mixed Tryz.func143 dc143 100 fun args h K hc hS=>by
 obtain ⟨x,y,z,a,b,m,rest,rfl,H,hS1⟩:=keptF_spec hS
 clear hS
 unfold setM_ at hS1
 split at hS1
 ·rename_i n
  simp only [spec_ok,spec_ob,spec_br,setM_self H] at hS1
  obtain ⟨hy,hS⟩:=hS1
  have hy:¬ y=0:=hy
  have hu:=wrapu_u n
  by_cases c1:n=0
  ·cases hh:m.has x 1
   ·have hS:=(hS.1 (by simp [c1])).2 hh
    simp (maxSteps:=999999) only [go_sem,simprocAttr,↓qT,↓qF,df143,TKs,mayG,keptF,writeG,memF_eq H,writeM,mayM,setM_self H,hy,c1,hh,hu,sub,EVt,wrapu_u]
    exact hS
   ·have hS:=(hS.1 (by simp [c1])).1 hh
    simp (maxSteps:=999999) only [go_sem,simprocAttr,↓qT,↓qF,df143,TKs,mayG,keptF,writeG,memF_eq H,writeM,mayM,setM_self H,hy,c1,hh,hu,sub,EVt,wrapu_u]
    simpa [c1] using hS
  ·cases c2:keptB y z m n
   ·have hS:=hS.2 (by simp [c1,c2])
    simp (maxSteps:=999999) only [go_sem,simprocAttr,↓qT,↓qF,df143,TKs,mayG,keptF,writeG,memF_eq H,writeM,mayM,setM_self H,hy,c1,c2,hu,sub,EVt]
    exact hS
   ·cases hh:m.has x 1
    ·have hS:=(hS.1 (by simp [c2])).2 hh
     simp (maxSteps:=999999) only [go_sem,simprocAttr,↓qT,↓qF,df143,TKs,mayG,keptF,writeG,memF_eq H,writeM,mayM,setM_self H,hy,c1,c2,hh,hu,sub,EVt]
     exact hS
    ·have hS:=(hS.1 (by simp [c2])).1 hh
     simp (maxSteps:=999999) only [go_sem,simprocAttr,↓qT,↓qF,df143,TKs,mayG,keptF,writeG,memF_eq H,writeM,mayM,setM_self H,hy,c1,c2,hh,hu,sub,EVt]
     exact hS
 ·exact hS1.elim

def keptV (words least:Int) (m:M) (w:Int):Int:=if w<=65535/\keptB words least m (IntKind.i64.wrap w)=true then IntKind.i64.wrap w else 0
def getM_ (at_ words least:Int) (b:Nat) (m:M) (st:M->List Blk):List V->Res
 | []=>.ob (words≠0) (.br (m.has at_ 1) (.ok (.s (.i .i64 (keptV words least m (m.at at_)))) [] (st (m.tick 1))) (.ok (.s (.i .i64 (keptV words least m 0))) [] (st m)))
 | _=>.bad
noncomputable def getG_:=keptF getM_
theorem keptB_tick (y z:Int) (m:M) (k n:Int):keptB y z (m.tick k) n=keptB y z m n:=rfl
theorem kget_snd:Snd Tryz.prog 161 (FSpec.of getG_):=snd_run TKs_snd mixed Tryz.func161 dc161 100 fun args h K hc hS=>by
 obtain ⟨x,y,z,a,b,m,rest,rfl,H,hS1⟩:=keptF_spec hS
 clear hS
 unfold getM_ at hS1
 split at hS1
 ·simp only [spec_ok,spec_ob,spec_br,setM_self H] at hS1
  obtain ⟨hy,hS⟩:=hS1
  have hy:¬ y=0:=hy
  cases hh:m.has x 1
  ·have hS:=hS.2 hh
   have w0:IntKind.i64.wrap 0=0:=by decide
   cases c2:keptB y z m 0
   ·simp only [keptV,w0,c2,Bool.false_eq_true,and_false,if_false] at hS
    simp (maxSteps:=999999) only [go_sem,simprocAttr,↓qT,↓qF,df161,TKs,mayG,keptF,readG,memF_eq H,readM,mayM,setM_self H,hy,c2,hh,w0,sub,EVt]
    exact hS
   ·simp only [keptV,w0,c2,if_true,and_true] at hS
    rw [if_pos (by omega)] at hS
    simp (maxSteps:=999999) only [go_sem,simprocAttr,↓qT,↓qF,df161,TKs,mayG,keptF,readG,memF_eq H,readM,mayM,setM_self H,hy,c2,hh,w0,sub,EVt]
    exact hS
  ·have hS:=hS.1 hh
   by_cases c1:m.at x<=65535
   ·have c3:¬ (65535<m.at x):=by omega
    cases c2:keptB y z m (IntKind.i64.wrap (m.at x))
    ·simp only [keptV,c1,c2,Bool.false_eq_true,and_false,if_false] at hS
     simp (maxSteps:=999999) only [go_sem,simprocAttr,↓qT,↓qF,df161,TKs,mayG,keptF,readG,memF_eq H,memF_set H,readM,mayM,setM_self H,hy,c2,c3,hh,keptB_tick,sub,EVt]
     exact hS
    ·simp only [keptV,c1,c2,and_self,if_true] at hS
     simp (maxSteps:=999999) only [go_sem,simprocAttr,↓qT,↓qF,df161,TKs,mayG,keptF,readG,memF_eq H,memF_set H,readM,mayM,setM_self H,hy,c2,c3,hh,keptB_tick,sub,EVt]
     exact hS
   ·have c3:65535<m.at x:=by omega
    simp only [keptV,c1,false_and,if_false] at hS
    simp (maxSteps:=999999) only [go_sem,simprocAttr,↓qT,↓qF,df161,TKs,mayG,keptF,readG,memF_eq H,memF_set H,readM,mayM,setM_self H,hy,c3,hh,keptB_tick,sub,EVt]
    exact hS
 ·exact hS1.elim

end Go.Proofs.YtcdfofeolgbnbaaGreat

