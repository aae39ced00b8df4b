/- Package slots: which slots may be,where. -/
import Derived.Test.YtcdfofeolgbnbaaGreatZ11
import Derived.Test.YtcdfofeolgbnbaaGreatZ16
import Derived.Test.YtcdfofeolgbnbaaGreatZ15
/- Package word: Unpack's law. -/
namespace Go.Proofs.YtcdfofeolgbnbaaGreat
open Go.D
open Nat (reduceAdd reducePow reduceMul reduceSub reduceLeDiff reduceLT reduceEqDiff)
open Int (reduceNeg reduceLE reduceEq reduceNe reduceToNat)
open Go.D renaming istep → zy,pickR → zx,bin1R → zw,un1R → zv,eqS → zu,eq1 → zq,cmpS → zp,cmp1 → zj,isNil → zk,shows → zg,result → zZ,qT → zV,qF → zU
open List renaming set → zY,replicate → zX
open Option renaming map → zW
open Nat renaming reduceAdd → zQ,reducePow → yz,reduceMul → yy,reduceSub → yx,reduceLeDiff → yw,reduceLT → yv,reduceEqDiff → yu
open Int renaming reduceNeg → yq,reduceLE → yp,reduceEq → yj,reduceNe → yk,reduceToNat → yg,reducePow → yZ,reduceLT → yY,reduceAdd → yX,reduceSub → yW,reduceMul → yV,reduceBEq → yU,reduceBNe → yQ
set_option linter.all false
set_option maxRecDepth 100000
set_option maxHeartbeats 4000000

theorem unpack_snd:Snd Tryz.prog 88 (FSpec.of unpackG):=snd_run W2_snd mixed Tryz.func88 dc88 100 fun args h K hc hS=>by
 unfold unpackG at hS
 split at hS
 ·rename_i w h
  obtain ⟨hw,hS⟩:=hS
  obtain ⟨w,rfl,hw'⟩:=hw.nat
  simp only [spec_br,spec_ok,decide_eq_true_eq,decide_eq_false_iff_not] at hS
  simp (maxSteps:=999999) only [EV0,zy,zx,zw,zv,zu,zq,zp,zj,zk,leT,zg,rvC,zZ,zY,zX,zW,↓zV,↓zU,reduceCtorEq,zQ,yz,yZ,yy,yx,yw,yv,yu,yq,yY,yp,yj,yk,yX,yW,yV,yg,yU,yQ,df88]
  refine loop_rule (α:=Unit) [] (fun _=>[]) (fun _=>[]) (fun _=>h) (fun _=>True) (fun _=>0) () trivial .refl ?_
  rintro X _ _ _
  refine run_sound (Tab.ok_Γ _) 100 _ _ _ _ ?_
  simp (maxSteps:=999999) only [EV0,zy,zx,zw,zv,zu,zq,zp,zj,zk,leT,zg,rvC,zZ,zY,zX,zW,↓zV,↓zU,reduceCtorEq,zQ,yz,yZ,yy,yx,yw,yv,yu,yq,yY,yp,yj,yk,yX,yW,yV,yg,yU,yQ,Int.lt_irrefl]
  have m2:min 0 IntKind.u64.bits=0:=rfl
  simp only [m2,Int.reducePow,Int.ediv_one]
  exact ⟨hS.2,hS.1⟩
 ·rename_i w k n c h
  split at hS
  ·rename_i B hk
   obtain ⟨⟨hw,hst,hB,hn,hn64⟩,hS⟩:=hS
   obtain ⟨w,rfl,hw'⟩:=hw.nat
   exact unpack_loop hw' hk hst hB hn hn64 hc hS
  ·exact hS.elim
 ·exact hS.elim

end Go.Proofs.YtcdfofeolgbnbaaGreat

/- Package caps: Decode. -/
namespace Go.Proofs.YtcdfofeolgbnbaaGreat
open Go.D
set_option linter.all false
set_option maxRecDepth 100000
set_option maxHeartbeats 4000000

theorem up_B (w:Nat):unpackB (w:Int) [4,16,5,3,4,6,5] 0=decide ((w:Int)/8796093022208=0):=by
 simp only [unpackB,fieldB,Int.reduceAdd,Int.reduceSub,Int.reduceLE,Int.reduceToNat,Nat.reducePow,true_and,and_true,decide_true,Bool.true_and,Int.toNat_natCast]
 rw [Bool.eq_iff_iff]
 simp only [decide_eq_true_eq,and_self,true_and]
 omega
theorem up_V (w:Nat):unpackV (w:Int) [4,16,5,3,4,6,5] 0=[(w:Int)%16,(w:Int)/16%65536,(w:Int)/1048576%32,(w:Int)/33554432%8,(w:Int)/268435456%16,(w:Int)/4294967296%64,(w:Int)/274877906944%32]:=by
 simp only [unpackV,getV,Int.reduceAdd,Int.reduceToNat,Nat.reducePow,Int.toNat_natCast,Int.natCast_ediv,Int.natCast_emod,Nat.div_one]
 rfl

theorem nlt (n k:Nat):(n+k<n)=False:=by simp
def decC (w0 w1:Int):Cap:=⟨w0%16,w0/16%65536,w0/1048576%32,if w0%16=2\/w0%16=4\/w0%16=5\/w0%16=6\/w0%16=8 then 0 else w1,
 if w0%16=2 then w1 else 0,w0/274877906944%32,if w0%16=4\/w0%16=5 then w1 else 0,w0/33554432%8,w0/4294967296%64,if w0%16=6\/w0%16=8 then w1 else 0,w0/268435456%16⟩
def decB (w0 w1:Int):Bool:=decide (w0/8796093022208=0)&&(decide (w1<4294967296)&&rightB (decC w0 w1))
def capZ:Cap:=⟨0,0,0,0,0,0,0,0,0,0,0⟩
def decG:List V->List Blk->Res
 | [.s (.i .u64 w0), .s (.i .u64 w1)],h=>.ob (u64 w0/\u64 w1) (.br (decB w0 w1) (.ok (.tup [.agg (decC w0 w1).cl, .s (.i .i64 0)]) [] h) (.ok (.tup [.agg capZ.cl, .s (.i .i64 60)]) [] h))
 | _,_=>.bad

def TD:Tab:=addT 88 unpackG (addT 95 rightG noT)
theorem TD_snd:TD.Snd Tryz.prog:=addT_snd ok88 unpack_snd (addT_snd ok95 right_snd (noT_snd _))
theorem dec_snd:Snd Tryz.prog 87 (FSpec.of decG):=snd_run TD_snd mixed Tryz.func87 dc87 300 fun args h K hc hS=>by
 unfold decG at hS
 split at hS
 ·rename_i w0 w1
  obtain ⟨⟨hw0,hw1⟩,hS⟩:=hS
  obtain ⟨w0,rfl,hw0'⟩:=hw0.nat
  simp only [spec_br,spec_ok] at hS
  have eB:=up_B w0
  have eV:=up_V w0
  by_cases hA:(w0:Int)/8796093022208=0
  ·by_cases hB:w1<4294967296
   ·have hB':¬ 4294967296<=w1:=by omega
    have i0:IntKind.i64.wrap ((w0:Int)%16)=(w0:Int)%16:=wrap64 (by omega) (by omega)
    have i1:IntKind.i64.wrap ((w0:Int)/16%65536)=(w0:Int)/16%65536:=wrap64 (by omega) (by omega)
    have i2:IntKind.i64.wrap ((w0:Int)/1048576%32)=(w0:Int)/1048576%32:=wrap64 (by omega) (by omega)
    have i3:IntKind.i64.wrap ((w0:Int)/33554432%8)=(w0:Int)/33554432%8:=wrap64 (by omega) (by omega)
    have i4:IntKind.i64.wrap ((w0:Int)/268435456%16)=(w0:Int)/268435456%16:=wrap64 (by omega) (by omega)
    have i5:IntKind.i64.wrap ((w0:Int)/4294967296%64)=(w0:Int)/4294967296%64:=wrap64 (by omega) (by omega)
    have i6:IntKind.i64.wrap ((w0:Int)/274877906944%32)=(w0:Int)/274877906944%32:=wrap64 (by omega) (by omega)
    have i7:IntKind.i64.wrap w1=w1:=wrap64 (by have:=hw1.1; omega) (by omega)
    simp only [decB,hA,hB,decide_true,Bool.true_and,decC] at hS
    have kk:(w0:Int)%16=2\/(w0:Int)%16=4\/(w0:Int)%16=5\/(w0:Int)%16=6\/(w0:Int)%16=8\/(¬ (w0:Int)%16=2/\¬ (w0:Int)%16=4/\¬ (w0:Int)%16=5/\¬ (w0:Int)%16=6/\¬ (w0:Int)%16=8):=by omega
    generalize (w0:Int)%16=t at *
    generalize (w0:Int)/16%65536=f1 at *
    generalize (w0:Int)/1048576%32=f2 at *
    generalize (w0:Int)/33554432%8=f3 at *
    generalize (w0:Int)/268435456%16=f4 at *
    generalize (w0:Int)/4294967296%64=f5 at *
    generalize (w0:Int)/274877906944%32=f6 at *
    rcases kk with ht|ht|ht|ht|ht|⟨k2,k4,k5,k6,k8⟩
    case inr.inr.inr.inr.inr =>
     simp only [k2,k4,k5,k6,k8,or_self,if_false] at hS
     simp (maxSteps:=999999) only [go_sem,simprocAttr,↓qT,↓qF,df87,TD,unpackG,wordsR,pairV,rightG,capF,R.lend,R.unlend,S_ren,C.ren,V.ren,Blk.ren,take_app,drop_app,Nat.not_lt_zero,Nat.lt_irrefl,Nat.add_sub_cancel_left,Nat.not_lt,Nat.le_add_right,decI,arr,Ic,Uc,List.take,eB,eV,hw0,hA,hB',i0,i1,i2,i3,i4,i5,i6,i7,put,fillP,nlt,k2,k4,k5,k6,k8]
     exact fun c _=>⟨hc,fun n=>hS.2 (by simpa using n),hS.1⟩
    all_goals
     subst ht
     simp only [Int.reduceEq,or_self,or_true,true_or,or_false,false_or,if_true,if_false] at hS
     simp (maxSteps:=999999) only [go_sem,simprocAttr,↓qT,↓qF,df87,TD,unpackG,wordsR,pairV,rightG,capF,R.lend,R.unlend,S_ren,C.ren,V.ren,Blk.ren,take_app,drop_app,Nat.not_lt_zero,Nat.lt_irrefl,Nat.add_sub_cancel_left,Nat.not_lt,Nat.le_add_right,decI,arr,Ic,Uc,List.take,eB,eV,hw0,hA,hB',i0,i1,i2,i3,i4,i5,i6,i7,put,fillP,nlt]
     exact fun c _=>⟨hc,fun n=>hS.2 (by simpa using n),hS.1⟩
   ·have hB':4294967296<=w1:=by omega
    simp only [decB,hB,decide_false,Bool.false_and,Bool.and_false] at hS
    simp (maxSteps:=999999) only [go_sem,simprocAttr,↓qT,↓qF,df87,TD,unpackG,wordsR,pairV,rightG,capF,R.lend,R.unlend,S_ren,C.ren,V.ren,Blk.ren,take_app,drop_app,Nat.not_lt_zero,Nat.lt_irrefl,Nat.add_sub_cancel_left,Nat.not_lt,Nat.le_add_right,decI,arr,Ic,Uc,List.take,eB,eV,hw0,hA,hB',put,fillP,nlt]
    exact fun c _=>⟨hc,hS.2 trivial⟩
  ·simp only [decB,hA,decide_false,Bool.false_and] at hS
   simp (maxSteps:=999999) only [go_sem,simprocAttr,↓qT,↓qF,df87,TD,unpackG,wordsR,rightG,capF,R.lend,R.unlend,S_ren,C.ren,V.ren,Blk.ren,take_app,drop_app,Nat.not_lt_zero,Nat.lt_irrefl,Nat.add_sub_cancel_left,Nat.not_lt,Nat.le_add_right,decI,arr,Ic,Uc,List.take,eB,eV,hw0,hA,put,fillP,nlt]
   exact ⟨hc,hS.2 trivial⟩
 ·exact hS.elim
end Go.Proofs.YtcdfofeolgbnbaaGreat

/- The document's Decode. -/
namespace Go.Proofs.YtcdfofeolgbnbaaGreat
open Go.D
open Nat (reduceAdd reducePow reduceMul reduceSub reduceLeDiff reduceLT reduceEqDiff)
open Int (reduceNeg reduceLE reduceEq reduceNe reduceToNat)
open Go.D renaming istep → zy,pickR → zx,bin1R → zw,un1R → zv,eqS → zu,eq1 → zq,cmpS → zp,cmp1 → zj,isNil → zk,shows → zg,result → zZ,qT → zV,qF → zU
open List renaming set → zY,replicate → zX
open Option renaming map → zW
open Nat renaming reduceAdd → zQ,reducePow → yz,reduceMul → yy,reduceSub → yx,reduceLeDiff → yw,reduceLT → yv,reduceEqDiff → yu
open Int renaming reduceNeg → yq,reduceLE → yp,reduceEq → yj,reduceNe → yk,reduceToNat → yg,reducePow → yZ,reduceLT → yY,reduceAdd → yX,reduceSub → yW,reduceMul → yV,reduceBEq → yU,reduceBNe → yQ
set_option linter.all false
set_option maxRecDepth 100000
set_option maxHeartbeats 4000000

theorem mark_zero {c:Cap} (h:rightB c=true) (h1:¬ c.ty=1) (h2:¬ c.ty=10):c.mark=0:=by
 obtain ⟨t,o,b,d,e,g,i,j,k,l,m⟩:=c
 simp only [rightB] at h h1 h2 ⊢
 rcases kinds t with rfl|rfl|rfl|rfl|rfl|rfl|rfl|rfl|rfl|rfl|rfl|rfl|rfl|rfl|⟨k0,k1,k2,k3,k4,k5,k6,k7,k8,k9,k10,k11,k12,k13,ho⟩
 all_goals try simp only [k0,k1,k2,k3,k4,k5,k6,k7,k8,k9,k10,k11,k12,k13,if_false] at h
 all_goals try simp only [reduceEq,if_true,if_false,ite_t,ite_f,Bool.and_eq_true,inV_iff,mapV,Bool.or_eq_true,decide_eq_true_eq,beq_iff_eq,not_or,Classical.not_not,nOk_iff,and_true] at h
 case inr.inr.inr.inr.inr.inr.inr.inr.inr.inr.inr.inr.inr.inr=>exact absurd h (by decide)
 case inr.inl=>exact absurd rfl h1
 case inr.inr.inr.inr.inr.inr.inr.inr.inr.inr.inl=>exact absurd rfl h2
 all_goals omega

theorem w0_back {w:Nat}:((w:Int)%16+16*((w:Int)/16%65536)+1048576*((w:Int)/1048576%32)+33554432*((w:Int)/33554432%8)+268435456*((w:Int)/268435456%16)+4294967296*((w:Int)/4294967296%64)+274877906944*((w:Int)/274877906944%32)=w)↔(w:Int)/8796093022208=0:=by
 omega

def TG:Tab:=addT 174 encG noT
theorem TG_snd:TG.Snd Tryz.prog:=addT_snd ok174 renc_snd (noT_snd _)
theorem rdec_snd:Snd Tryz.prog 180 (FSpec.of decG):=snd_run TG_snd mixed Tryz.func180 dc180 300 fun args h K hc hS=>by
 unfold decG at hS
 split at hS
 ·rename_i w0 w1
  obtain ⟨⟨hw0,hw1⟩,hS⟩:=hS
  obtain ⟨w0,rfl,hw0'⟩:=hw0.nat
  simp only [spec_br,spec_ok] at hS
  by_cases hB:w1<4294967296
  ·have hB':¬ 4294967296<=w1:=by omega
   have hb:=w0_back (w:=w0)
   have r0:(w0:Int).tmod 16=(w0:Int)%16:=Int.tmod_eq_emod_of_nonneg (by omega)
   have r1:((w0:Int)/16).tmod 65536=(w0:Int)/16%65536:=Int.tmod_eq_emod_of_nonneg (by omega)
   have r2:((w0:Int)/1048576).tmod 32=(w0:Int)/1048576%32:=Int.tmod_eq_emod_of_nonneg (by omega)
   have r3:((w0:Int)/33554432).tmod 8=(w0:Int)/33554432%8:=Int.tmod_eq_emod_of_nonneg (by omega)
   have r4:((w0:Int)/268435456).tmod 16=(w0:Int)/268435456%16:=Int.tmod_eq_emod_of_nonneg (by omega)
   have r5:((w0:Int)/4294967296).tmod 64=(w0:Int)/4294967296%64:=Int.tmod_eq_emod_of_nonneg (by omega)
   have r6:((w0:Int)/274877906944).tmod 32=(w0:Int)/274877906944%32:=Int.tmod_eq_emod_of_nonneg (by omega)
   have i0:IntKind.i64.wrap ((w0:Int)%16)=(w0:Int)%16:=wrap64 (by omega) (by omega)
   have i1:IntKind.i64.wrap ((w0:Int)/16%65536)=(w0:Int)/16%65536:=wrap64 (by omega) (by omega)
   have i2:IntKind.i64.wrap ((w0:Int)/1048576%32)=(w0:Int)/1048576%32:=wrap64 (by omega) (by omega)
   have i3:IntKind.i64.wrap ((w0:Int)/33554432%8)=(w0:Int)/33554432%8:=wrap64 (by omega) (by omega)
   have i4:IntKind.i64.wrap ((w0:Int)/268435456%16)=(w0:Int)/268435456%16:=wrap64 (by omega) (by omega)
   have i5:IntKind.i64.wrap ((w0:Int)/4294967296%64)=(w0:Int)/4294967296%64:=wrap64 (by omega) (by omega)
   have i6:IntKind.i64.wrap ((w0:Int)/274877906944%32)=(w0:Int)/274877906944%32:=wrap64 (by omega) (by omega)
   have i7:IntKind.i64.wrap w1=w1:=wrap64 (by have:=hw1.1; omega) (by omega)
   have m4:min 4 IntKind.u64.bits=4:=rfl
   have m20:min 20 IntKind.u64.bits=20:=rfl
   have m25:min 25 IntKind.u64.bits=25:=rfl
   have m28:min 28 IntKind.u64.bits=28:=rfl
   have m32:min 32 IntKind.u64.bits=32:=rfl
   have m38:min 38 IntKind.u64.bits=38:=rfl
   simp only [decB,hB,decide_true,Bool.true_and,decC,Bool.and_eq_true,Bool.and_eq_false_iff,decide_eq_true_eq,decide_eq_false_iff_not] at hS
   rw [<-hb] at hS
   have kk:(w0:Int)%16=1\/(w0:Int)%16=10\/(w0:Int)%16=2\/(w0:Int)%16=4\/(w0:Int)%16=5\/(w0:Int)%16=6\/(w0:Int)%16=8\/(¬ (w0:Int)%16=1/\¬ (w0:Int)%16=10/\¬ (w0:Int)%16=2/\¬ (w0:Int)%16=4/\¬ (w0:Int)%16=5/\¬ (w0:Int)%16=6/\¬ (w0:Int)%16=8):=by omega
   clear hb
   obtain ⟨q0,e0⟩:∃ q,q=(w0:Int)%16:=⟨_,rfl⟩
   obtain ⟨q1,e1⟩:∃ q,q=(w0:Int)/16%65536:=⟨_,rfl⟩
   obtain ⟨q2,e2⟩:∃ q,q=(w0:Int)/1048576%32:=⟨_,rfl⟩
   obtain ⟨q3,e3⟩:∃ q,q=(w0:Int)/33554432%8:=⟨_,rfl⟩
   obtain ⟨q4,e4⟩:∃ q,q=(w0:Int)/268435456%16:=⟨_,rfl⟩
   obtain ⟨q5,e5⟩:∃ q,q=(w0:Int)/4294967296%64:=⟨_,rfl⟩
   obtain ⟨q6,e6⟩:∃ q,q=(w0:Int)/274877906944%32:=⟨_,rfl⟩
   rw [<-e0] at r0 i0 kk
   rw [<-e1] at r1 i1
   rw [<-e2] at r2 i2
   rw [<-e3] at r3 i3
   rw [<-e4] at r4 i4
   rw [<-e5] at r5 i5
   rw [<-e6] at r6 i6
   rw [<-e0,<-e1,<-e2,<-e3,<-e4,<-e5,<-e6] at hS
   clear e0 e1 e2 e3 e4 e5 e6
   rcases kk with rfl|rfl|rfl|rfl|rfl|rfl|rfl|⟨k1,k10,k2,k4,k5,k6,k8⟩
   case inl =>
    simp only [reduceEq,or_self,or_true,true_or,or_false,false_or,if_true,if_false] at hS
    cases hr:rightB ⟨1,q1,q2,w1,0,q6,0,q3,q5,0,q4⟩ with
    | true =>
     have hn:(⟨1,q1,q2,w1,0,q6,0,q3,q5,0,q4⟩:Cap).num=w1:=by simp [Cap.num]
     simp (maxSteps:=999999) only [EV0,zy,zx,zw,zv,zu,zq,zp,zj,zk,leT,zg,rvC,zZ,zY,zX,zW,↓zV,↓zU,reduceCtorEq,zQ,yz,yZ,yy,yx,yw,yv,yu,yq,yY,yp,yj,yk,yX,yW,yV,yg,yU,yQ,df180,TG,encG,capF,hB',r0,r1,r2,r3,r4,r5,r6,i0,i1,i2,i3,i4,i5,i6,i7,m4,m20,m25,m28,m32,m38,put,fillP,hr,hn]
     exact ⟨fun n=>hS.2 (.inl n),fun n=>hS.1 ⟨n,hr⟩⟩
    | false =>
     simp (maxSteps:=999999) only [EV0,zy,zx,zw,zv,zu,zq,zp,zj,zk,leT,zg,rvC,zZ,zY,zX,zW,↓zV,↓zU,reduceCtorEq,zQ,yz,yZ,yy,yx,yw,yv,yu,yq,yY,yp,yj,yk,yX,yW,yV,yg,yU,yQ,df180,TG,encG,capF,hB',r0,r1,r2,r3,r4,r5,r6,i0,i1,i2,i3,i4,i5,i6,i7,m4,m20,m25,m28,m32,m38,put,fillP,hr]
     exact hS.2 (.inr hr)
   case inr.inl =>
    simp only [reduceEq,or_self,or_true,true_or,or_false,false_or,if_true,if_false] at hS
    cases hr:rightB ⟨10,q1,q2,w1,0,q6,0,q3,q5,0,q4⟩ with
    | true =>
     have hn:(⟨10,q1,q2,w1,0,q6,0,q3,q5,0,q4⟩:Cap).num=w1:=by simp [Cap.num]
     simp (maxSteps:=999999) only [EV0,zy,zx,zw,zv,zu,zq,zp,zj,zk,leT,zg,rvC,zZ,zY,zX,zW,↓zV,↓zU,reduceCtorEq,zQ,yz,yZ,yy,yx,yw,yv,yu,yq,yY,yp,yj,yk,yX,yW,yV,yg,yU,yQ,df180,TG,encG,capF,hB',r0,r1,r2,r3,r4,r5,r6,i0,i1,i2,i3,i4,i5,i6,i7,m4,m20,m25,m28,m32,m38,put,fillP,hr,hn]
     exact ⟨fun n=>hS.2 (.inl n),fun n=>hS.1 ⟨n,hr⟩⟩
    | false =>
     simp (maxSteps:=999999) only [EV0,zy,zx,zw,zv,zu,zq,zp,zj,zk,leT,zg,rvC,zZ,zY,zX,zW,↓zV,↓zU,reduceCtorEq,zQ,yz,yZ,yy,yx,yw,yv,yu,yq,yY,yp,yj,yk,yX,yW,yV,yg,yU,yQ,df180,TG,encG,capF,hB',r0,r1,r2,r3,r4,r5,r6,i0,i1,i2,i3,i4,i5,i6,i7,m4,m20,m25,m28,m32,m38,put,fillP,hr]
     exact hS.2 (.inr hr)
   case inr.inr.inl =>
    simp only [reduceEq,or_self,or_true,true_or,or_false,false_or,if_true,if_false] at hS
    cases hr:rightB ⟨2,q1,q2,0,w1,q6,0,q3,q5,0,q4⟩ with
    | true =>
     have hn:(⟨2,q1,q2,0,w1,q6,0,q3,q5,0,q4⟩:Cap).num=w1:=by simp [Cap.num]
     simp (maxSteps:=999999) only [EV0,zy,zx,zw,zv,zu,zq,zp,zj,zk,leT,zg,rvC,zZ,zY,zX,zW,↓zV,↓zU,reduceCtorEq,zQ,yz,yZ,yy,yx,yw,yv,yu,yq,yY,yp,yj,yk,yX,yW,yV,yg,yU,yQ,df180,TG,encG,capF,hB',r0,r1,r2,r3,r4,r5,r6,i0,i1,i2,i3,i4,i5,i6,i7,m4,m20,m25,m28,m32,m38,put,fillP,hr,hn]
     exact ⟨fun n=>hS.2 (.inl n),fun n=>hS.1 ⟨n,hr⟩⟩
    | false =>
     simp (maxSteps:=999999) only [EV0,zy,zx,zw,zv,zu,zq,zp,zj,zk,leT,zg,rvC,zZ,zY,zX,zW,↓zV,↓zU,reduceCtorEq,zQ,yz,yZ,yy,yx,yw,yv,yu,yq,yY,yp,yj,yk,yX,yW,yV,yg,yU,yQ,df180,TG,encG,capF,hB',r0,r1,r2,r3,r4,r5,r6,i0,i1,i2,i3,i4,i5,i6,i7,m4,m20,m25,m28,m32,m38,put,fillP,hr]
     exact hS.2 (.inr hr)
   case inr.inr.inr.inl =>
    simp only [reduceEq,or_self,or_true,true_or,or_false,false_or,if_true,if_false] at hS
    cases hr:rightB ⟨4,q1,q2,0,0,q6,w1,q3,q5,0,q4⟩ with
    | true =>
     have hn:(⟨4,q1,q2,0,0,q6,w1,q3,q5,0,q4⟩:Cap).num=w1:=by simp [Cap.num]
     simp (maxSteps:=999999) only [EV0,zy,zx,zw,zv,zu,zq,zp,zj,zk,leT,zg,rvC,zZ,zY,zX,zW,↓zV,↓zU,reduceCtorEq,zQ,yz,yZ,yy,yx,yw,yv,yu,yq,yY,yp,yj,yk,yX,yW,yV,yg,yU,yQ,df180,TG,encG,capF,hB',r0,r1,r2,r3,r4,r5,r6,i0,i1,i2,i3,i4,i5,i6,i7,m4,m20,m25,m28,m32,m38,put,fillP,hr,hn]
     exact ⟨fun n=>hS.2 (.inl n),fun n=>hS.1 ⟨n,hr⟩⟩
    | false =>
     simp (maxSteps:=999999) only [EV0,zy,zx,zw,zv,zu,zq,zp,zj,zk,leT,zg,rvC,zZ,zY,zX,zW,↓zV,↓zU,reduceCtorEq,zQ,yz,yZ,yy,yx,yw,yv,yu,yq,yY,yp,yj,yk,yX,yW,yV,yg,yU,yQ,df180,TG,encG,capF,hB',r0,r1,r2,r3,r4,r5,r6,i0,i1,i2,i3,i4,i5,i6,i7,m4,m20,m25,m28,m32,m38,put,fillP,hr]
     exact hS.2 (.inr hr)
   case inr.inr.inr.inr.inl =>
    simp only [reduceEq,or_self,or_true,true_or,or_false,false_or,if_true,if_false] at hS
    cases hr:rightB ⟨5,q1,q2,0,0,q6,w1,q3,q5,0,q4⟩ with
    | true =>
     have hn:(⟨5,q1,q2,0,0,q6,w1,q3,q5,0,q4⟩:Cap).num=w1:=by simp [Cap.num]
     simp (maxSteps:=999999) only [EV0,zy,zx,zw,zv,zu,zq,zp,zj,zk,leT,zg,rvC,zZ,zY,zX,zW,↓zV,↓zU,reduceCtorEq,zQ,yz,yZ,yy,yx,yw,yv,yu,yq,yY,yp,yj,yk,yX,yW,yV,yg,yU,yQ,df180,TG,encG,capF,hB',r0,r1,r2,r3,r4,r5,r6,i0,i1,i2,i3,i4,i5,i6,i7,m4,m20,m25,m28,m32,m38,put,fillP,hr,hn]
     exact ⟨fun n=>hS.2 (.inl n),fun n=>hS.1 ⟨n,hr⟩⟩
    | false =>
     simp (maxSteps:=999999) only [EV0,zy,zx,zw,zv,zu,zq,zp,zj,zk,leT,zg,rvC,zZ,zY,zX,zW,↓zV,↓zU,reduceCtorEq,zQ,yz,yZ,yy,yx,yw,yv,yu,yq,yY,yp,yj,yk,yX,yW,yV,yg,yU,yQ,df180,TG,encG,capF,hB',r0,r1,r2,r3,r4,r5,r6,i0,i1,i2,i3,i4,i5,i6,i7,m4,m20,m25,m28,m32,m38,put,fillP,hr]
     exact hS.2 (.inr hr)
   case inr.inr.inr.inr.inr.inl =>
    simp only [reduceEq,or_self,or_true,true_or,or_false,false_or,if_true,if_false] at hS
    cases hr:rightB ⟨6,q1,q2,0,0,q6,0,q3,q5,w1,q4⟩ with
    | true =>
     have hn:(⟨6,q1,q2,0,0,q6,0,q3,q5,w1,q4⟩:Cap).num=w1:=by simp [Cap.num]
     simp (maxSteps:=999999) only [EV0,zy,zx,zw,zv,zu,zq,zp,zj,zk,leT,zg,rvC,zZ,zY,zX,zW,↓zV,↓zU,reduceCtorEq,zQ,yz,yZ,yy,yx,yw,yv,yu,yq,yY,yp,yj,yk,yX,yW,yV,yg,yU,yQ,df180,TG,encG,capF,hB',r0,r1,r2,r3,r4,r5,r6,i0,i1,i2,i3,i4,i5,i6,i7,m4,m20,m25,m28,m32,m38,put,fillP,hr,hn]
     exact ⟨fun n=>hS.2 (.inl n),fun n=>hS.1 ⟨n,hr⟩⟩
    | false =>
     simp (maxSteps:=999999) only [EV0,zy,zx,zw,zv,zu,zq,zp,zj,zk,leT,zg,rvC,zZ,zY,zX,zW,↓zV,↓zU,reduceCtorEq,zQ,yz,yZ,yy,yx,yw,yv,yu,yq,yY,yp,yj,yk,yX,yW,yV,yg,yU,yQ,df180,TG,encG,capF,hB',r0,r1,r2,r3,r4,r5,r6,i0,i1,i2,i3,i4,i5,i6,i7,m4,m20,m25,m28,m32,m38,put,fillP,hr]
     exact hS.2 (.inr hr)
   case inr.inr.inr.inr.inr.inr.inl =>
    simp only [reduceEq,or_self,or_true,true_or,or_false,false_or,if_true,if_false] at hS
    cases hr:rightB ⟨8,q1,q2,0,0,q6,0,q3,q5,w1,q4⟩ with
    | true =>
     have hn:(⟨8,q1,q2,0,0,q6,0,q3,q5,w1,q4⟩:Cap).num=w1:=by simp [Cap.num]
     simp (maxSteps:=999999) only [EV0,zy,zx,zw,zv,zu,zq,zp,zj,zk,leT,zg,rvC,zZ,zY,zX,zW,↓zV,↓zU,reduceCtorEq,zQ,yz,yZ,yy,yx,yw,yv,yu,yq,yY,yp,yj,yk,yX,yW,yV,yg,yU,yQ,df180,TG,encG,capF,hB',r0,r1,r2,r3,r4,r5,r6,i0,i1,i2,i3,i4,i5,i6,i7,m4,m20,m25,m28,m32,m38,put,fillP,hr,hn]
     exact ⟨fun n=>hS.2 (.inl n),fun n=>hS.1 ⟨n,hr⟩⟩
    | false =>
     simp (maxSteps:=999999) only [EV0,zy,zx,zw,zv,zu,zq,zp,zj,zk,leT,zg,rvC,zZ,zY,zX,zW,↓zV,↓zU,reduceCtorEq,zQ,yz,yZ,yy,yx,yw,yv,yu,yq,yY,yp,yj,yk,yX,yW,yV,yg,yU,yQ,df180,TG,encG,capF,hB',r0,r1,r2,r3,r4,r5,r6,i0,i1,i2,i3,i4,i5,i6,i7,m4,m20,m25,m28,m32,m38,put,fillP,hr]
     exact hS.2 (.inr hr)
   case inr.inr.inr.inr.inr.inr.inr =>
    simp only [k2,k4,k5,k6,k8,or_self,if_false] at hS
    have hz:¬ w1=0->rightB ⟨q0,q1,q2,w1,0,q6,0,q3,q5,0,q4⟩=false:=fun n=>Bool.eq_false_iff.2 fun x=>n (mark_zero x k1 k10)
    cases hr:rightB ⟨q0,q1,q2,0,0,q6,0,q3,q5,0,q4⟩ with
    | true =>
     have hn:(⟨q0,q1,q2,0,0,q6,0,q3,q5,0,q4⟩:Cap).num=0:=by simp [Cap.num]
     simp (maxSteps:=999999) only [EV0,zy,zx,zw,zv,zu,zq,zp,zj,zk,leT,zg,rvC,zZ,zY,zX,zW,↓zV,↓zU,reduceCtorEq,zQ,yz,yZ,yy,yx,yw,yv,yu,yq,yY,yp,yj,yk,yX,yW,yV,yg,yU,yQ,df180,TG,encG,capF,hB',r0,r1,r2,r3,r4,r5,r6,i0,i1,i2,i3,i4,i5,i6,i7,m4,m20,m25,m28,m32,m38,put,fillP,hr,hn,k1,k10,k2,k4,k5,k6,k8]
     refine ⟨fun n=>n.elim (fun x=>hS.2 (.inl x)) (fun x=>hS.2 (.inr (hz (fun e=>x e.symm)))),fun n=>?_⟩
     have hw:0=w1:=Classical.byContradiction fun x=>n (.inr x)
     subst hw
     exact hS.1 ⟨Classical.byContradiction fun x=>n (.inl x),hr⟩
    | false =>
     simp (maxSteps:=999999) only [EV0,zy,zx,zw,zv,zu,zq,zp,zj,zk,leT,zg,rvC,zZ,zY,zX,zW,↓zV,↓zU,reduceCtorEq,zQ,yz,yZ,yy,yx,yw,yv,yu,yq,yY,yp,yj,yk,yX,yW,yV,yg,yU,yQ,df180,TG,encG,capF,hB',r0,r1,r2,r3,r4,r5,r6,i0,i1,i2,i3,i4,i5,i6,i7,m4,m20,m25,m28,m32,m38,put,fillP,hr,k1,k10,k2,k4,k5,k6,k8]
     by_cases hw:w1=0
     ·subst hw; exact hS.2 (.inr hr)
     ·exact hS.2 (.inr (hz hw))
  ·have hB':4294967296<=w1:=by omega
   simp only [decB,hB,decide_false,Bool.false_and,Bool.and_false] at hS
   simp (maxSteps:=999999) only [EV0,zy,zx,zw,zv,zu,zq,zp,zj,zk,leT,zg,rvC,zZ,zY,zX,zW,↓zV,↓zU,reduceCtorEq,zQ,yz,yZ,yy,yx,yw,yv,yu,yq,yY,yp,yj,yk,yX,yW,yV,yg,yU,yQ,df180,TG,encG,capF,hB',put,fillP]
   exact hS.2 trivial
 ·exact hS.elim
end Go.Proofs.YtcdfofeolgbnbaaGreat

/- Caps: Words,Same. -/
namespace Go.Proofs.YtcdfofeolgbnbaaGreat
open Go.D
set_option linter.all false
set_option maxRecDepth 100000
set_option maxHeartbeats 4000000

def capWG (args:List V) (h:List Blk):Res:=capF (fun c=>.br (rightB c) (.ok (.s (.i .i64 (szN c))) [] h) (.ok (.s (.i .i64 0)) [] h)) args
def TW:Tab:=addT 95 rightG (addT 155 sizesG noT)
theorem TW_snd:TW.Snd Tryz.prog:=addT_snd ok95 right_snd (addT_snd ok155 sizes_snd (noT_snd _))
theorem words_snd:Snd Tryz.prog 101 (FSpec.of capWG):=snd_run TW_snd mixed Tryz.func101 dc101 100 fun args h K hc hS=>by
 obtain ⟨⟨t,o,b,d,e,g,i,j,k,l,m⟩,rfl,hR⟩:=capF_spec hS
 clear hS
 simp only [spec_br,spec_ok] at hR
 simp only [Cap.cl]
 cases hr:rightB ⟨t,o,b,d,e,g,i,j,k,l,m⟩ with
 | true =>
  have hQ:=hR.1 hr
  simp (maxSteps:=999999) only [go_sem,simprocAttr,↓qT,↓qF,df101,TW,rightG,sizesG,capF,hr]
  exact hQ
 | false =>
  have hQ:=hR.2 hr
  simp (maxSteps:=999999) only [go_sem,simprocAttr,↓qT,↓qF,df101,TW,rightG,sizesG,capF,hr]
  exact hQ

def cap2F (f:Cap->Cap->Res):List V->Res
 | [x,y]=>capF (fun c=>capF (fun d=>f c d) [y]) [x]
 | _=>.bad
theorem cap2F_spec {f:Cap->Cap->Res} {args:List V} {K:V->List Blk->Prop} (h:(cap2F f args).spec K):∃ c d:Cap,args=[.agg c.cl, .agg d.cl]/\(f c d).spec K:=by
 unfold cap2F at h
 split at h
 ·obtain ⟨c,e,h⟩:=capF_spec h
  obtain ⟨d,e',h⟩:=capF_spec h
  simp only [List.cons.injEq,and_true] at e e'
  subst e; subst e'
  exact ⟨c,d,rfl,h⟩
 ·exact h.elim




theorem dec_back {w0 w1:Int} (h0:u64 w0) (h:decB w0 w1=true):rightB (decC w0 w1)=true/\(decC w0 w1).w0=w0/\(decC w0 w1).num=w1:=by
 obtain ⟨w,rfl,hw⟩:=h0.nat
 simp only [decB,Bool.and_eq_true,decide_eq_true_eq] at h
 refine ⟨h.2.2,w0_back.2 h.1, ?_⟩
 simp only [decC,Cap.num]
 split<;>split<;>split<;>split<;>omega

theorem cap_eta (c:Cap):(⟨c.ty,c.obj,c.bits,c.mark,c.guard,c.gbits,c.badge,c.rights,c.asid,c.vaddr,c.line⟩:Cap)=c:=rfl

theorem Cap.ext' {c d:Cap} (h1:c.ty=d.ty) (h2:c.obj=d.obj) (h3:c.bits=d.bits) (h4:c.mark=d.mark) (h5:c.guard=d.guard) (h6:c.gbits=d.gbits) (h7:c.badge=d.badge) (h8:c.rights=d.rights) (h9:c.asid=d.asid) (ha:c.vaddr=d.vaddr) (hb:c.line=d.line):c=d:=by
 cases c; cases d; simp_all
theorem enc_back {c:Cap} (h:rightB c=true):u64 c.w0/\u64 c.num/\decB c.w0 c.num=true/\decC c.w0 c.num=c:=by
 obtain ⟨h1,h2,h3,h4,h5,h6,h7,h8,h9,h10,h11,one⟩:=right_bounds h
 have t0:c.w0%16=c.ty:=by simp only [Cap.w0]; omega
 have e:decC c.w0 c.num=c:=by
  apply Cap.ext'
  ·exact t0
  ·simp only [decC,Cap.w0]; omega
  ·simp only [decC,Cap.w0]; omega
  ·simp only [decC,t0,Cap.num]
   split at one
   ·simp [*]
   ·split at one
    ·rename_i x; rcases x with x|x<;>simp [x,one]
    ·split at one
     ·rename_i x; rcases x with x|x<;>simp [x,one]
     ·rename_i x y z; rw [if_neg (by omega)]; omega
  ·simp only [decC,t0,Cap.num]
   split at one
   ·rename_i x; rw [if_pos x]; omega
   ·rename_i x; rw [if_neg x]
    split at one
    ·omega
    ·split at one<;>omega
  ·simp only [decC,Cap.w0]; omega
  ·simp only [decC,t0,Cap.num]
   split at one
   ·rename_i x; rw [if_neg (by omega)]; omega
   ·split at one
    ·rename_i x; rw [if_pos x]; omega
    ·rename_i x; rw [if_neg x]; split at one<;>omega
  ·simp only [decC,Cap.w0]; omega
  ·simp only [decC,Cap.w0]; omega
  ·simp only [decC,t0,Cap.num]
   split at one
   ·rw [if_neg (by omega)]; omega
   ·split at one
    ·rw [if_neg (by omega)]; omega
    ·split at one
     ·rename_i x; rw [if_pos x]; omega
     ·rename_i x; rw [if_neg x]; omega
  ·simp only [decC,Cap.w0]; omega
 refine ⟨by simp only [u64,Cap.w0]; omega,by simp only [u64,Cap.num]; omega, ?_,e⟩
 simp only [decB,e,h,Bool.and_true,Bool.and_eq_true,decide_eq_true_eq]
 constructor
 ·simp only [Cap.w0]; omega
 ·simp only [Cap.num]; omega

structure Slot where
 cap:Cap
 prev:Int
 next:Int
 depth:Int
def Slot.cl (s:Slot):List S:=[.i .i64 s.cap.ty, .i .i64 s.cap.obj, .i .i64 s.cap.bits, .i .i64 s.cap.mark, .i .i64 s.cap.guard, .i .i64 s.cap.gbits, .i .i64 s.cap.badge, .i .i64 s.cap.rights, .i .i64 s.cap.asid, .i .i64 s.cap.vaddr, .i .i64 s.cap.line,
 .i .i64 s.prev, .i .i64 s.next, .i .i64 s.depth]
def slotZ:Slot:=⟨capZ,0,0,0⟩
def slotF (f:Slot->Res):List V->Res
 | [.agg [.i .i64 a, .i .i64 b, .i .i64 c, .i .i64 d, .i .i64 e, .i .i64 g, .i .i64 i, .i .i64 j, .i .i64 k, .i .i64 l, .i .i64 m, .i .i64 p, .i .i64 n, .i .i64 q]]=>f ⟨⟨a,b,c,d,e,g,i,j,k,l,m⟩,p,n,q⟩
 | _=>.bad
theorem slotF_spec {f:Slot->Res} {args:List V} {K:V->List Blk->Prop} (h:(slotF f args).spec K):∃ s:Slot,args=[.agg s.cl]/\(f s).spec K:=by
 unfold slotF at h
 split at h
 ·exact ⟨_,rfl,h⟩
 ·exact h.elim
theorem slot_eta (s:Slot):(⟨⟨s.cap.ty,s.cap.obj,s.cap.bits,s.cap.mark,s.cap.guard,s.cap.gbits,s.cap.badge,s.cap.rights,s.cap.asid,s.cap.vaddr,s.cap.line⟩,s.prev,s.next,s.depth⟩:Slot)=s:=rfl

def linkB (n:Int):Bool:=decide (0<=n)&&(decide (n<65536)&&n.tmod 4==0)
def linkG:List V->List Blk->Res
 | [.s (.i .i64 n)],h=>.ok (.s (.b (linkB n))) [] h
 | _,_=>.bad
theorem link_snd:Snd Tryz.prog 152 (FSpec.of linkG):=snd_run (noT_snd _) mixed Tryz.func152 dc152 100 fun args h K hc hS=>by
 unfold linkG at hS
 split at hS
 ·simp only [spec_ok,linkB] at hS
  simp (maxSteps:=999999) only [go_sem,simprocAttr,↓qT,↓qF,df152,Bool.and_assoc]
  exact hS
 ·exact hS.elim
theorem link_ref (n:Int):(decide (0<=n)&&(decide (n<=65532)&&n.tmod 4==0))=linkB n:=by
 unfold linkB
 by_cases h:0<=n
 ·rw [Int.tmod_eq_emod_of_nonneg h,Bool.eq_iff_iff]
  simp only [Bool.and_eq_true,decide_eq_true_eq,beq_iff_eq]
  omega
 ·simp [h]
theorem rlink_snd:Snd Tryz.prog 194 (FSpec.of linkG):=snd_run (noT_snd _) mixed Tryz.func194 dc194 100 fun args h K hc hS=>by
 unfold linkG at hS
 split at hS
 ·simp only [spec_ok,<-link_ref] at hS
  simp (maxSteps:=999999) only [go_sem,simprocAttr,↓qT,↓qF,df194,Bool.and_assoc]
  exact hS
 ·exact hS.elim

def Slot.isZ (s:Slot):Bool:=s.cap.ty==0&&(s.cap.obj==0&&(s.cap.bits==0&&(s.cap.mark==0&&(s.cap.guard==0&&(s.cap.gbits==0&&(s.cap.badge==0&&(s.cap.rights==0&&(s.cap.asid==0&&(s.cap.vaddr==0&&(s.cap.line==0&&(s.prev==0&&(s.next==0&&s.depth==0))))))))))))
theorem Slot.isZ_iff {s:Slot}:s.isZ=true↔s=slotZ:=by
 obtain ⟨⟨t,o,b,d,e,g,i,j,k,l,m⟩,p,n,q⟩:=s
 simp [Slot.isZ,slotZ,capZ,Bool.and_eq_true,and_assoc]
def slotRB (s:Slot):Bool:=!(s.cap.ty==0&&!s.isZ)&&(rightB s.cap&&(linkB s.prev&&(linkB s.next&&(decide (0<=s.depth)&&decide (s.depth<65536)))))
def slotRG (args:List V) (h:List Blk):Res:=slotF (fun s=>.ok (.s (.b (slotRB s))) [] h) args
def TSr:Tab:=addT 152 linkG (addT 95 rightG (addT 194 linkG (addT 42 rightG noT)))
theorem TSr_snd:TSr.Snd Tryz.prog:=addT_snd ok152 link_snd (addT_snd ok95 right_snd (addT_snd ok194 rlink_snd (addT_snd ok42 rright_snd (noT_snd _))))
theorem slotR_snd:Snd Tryz.prog 89 (FSpec.of slotRG):=snd_run TSr_snd mixed Tryz.func89 dc89 200 fun args h K hc hS=>by
 obtain ⟨s,rfl,hR⟩:=slotF_spec hS
 clear hS
 simp only [spec_ok] at hR
 obtain ⟨c,p,n,q⟩:=s
 have hR:K (.s (.b (!(c.ty==0&&!(Slot.mk c p n q).isZ)&&(rightB c&&(linkB p&&(linkB n&&(decide (0<=q)&&decide (q<65536)))))))) h:=hR
 have ez:(c.ty==0&&(c.obj==0&&(c.bits==0&&(c.mark==0&&(c.guard==0&&(c.gbits==0&&(c.badge==0&&(c.rights==0&&(c.asid==0&&(c.vaddr==0&&(c.line==0&&(p==0&&(n==0&&q==0)))))))))))))=(Slot.mk c p n q).isZ:=rfl
 simp only [Slot.cl]
 by_cases h0:c.ty=0
 ·have hne:(c.ty != 0)=false:=by simp [h0]
  cases hz:(Slot.mk c p n q).isZ<;>cases hr:rightB c<;>cases hp:linkB p<;>cases hn:linkB n
  all_goals simp only [hz,hr,hp,hn,h0,beq_self_eq_true,Bool.not_true,Bool.not_false,Bool.true_and,Bool.and_true,Bool.false_and,Bool.and_false] at hR
  all_goals by_cases hq:q<0
  all_goals (try have hq1:¬ 0<=q:=by omega)
  all_goals (try have hq1:0<=q:=by omega)
  all_goals by_cases hq2:65535<q
  all_goals try (exfalso; omega)
  all_goals (try have hq3:¬ q<65536:=by omega)
  all_goals (try have hq3:q<65536:=by omega)
  all_goals try simp only [hq1,hq3,decide_true,decide_false,Bool.true_and,Bool.and_true,Bool.false_and,Bool.and_false] at hR
  all_goals (simp (maxSteps:=999999) only [go_sem,simprocAttr,↓qT,↓qF,df89,TSr,linkG,rightG,capF,cap_eta,ez,hne,hz,hr,hp,hn,hq,hq1,hq2,hq3,put,fillP,sub,EVt])
  all_goals first|exact hR|exact ⟨fun _=>hR,fun _=>hR⟩|exact ⟨fun _=>hR,fun x=>absurd h0 x⟩
 ·have h1:(c.ty==0)=false:=by simpa using h0
  have hne:(c.ty != 0)=true:=by simpa using h0
  cases hr:rightB c<;>cases hp:linkB p<;>cases hn:linkB n
  all_goals simp only [hr,hp,hn,h1,Bool.not_true,Bool.not_false,Bool.true_and,Bool.and_true,Bool.false_and,Bool.and_false] at hR
  all_goals by_cases hq:q<0
  all_goals (try have hq1:¬ 0<=q:=by omega)
  all_goals (try have hq1:0<=q:=by omega)
  all_goals by_cases hq2:65535<q
  all_goals try (exfalso; omega)
  all_goals (try have hq3:¬ q<65536:=by omega)
  all_goals (try have hq3:q<65536:=by omega)
  all_goals try simp only [hq1,hq3,decide_true,decide_false,Bool.true_and,Bool.and_true,Bool.false_and,Bool.and_false] at hR
  all_goals (simp (maxSteps:=999999) only [go_sem,simprocAttr,↓qT,↓qF,df89,TSr,linkG,rightG,capF,cap_eta,h0,h1,hne,hr,hp,hn,hq,hq1,hq2,hq3,put,fillP,sub,EVt])
  all_goals exact hR
theorem rslotR_snd:Snd Tryz.prog 173 (FSpec.of slotRG):=snd_run TSr_snd mixed Tryz.func173 dc173 200 fun args h K hc hS=>by
 obtain ⟨s,rfl,hR⟩:=slotF_spec hS
 clear hS
 simp only [spec_ok] at hR
 obtain ⟨c,p,n,q⟩:=s
 have hR:K (.s (.b (!(c.ty==0&&!(Slot.mk c p n q).isZ)&&(rightB c&&(linkB p&&(linkB n&&(decide (0<=q)&&decide (q<65536)))))))) h:=hR
 have ez:(c.ty==0&&(c.obj==0&&(c.bits==0&&(c.mark==0&&(c.guard==0&&(c.gbits==0&&(c.badge==0&&(c.rights==0&&(c.asid==0&&(c.vaddr==0&&(c.line==0&&(p==0&&(n==0&&q==0)))))))))))))=(Slot.mk c p n q).isZ:=rfl
 simp only [Slot.cl]
 by_cases h0:c.ty=0
 ·have hne:(c.ty != 0)=false:=by simp [h0]
  cases hz:(Slot.mk c p n q).isZ<;>cases hr:rightB c<;>cases hp:linkB p<;>cases hn:linkB n
  all_goals simp only [hz,hr,hp,hn,h0,beq_self_eq_true,Bool.not_true,Bool.not_false,Bool.true_and,Bool.and_true,Bool.false_and,Bool.and_false] at hR
  all_goals by_cases hq:q<0
  all_goals (try have hq1:¬ 0<=q:=by omega)
  all_goals (try have hq1:0<=q:=by omega)
  all_goals by_cases hq2:65535<q
  all_goals try (exfalso; omega)
  all_goals (try have hq3:¬ q<65536:=by omega)
  all_goals (try have hq3:q<65536:=by omega)
  all_goals try simp only [hq1,hq3,decide_true,decide_false,Bool.true_and,Bool.and_true,Bool.false_and,Bool.and_false] at hR
  all_goals (simp (maxSteps:=999999) only [go_sem,simprocAttr,↓qT,↓qF,df173,TSr,linkG,rightG,capF,cap_eta,ez,hne,hz,hr,hp,hn,hq,hq1,hq2,hq3,put,fillP,sub,EVt])
  all_goals first|exact hR|exact ⟨fun _=>hR,fun _=>hR⟩|exact ⟨fun _=>hR,fun x=>absurd h0 x⟩
 ·have h1:(c.ty==0)=false:=by simpa using h0
  have hne:(c.ty != 0)=true:=by simpa using h0
  cases hr:rightB c<;>cases hp:linkB p<;>cases hn:linkB n
  all_goals simp only [hr,hp,hn,h1,Bool.not_true,Bool.not_false,Bool.true_and,Bool.and_true,Bool.false_and,Bool.and_false] at hR
  all_goals by_cases hq:q<0
  all_goals (try have hq1:¬ 0<=q:=by omega)
  all_goals (try have hq1:0<=q:=by omega)
  all_goals by_cases hq2:65535<q
  all_goals try (exfalso; omega)
  all_goals (try have hq3:¬ q<65536:=by omega)
  all_goals (try have hq3:q<65536:=by omega)
  all_goals try simp only [hq1,hq3,decide_true,decide_false,Bool.true_and,Bool.and_true,Bool.false_and,Bool.and_false] at hR
  all_goals (simp (maxSteps:=999999) only [go_sem,simprocAttr,↓qT,↓qF,df173,TSr,linkG,rightG,capF,cap_eta,h0,h1,hne,hr,hp,hn,hq,hq1,hq2,hq3,put,fillP,sub,EVt])
  all_goals exact hR

def thereB (m:M) (a:Int):Bool:=decide (4<=a)&&(a.tmod 4==0&&decide (a<=m.w.length-4))
def sthereM (b:Nat) (m:M) (st:M->List Blk):List V->Res
 | [.s (.i .i64 a)]=>.ok (.s (.b (thereB m a))) [] (st m)
 | _=>.bad
noncomputable def sthereG:=memF sthereM
noncomputable def TMw2:Tab:=addT 150 wordsG (addT 189 thereG noT)
theorem TMw2_snd:TMw2.Snd Tryz.prog:=addT_snd ok150 mwords_snd (addT_snd ok189 rthere_snd (noT_snd _))
theorem sthere_snd:Snd Tryz.prog 85 (FSpec.of sthereG):=snd_run TMw2_snd mixed Tryz.func85 dc85 100 fun args h K hc hS=>by
 obtain ⟨a,b,m,rest,rfl,H,hS1⟩:=memF_spec hS
 clear hS
 have hS:=hS1
 clear hS1
 unfold sthereM at hS
 split at hS
 ·rename_i x
  simp only [spec_ok,setM_self H,thereB] at hS
  have hl:=m.l
  have w1:IntKind.i64.wrap ((m.w.length:Int)-4)=m.w.length-4:=wrap64 (by omega) (by omega)
  by_cases c1:4<=x
  ·by_cases c2:x.tmod 4=0
   ·simp only [c1,c2,decide_true,Bool.true_and,beq_self_eq_true] at hS
    simp (maxSteps:=999999) only [go_sem,simprocAttr,↓qT,↓qF,df85,TMw2,wordsG,memF_eq H,wordsM,setM_self H,c1,c2,w1]
    exact hS
   ·have c3:(x.tmod 4==0)=false:=by simpa using c2
    simp only [c1,c3,decide_true,Bool.true_and,Bool.false_and] at hS
    simp (maxSteps:=999999) only [go_sem,simprocAttr,↓qT,↓qF,df85,TMw2,wordsG,memF_eq H,wordsM,setM_self H,c1,c2,c3,w1]
    exact hS
  ·simp only [c1,decide_false,Bool.false_and] at hS
   simp (maxSteps:=999999) only [go_sem,simprocAttr,↓qT,↓qF,df85,TMw2,wordsG,memF_eq H,wordsM,setM_self H,c1]
   exact hS
 ·exact hS.elim
theorem there_has (m:M) (a:Int):(m.has a 4&&(decide (4<=a)&&a.tmod 4==0))=thereB m a:=by
 have hl:=m.l
 rw [Bool.eq_iff_iff]
 simp only [M.has,thereB,Bool.and_eq_true,decide_eq_true_eq,beq_iff_eq]
 omega
theorem rat_snd:Snd Tryz.prog 172 (FSpec.of sthereG):=snd_run TMw2_snd mixed Tryz.func172 dc172 100 fun args h K hc hS=>by
 obtain ⟨a,b,m,rest,rfl,H,hS1⟩:=memF_spec hS
 clear hS
 have hS:=hS1
 clear hS1
 unfold sthereM at hS
 split at hS
 ·rename_i x
  simp only [spec_ok,setM_self H,<-there_has] at hS
  cases hh:m.has x 4
  ·simp only [hh,Bool.false_and] at hS
   simp (maxSteps:=999999) only [go_sem,simprocAttr,↓qT,↓qF,df172,TMw2,thereG,memF_eq H,thereM,setM_self H,hh]
   exact hS
  ·simp only [hh,Bool.true_and] at hS
   simp (maxSteps:=999999) only [go_sem,simprocAttr,↓qT,↓qF,df172,TMw2,thereG,memF_eq H,thereM,setM_self H,hh]
   exact hS
 ·exact hS.elim
end Go.Proofs.YtcdfofeolgbnbaaGreat

