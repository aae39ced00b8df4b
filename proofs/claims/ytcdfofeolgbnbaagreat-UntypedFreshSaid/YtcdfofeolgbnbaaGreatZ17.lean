/- Caps: what was written is read. -/
import Derived.Test.YtcdfofeolgbnbaaGreatZ11
import Derived.Test.YtcdfofeolgbnbaaGreatZ16
/- Package word: Unpack. -/
namespace Go.Proofs.YtcdfofeolgbnbaaGreat
open Go.D
open Nat (reduceAdd reducePow reduceMul reduceSub reduceLeDiff reduceLT reduceEqDiff)
open Int (reduceNeg reduceLE reduceEq reduceNe reduceToNat)
open Go.D renaming istep → zy,pickR → zx,bin1R → zw,un1R → zv,eqS → zu,eq1 → zq,cmpS → zp,cmp1 → zj,isNil → zk,shows → zg,result → zZ,qT → zV,qF → zU
open List renaming set → zY,replicate → zX
open Option renaming map → zW
open Nat renaming reduceAdd → zQ,reducePow → yz,reduceMul → yy,reduceSub → yx,reduceLeDiff → yw,reduceLT → yv,reduceEqDiff → yu
open Int renaming reduceNeg → yq,reduceLE → yp,reduceEq → yj,reduceNe → yk,reduceToNat → yg,reducePow → yZ,reduceLT → yY,reduceAdd → yX,reduceSub → yW,reduceMul → yV,reduceBEq → yU,reduceBNe → yQ
set_option linter.all false
set_option maxRecDepth 100000
set_option maxHeartbeats 4000000

def slT:List Int->Nat->V
 | [],_=>.s .ns
 | y::M,c=>.s (.sl (.l 0) 0 (M.length+1) c)
def lsT:List Int->Nat->List Blk
 | [],_=>[]
 | y::M,c=>[⟨.rw,arr Uc (y::M),c⟩]

theorem uc_all (p:S->Bool) (hp:∀ n,p (.i .u64 n)=true) (M:List Int):(arr Uc M).all p=true:=by
 rw [arr_all]; simp [Uc,hp]
theorem uc_ren (ρ:R->R) (M:List Int):(arr Uc M).map (S.ren ρ)=arr Uc M:=by
 induction M with
 | nil=>rfl
 | cons y M ih=>simp only [arr,List.map_append,ih]; rfl

theorem words_leave {h:List Blk} {K:V->List Blk->Prop} {y e:Int} {M:List Int} {c:Nat} (hc:M.length+1<=c) (hS:(wordsR (y::M) (pairV e) h).spec K) :
  leaveB (.tup [.s (.sl (.l 0) 0 (M.length+1) c), .s (.i .i64 e)]) [⟨.rw,arr Uc (y::M),c⟩] h K false:=by
 have hS:=hS c hc
 refine ⟨[0],by simp,rfl, ?_⟩
 simp only [getAll,List.getElem?_cons_zero]
 refine ⟨?_, ?_⟩
 ·simp only [List.all_cons,List.all_nil,decide_true,Bool.true_and,Bool.and_true]
  exact uc_all _ (fun _=>rfl) (y::M)
 ·refine cast ?_ hS
  simp only [List.map_cons,List.map_nil,Blk.ren,uc_ren]
  rfl

theorem div_dec (w a:Nat):decide (((w:Int).toNat)/2^((a:Int).toNat)=0)=decide ((w:Int)/2^a=0):=by
 simp only [Int.toNat_natCast]
 have:((w:Int)/2^a=0)↔w/2^a=0:=by
  constructor
  ·intro h; have:((w/2^a:Nat):Int)=0:=by push_cast; exact h
   omega
  ·intro h; have:((w/2^a:Nat):Int)=0:=by rw [h]; rfl
   push_cast at this; exact this
 simp only [this]

theorem unpack_loop {h:List Blk} {K:V->List Blk->Prop} {k n c0:Nat} {w:Nat} {B:Blk} {L:List Int} (hw:w<18446744073709551616) (hk:h[k]?=some B) (hst:B.st≠.dead) (hB:B.cells=arr Ic L) (hn:n<=L.length) (hn64:n<=9223372036854775807) (hc:clean h.length h=true)
  (hS:(Res.br (unpackB (w:Int) (L.take n) 0) (wordsR (unpackV (w:Int) (L.take n) 0) (pairV 0) h) (.ok (.tup [.s .ns, .s (.i .i64 10)]) [] h)).spec K) :
  holds W2.Γ h.length (finP df88.res K) (run W2 100 [.c df88.body] ([V.s (.i .u64 w),V.s (.sl (.g k) 0 n c0)]++List.replicate 39 (.tup [])) [] h):=by
 simp only [spec_br,spec_ok] at hS
 obtain ⟨F,hF⟩:∃ F,F=L.take n:=⟨_,rfl⟩
 have hFl:F.length=n:=by rw [hF]; simp; omega
 rw [<-hF] at hS
 have hwu:=u64_of hw
 simp (maxSteps:=999999) only [EV0,zy,zx,zw,zv,zu,zq,zp,zj,zk,leT,zg,rvC,zZ,zY,zX,zW,↓zV,↓zU,reduceCtorEq,zQ,yz,yZ,yy,yx,yw,yv,yu,yq,yY,yp,yj,yk,yX,yW,yV,yg,yU,yQ,df88]
 refine loop_rule (α:=Nat×Nat×List Int×Nat) [4,5,6,7,9,10,11,14,15,16,17,18,19,20,21,22,23,24,25,26,27,28,29,30,31,32,33,34,35] (fun y=>[(6,slT y.2.2.1 y.2.2.2),(7, .s (.i .i64 y.2.1)),(14, .s (.i .i64 y.1))]) (fun y=>lsT y.2.2.1 y.2.2.2) (fun _=>h)
  (fun y=>y.1<=n/\y.2.1<=64/\y.2.2.1.length=y.1/\y.1<=y.2.1/\y.2.2.1.length<=y.2.2.2/\unpackB w F 0=unpackB w (F.drop y.1) y.2.1/\unpackV w F 0=y.2.2.1++unpackV w (F.drop y.1) y.2.1) (fun y=>n-y.1) (0,0,[],0) ⟨by simp,by simp,rfl,by simp,by simp,by simp,by simp⟩ (Wk.same rfl rfl ?_) ?_
 ·simp (maxSteps:=999999) only [EV0,zy,zx,zw,zv,zu,zq,zp,zj,zk,leT,zg,rvC,zZ,zY,zX,zW,↓zV,↓zU,reduceCtorEq,zQ,yz,yZ,yy,yx,yw,yv,yu,yq,yY,yp,yj,yk,yX,yW,yV,yg,yU,yQ,Int.natCast_zero,slT]
 ·rintro X ⟨i,a,M,c⟩ ⟨hi,ha,hM,hia,hMc,hpb,hpv⟩ IH
  simp only at hi ha hM hia hMc hpb hpv ⊢
  rcases Nat.lt_or_ge i n with hlt|hge
  ·have I:=idx hlt hn64
   have hiL:i<L.length:=by omega
   obtain ⟨b,hb⟩:∃ b,b=nth 0 L i:=⟨_,rfl⟩
   have E:B.cells[i]?=some (.i .i64 b):=by
    have:=arr_get0 Ic_len hiL (by omega)
    rw [Nat.mul_one] at this
    rw [hB,this,hb,nth_eq hiL]; rfl
   have hd:F.drop i=b::F.drop (i+1):=by
    rw [List.drop_eq_getElem_cons (by omega),hb,nth_eq hiL]
    congr 1
    subst hF; simp
   rw [hd] at hpb hpv
   simp only [unpackB,unpackV] at hpb hpv
   cases hf:fieldB (a:Int) b with
   | true =>
    obtain ⟨a',m,e1,e2,h1,h2,h3⟩:=fieldB_nat hf
    have:a'=a:=by omega
    subst this
    have hwr:IntKind.i64.wrap ((a':Int)+b)=((a'+m:Nat):Int):=by rw [wrap64]<;>omega
    have hpb':unpackB w F 0=unpackB w (F.drop (i+1)) ((a'+m:Nat):Int):=by rw [hpb,hf,Bool.true_and,e2]; rfl
    cases M with
    | nil =>
     have hkl:k<h.length:=(List.getElem?_eq_some_iff.1 hk).1
     simp only [slT,lsT]
     refine run_sound (Tab.ok_Γ _) 200 _ _ _ _ ?_
     simp (maxSteps:=999999) only [EV0,zy,zx,zw,zv,zu,zq,zp,zj,zk,leT,zg,rvC,zZ,zY,zX,zW,↓zV,↓zU,reduceCtorEq,zQ,yz,yZ,yy,yx,yw,yv,yu,yq,yY,yp,yj,yk,yX,yW,yV,yg,yU,yQ,I,E,hk,hst,W2,getG,hwu,hf,hwr]
     intro c' hc'
     refine IH (i+1,a'+m,[getV w a' b],c') _ (by simp only; omega) ⟨by simp only; omega,h3,by simp at hM ⊢; omega,by simp only; omega,by simpa using hc',hpb', ?_⟩ (Wk.shift 1 ?_ (Nat.le_refl _) ?_ ?_ hc ?_ (clean_ren hc 1))
     ·rw [hpv,e2]; rfl
     ·simp [lsT,arr,Uc,Blk.ren,S.ren]
     ·simp (maxSteps:=999999) only [EV0,zy,zx,zw,zv,zu,zq,zp,zj,zk,leT,zg,rvC,zZ,zY,zX,zW,↓zV,↓zU,reduceCtorEq,zQ,yz,yZ,yy,yx,yw,yv,yu,yq,yY,yp,yj,yk,yX,yW,yV,yg,yU,yQ,slT,V.ren,S.ren,R.shift,Nat.add_comm]
     ·simp (maxSteps:=999999) only [EV0,zy,zx,zw,zv,zu,zq,zp,zj,zk,leT,zg,rvC,zZ,zY,zX,zW,↓zV,↓zU,reduceCtorEq,zQ,yz,yZ,yy,yx,yw,yv,yu,yq,yY,yp,yj,yk,yX,yW,yV,yg,yU,yQ,slT,lsT,hkl]
     ·simp (maxSteps:=999999) only [EV0,zy,zx,zw,zv,zu,zq,zp,zj,zk,leT,zg,rvC,zZ,zY,zX,zW,↓zV,↓zU,reduceCtorEq,zQ,yz,yZ,yy,yx,yw,yv,yu,yq,yY,yp,yj,yk,yX,yW,yV,yg,yU,yQ,lsT,arr,Uc,hkl,hst]
    | cons y M =>
     have hl:=arr_length Uc_len (y::M)
     have hk1:known (arr Uc (y::M))=true:=uc_all _ (fun _=>rfl) _
     have hk2:∀ k,((arr Uc (y::M)).all fun s=>!S.names k s)=true:=fun k=>uc_all _ (fun _=>rfl) _
     have hMl:M.length+1=i:=by simpa using hM
     have hroom:M.length+1<=64:=by omega
     simp only [slT,lsT]
     refine run_sound (Tab.ok_Γ _) 200 _ _ _ _ ?_
     simp (maxSteps:=999999) only [EV0,zy,zx,zw,zv,zu,zq,zp,zj,zk,leT,zg,rvC,zZ,zY,zX,zW,↓zV,↓zU,reduceCtorEq,zQ,yz,yZ,yy,yx,yw,yv,yu,yq,yY,yp,yj,yk,yX,yW,yV,yg,yU,yQ,I,E,hk,hst,W2,getG,hwu,hf,hwr,hl,hk1,hk2]
     refine ⟨by omega,fun c' hc'=>?_⟩
     obtain ⟨M',hM'⟩:∃ M',M'=M++[getV w a' b]:=⟨_,rfl⟩
     have hM'l:M'.length=M.length+1:=by rw [hM']; simp
     have hI:i+1<=n/\a'+m<=64/\(y::M').length=i+1/\i+1<=a'+m/\(y::M').length<=c'/\unpackB w F 0=unpackB w (F.drop (i+1)) ((a'+m:Nat):Int)/\unpackV w F 0=(y::M')++unpackV w (F.drop (i+1)) ((a'+m:Nat):Int):=by
      refine ⟨by omega,h3,by simp only [List.length_cons]; omega,by omega,by simp only [List.length_cons]; omega,hpb', ?_⟩
      rw [hpv,hM',e2,Int.natCast_add,List.cons_append,List.cons_append,List.append_assoc]; rfl
     refine IH (i+1,a'+m,y::M',c') _ (by simp only; omega) hI ?_
     simp only [slT,lsT]
     have hc2:arr Uc (y::M)++[S.i .u64 (getV w a' b)]=arr Uc (y::M'):=by rw [hM']; simp [arr_append,arr,Uc]
     have hk3:(arr Uc (y::M')).all (S.below 1)=true:=uc_all _ (fun _=>rfl) _
     refine Wk.keep 1 (by rw [hc2]; rfl) rfl ?_ ?_ ?_
     ·simp (maxSteps:=999999) only [EV0,zy,zx,zw,zv,zu,zq,zp,zj,zk,leT,zg,rvC,zZ,zY,zX,zW,↓zV,↓zU,reduceCtorEq,zQ,yz,yZ,yy,yx,yw,yv,yu,yq,yY,yp,yj,yk,yX,yW,yV,yg,yU,yQ,hM'l]
      all_goals try simp
     ·simp (maxSteps:=999999) only [EV0,zy,zx,zw,zv,zu,zq,zp,zj,zk,leT,zg,rvC,zZ,zY,zX,zW,↓zV,↓zU,reduceCtorEq,zQ,yz,yZ,yy,yx,yw,yv,yu,yq,yY,yp,yj,yk,yX,yW,yV,yg,yU,yQ]
     ·simp only [List.all_cons,List.all_nil,List.length_cons,List.length_nil,Bool.and_true]
      exact hk3
   | false =>
    cases M with
    | nil =>
     simp only [slT,lsT]
     refine run_sound (Tab.ok_Γ _) 200 _ _ _ _ ?_
     simp (maxSteps:=999999) only [EV0,zy,zx,zw,zv,zu,zq,zp,zj,zk,leT,zg,rvC,zZ,zY,zX,zW,↓zV,↓zU,reduceCtorEq,zQ,yz,yZ,yy,yx,yw,yv,yu,yq,yY,yp,yj,yk,yX,yW,yV,yg,yU,yQ,I,E,hk,hst,W2,getG,hwu,hf]
     rw [hf,Bool.false_and] at hpb
     exact hS.2 hpb
    | cons y M =>
     simp only [slT,lsT]
     refine run_sound (Tab.ok_Γ _) 200 _ _ _ _ ?_
     simp (maxSteps:=999999) only [EV0,zy,zx,zw,zv,zu,zq,zp,zj,zk,leT,zg,rvC,zZ,zY,zX,zW,↓zV,↓zU,reduceCtorEq,zQ,yz,yZ,yy,yx,yw,yv,yu,yq,yY,yp,yj,yk,yX,yW,yV,yg,yU,yQ,I,E,hk,hst,W2,getG,hwu,hf]
     rw [hf,Bool.false_and] at hpb
     exact hS.2 hpb
  ·have:i=n:=by omega
   subst this
   have hdn:F.drop i=[]:=List.drop_eq_nil_of_le (by omega)
   rw [hdn] at hpb hpv
   simp only [unpackB,unpackV,List.append_nil] at hpb hpv
   have m2:min a IntKind.u64.bits=a:=by show min a 64=_; omega
   have a0:(0:Int)<=a:=by omega
   cases M with
   | nil =>
    simp only [slT,lsT]
    refine run_sound (Tab.ok_Γ _) 100 _ _ _ _ ?_
    simp (maxSteps:=999999) only [EV0,zy,zx,zw,zv,zu,zq,zp,zj,zk,leT,zg,rvC,zZ,zY,zX,zW,↓zV,↓zU,reduceCtorEq,zQ,yz,yZ,yy,yx,yw,yv,yu,yq,yY,yp,yj,yk,yX,yW,yV,yg,yU,yQ,Int.lt_irrefl,m2,a0]
    rw [hpb,hpv,div_dec] at hS
    simp only [decide_eq_true_eq,decide_eq_false_iff_not] at hS
    exact ⟨hS.2,hS.1⟩
   | cons y M =>
    simp only [slT,lsT]
    refine run_sound (Tab.ok_Γ _) 100 _ _ _ _ ?_
    simp (maxSteps:=999999) only [EV0,zy,zx,zw,zv,zu,zq,zp,zj,zk,leT,zg,rvC,zZ,zY,zX,zW,↓zV,↓zU,reduceCtorEq,zQ,yz,yZ,yy,yx,yw,yv,yu,yq,yY,yp,yj,yk,yX,yW,yV,yg,yU,yQ,Int.lt_irrefl,m2,a0]
    rw [hpb,hpv,div_dec] at hS
    simp only [decide_eq_true_eq,decide_eq_false_iff_not] at hS
    exact ⟨hS.2,fun e=>words_leave (by simpa using hMc) (hS.1 e)⟩


theorem unpack_snd:Snd Tryz.prog 88 (FSpec.of unpackG):=snd_run W2_snd mixed Tryz.func88 dc88 100 fun args h K hc hS=>by
 unfold unpackG at hS
 split at hS
 ·rename_i w h
  obtain ⟨hw,hS⟩:=hS
  obtain ⟨w,rfl,hw'⟩:=hw.nat
  simp only [spec_br,spec_ok,decide_eq_true_eq,decide_eq_false_iff_not] at hS
  simp (maxSteps:=999999) only [EV0,zy,zx,zw,zv,zu,zq,zp,zj,zk,leT,zg,rvC,zZ,zY,zX,zW,↓zV,↓zU,reduceCtorEq,zQ,yz,yZ,yy,yx,yw,yv,yu,yq,yY,yp,yj,yk,yX,yW,yV,yg,yU,yQ,df88]
  refine loop_rule (α:=Unit) [] (fun _=>[]) (fun _=>[]) (fun _=>h) (fun _=>True) (fun _=>0) () trivial .refl ?_
  rintro X _ _ _
  refine run_sound (Tab.ok_Γ _) 100 _ _ _ _ ?_
  simp (maxSteps:=999999) only [EV0,zy,zx,zw,zv,zu,zq,zp,zj,zk,leT,zg,rvC,zZ,zY,zX,zW,↓zV,↓zU,reduceCtorEq,zQ,yz,yZ,yy,yx,yw,yv,yu,yq,yY,yp,yj,yk,yX,yW,yV,yg,yU,yQ,Int.lt_irrefl]
  have m2:min 0 IntKind.u64.bits=0:=rfl
  simp only [m2,Int.reducePow,Int.ediv_one]
  exact ⟨hS.2,hS.1⟩
 ·rename_i w k n c h
  split at hS
  ·rename_i B hk
   obtain ⟨⟨hw,hst,hB,hn,hn64⟩,hS⟩:=hS
   obtain ⟨w,rfl,hw'⟩:=hw.nat
   exact unpack_loop hw' hk hst hB hn hn64 hc hS
  ·exact hS.elim
 ·exact hS.elim

end Go.Proofs.YtcdfofeolgbnbaaGreat

/- Package caps: Decode. -/
namespace Go.Proofs.YtcdfofeolgbnbaaGreat
open Go.D
set_option linter.all false
set_option maxRecDepth 100000
set_option maxHeartbeats 4000000

theorem up_B (w:Nat):unpackB (w:Int) [4,16,5,3,4,6,5] 0=decide ((w:Int)/8796093022208=0):=by
 simp only [unpackB,fieldB,Int.reduceAdd,Int.reduceSub,Int.reduceLE,Int.reduceToNat,Nat.reducePow,true_and,and_true,decide_true,Bool.true_and,Int.toNat_natCast]
 rw [Bool.eq_iff_iff]
 simp only [decide_eq_true_eq,and_self,true_and]
 omega
theorem up_V (w:Nat):unpackV (w:Int) [4,16,5,3,4,6,5] 0=[(w:Int)%16,(w:Int)/16%65536,(w:Int)/1048576%32,(w:Int)/33554432%8,(w:Int)/268435456%16,(w:Int)/4294967296%64,(w:Int)/274877906944%32]:=by
 simp only [unpackV,getV,Int.reduceAdd,Int.reduceToNat,Nat.reducePow,Int.toNat_natCast,Int.natCast_ediv,Int.natCast_emod,Nat.div_one]
 rfl

theorem nlt (n k:Nat):(n+k<n)=False:=by simp
def decC (w0 w1:Int):Cap:=⟨w0%16,w0/16%65536,w0/1048576%32,if w0%16=2\/w0%16=4\/w0%16=5\/w0%16=6\/w0%16=8 then 0 else w1,
 if w0%16=2 then w1 else 0,w0/274877906944%32,if w0%16=4\/w0%16=5 then w1 else 0,w0/33554432%8,w0/4294967296%64,if w0%16=6\/w0%16=8 then w1 else 0,w0/268435456%16⟩
def decB (w0 w1:Int):Bool:=decide (w0/8796093022208=0)&&(decide (w1<4294967296)&&rightB (decC w0 w1))
def capZ:Cap:=⟨0,0,0,0,0,0,0,0,0,0,0⟩
def decG:List V->List Blk->Res
 | [.s (.i .u64 w0), .s (.i .u64 w1)],h=>.ob (u64 w0/\u64 w1) (.br (decB w0 w1) (.ok (.tup [.agg (decC w0 w1).cl, .s (.i .i64 0)]) [] h) (.ok (.tup [.agg capZ.cl, .s (.i .i64 60)]) [] h))
 | _,_=>.bad

def TD:Tab:=addT 88 unpackG (addT 95 rightG noT)
theorem TD_snd:TD.Snd Tryz.prog:=addT_snd ok88 unpack_snd (addT_snd ok95 right_snd (noT_snd _))
theorem dec_snd:Snd Tryz.prog 87 (FSpec.of decG):=snd_run TD_snd mixed Tryz.func87 dc87 300 fun args h K hc hS=>by
 unfold decG at hS
 split at hS
 ·rename_i w0 w1
  obtain ⟨⟨hw0,hw1⟩,hS⟩:=hS
  obtain ⟨w0,rfl,hw0'⟩:=hw0.nat
  simp only [spec_br,spec_ok] at hS
  have eB:=up_B w0
  have eV:=up_V w0
  by_cases hA:(w0:Int)/8796093022208=0
  ·by_cases hB:w1<4294967296
   ·have hB':¬ 4294967296<=w1:=by omega
    have i0:IntKind.i64.wrap ((w0:Int)%16)=(w0:Int)%16:=wrap64 (by omega) (by omega)
    have i1:IntKind.i64.wrap ((w0:Int)/16%65536)=(w0:Int)/16%65536:=wrap64 (by omega) (by omega)
    have i2:IntKind.i64.wrap ((w0:Int)/1048576%32)=(w0:Int)/1048576%32:=wrap64 (by omega) (by omega)
    have i3:IntKind.i64.wrap ((w0:Int)/33554432%8)=(w0:Int)/33554432%8:=wrap64 (by omega) (by omega)
    have i4:IntKind.i64.wrap ((w0:Int)/268435456%16)=(w0:Int)/268435456%16:=wrap64 (by omega) (by omega)
    have i5:IntKind.i64.wrap ((w0:Int)/4294967296%64)=(w0:Int)/4294967296%64:=wrap64 (by omega) (by omega)
    have i6:IntKind.i64.wrap ((w0:Int)/274877906944%32)=(w0:Int)/274877906944%32:=wrap64 (by omega) (by omega)
    have i7:IntKind.i64.wrap w1=w1:=wrap64 (by have:=hw1.1; omega) (by omega)
    simp only [decB,hA,hB,decide_true,Bool.true_and,decC] at hS
    have kk:(w0:Int)%16=2\/(w0:Int)%16=4\/(w0:Int)%16=5\/(w0:Int)%16=6\/(w0:Int)%16=8\/(¬ (w0:Int)%16=2/\¬ (w0:Int)%16=4/\¬ (w0:Int)%16=5/\¬ (w0:Int)%16=6/\¬ (w0:Int)%16=8):=by omega
    generalize (w0:Int)%16=t at *
    generalize (w0:Int)/16%65536=f1 at *
    generalize (w0:Int)/1048576%32=f2 at *
    generalize (w0:Int)/33554432%8=f3 at *
    generalize (w0:Int)/268435456%16=f4 at *
    generalize (w0:Int)/4294967296%64=f5 at *
    generalize (w0:Int)/274877906944%32=f6 at *
    rcases kk with ht|ht|ht|ht|ht|⟨k2,k4,k5,k6,k8⟩
    case inr.inr.inr.inr.inr =>
     simp only [k2,k4,k5,k6,k8,or_self,if_false] at hS
     simp (maxSteps:=999999) only [go_sem,simprocAttr,↓qT,↓qF,df87,TD,unpackG,wordsR,pairV,rightG,capF,R.lend,R.unlend,S_ren,C.ren,V.ren,Blk.ren,take_app,drop_app,Nat.not_lt_zero,Nat.lt_irrefl,Nat.add_sub_cancel_left,Nat.not_lt,Nat.le_add_right,decI,arr,Ic,Uc,List.take,eB,eV,hw0,hA,hB',i0,i1,i2,i3,i4,i5,i6,i7,put,fillP,nlt,k2,k4,k5,k6,k8]
     exact fun c _=>⟨hc,fun n=>hS.2 (by simpa using n),hS.1⟩
    all_goals
     subst ht
     simp only [Int.reduceEq,or_self,or_true,true_or,or_false,false_or,if_true,if_false] at hS
     simp (maxSteps:=999999) only [go_sem,simprocAttr,↓qT,↓qF,df87,TD,unpackG,wordsR,pairV,rightG,capF,R.lend,R.unlend,S_ren,C.ren,V.ren,Blk.ren,take_app,drop_app,Nat.not_lt_zero,Nat.lt_irrefl,Nat.add_sub_cancel_left,Nat.not_lt,Nat.le_add_right,decI,arr,Ic,Uc,List.take,eB,eV,hw0,hA,hB',i0,i1,i2,i3,i4,i5,i6,i7,put,fillP,nlt]
     exact fun c _=>⟨hc,fun n=>hS.2 (by simpa using n),hS.1⟩
   ·have hB':4294967296<=w1:=by omega
    simp only [decB,hB,decide_false,Bool.false_and,Bool.and_false] at hS
    simp (maxSteps:=999999) only [go_sem,simprocAttr,↓qT,↓qF,df87,TD,unpackG,wordsR,pairV,rightG,capF,R.lend,R.unlend,S_ren,C.ren,V.ren,Blk.ren,take_app,drop_app,Nat.not_lt_zero,Nat.lt_irrefl,Nat.add_sub_cancel_left,Nat.not_lt,Nat.le_add_right,decI,arr,Ic,Uc,List.take,eB,eV,hw0,hA,hB',put,fillP,nlt]
    exact fun c _=>⟨hc,hS.2 trivial⟩
  ·simp only [decB,hA,decide_false,Bool.false_and] at hS
   simp (maxSteps:=999999) only [go_sem,simprocAttr,↓qT,↓qF,df87,TD,unpackG,wordsR,rightG,capF,R.lend,R.unlend,S_ren,C.ren,V.ren,Blk.ren,take_app,drop_app,Nat.not_lt_zero,Nat.lt_irrefl,Nat.add_sub_cancel_left,Nat.not_lt,Nat.le_add_right,decI,arr,Ic,Uc,List.take,eB,eV,hw0,hA,put,fillP,nlt]
   exact ⟨hc,hS.2 trivial⟩
 ·exact hS.elim
end Go.Proofs.YtcdfofeolgbnbaaGreat

/- The document's Decode. -/
namespace Go.Proofs.YtcdfofeolgbnbaaGreat
open Go.D
open Nat (reduceAdd reducePow reduceMul reduceSub reduceLeDiff reduceLT reduceEqDiff)
open Int (reduceNeg reduceLE reduceEq reduceNe reduceToNat)
open Go.D renaming istep → zy,pickR → zx,bin1R → zw,un1R → zv,eqS → zu,eq1 → zq,cmpS → zp,cmp1 → zj,isNil → zk,shows → zg,result → zZ,qT → zV,qF → zU
open List renaming set → zY,replicate → zX
open Option renaming map → zW
open Nat renaming reduceAdd → zQ,reducePow → yz,reduceMul → yy,reduceSub → yx,reduceLeDiff → yw,reduceLT → yv,reduceEqDiff → yu
open Int renaming reduceNeg → yq,reduceLE → yp,reduceEq → yj,reduceNe → yk,reduceToNat → yg,reducePow → yZ,reduceLT → yY,reduceAdd → yX,reduceSub → yW,reduceMul → yV,reduceBEq → yU,reduceBNe → yQ
set_option linter.all false
set_option maxRecDepth 100000
set_option maxHeartbeats 4000000

theorem mark_zero {c:Cap} (h:rightB c=true) (h1:¬ c.ty=1) (h2:¬ c.ty=10):c.mark=0:=by
 obtain ⟨t,o,b,d,e,g,i,j,k,l,m⟩:=c
 simp only [rightB] at h h1 h2 ⊢
 rcases kinds t with rfl|rfl|rfl|rfl|rfl|rfl|rfl|rfl|rfl|rfl|rfl|rfl|rfl|rfl|⟨k0,k1,k2,k3,k4,k5,k6,k7,k8,k9,k10,k11,k12,k13,ho⟩
 all_goals try simp only [k0,k1,k2,k3,k4,k5,k6,k7,k8,k9,k10,k11,k12,k13,if_false] at h
 all_goals try simp only [reduceEq,if_true,if_false,ite_t,ite_f,Bool.and_eq_true,inV_iff,mapV,Bool.or_eq_true,decide_eq_true_eq,beq_iff_eq,not_or,Classical.not_not,nOk_iff,and_true] at h
 case inr.inr.inr.inr.inr.inr.inr.inr.inr.inr.inr.inr.inr.inr=>exact absurd h (by decide)
 case inr.inl=>exact absurd rfl h1
 case inr.inr.inr.inr.inr.inr.inr.inr.inr.inr.inl=>exact absurd rfl h2
 all_goals omega

theorem w0_back {w:Nat}:((w:Int)%16+16*((w:Int)/16%65536)+1048576*((w:Int)/1048576%32)+33554432*((w:Int)/33554432%8)+268435456*((w:Int)/268435456%16)+4294967296*((w:Int)/4294967296%64)+274877906944*((w:Int)/274877906944%32)=w)↔(w:Int)/8796093022208=0:=by
 omega

def TG:Tab:=addT 174 encG noT
theorem TG_snd:TG.Snd Tryz.prog:=addT_snd ok174 renc_snd (noT_snd _)
theorem rdec_snd:Snd Tryz.prog 180 (FSpec.of decG):=snd_run TG_snd mixed Tryz.func180 dc180 300 fun args h K hc hS=>by
 unfold decG at hS
 split at hS
 ·rename_i w0 w1
  obtain ⟨⟨hw0,hw1⟩,hS⟩:=hS
  obtain ⟨w0,rfl,hw0'⟩:=hw0.nat
  simp only [spec_br,spec_ok] at hS
  by_cases hB:w1<4294967296
  ·have hB':¬ 4294967296<=w1:=by omega
   have hb:=w0_back (w:=w0)
   have r0:(w0:Int).tmod 16=(w0:Int)%16:=Int.tmod_eq_emod_of_nonneg (by omega)
   have r1:((w0:Int)/16).tmod 65536=(w0:Int)/16%65536:=Int.tmod_eq_emod_of_nonneg (by omega)
   have r2:((w0:Int)/1048576).tmod 32=(w0:Int)/1048576%32:=Int.tmod_eq_emod_of_nonneg (by omega)
   have r3:((w0:Int)/33554432).tmod 8=(w0:Int)/33554432%8:=Int.tmod_eq_emod_of_nonneg (by omega)
   have r4:((w0:Int)/268435456).tmod 16=(w0:Int)/268435456%16:=Int.tmod_eq_emod_of_nonneg (by omega)
   have r5:((w0:Int)/4294967296).tmod 64=(w0:Int)/4294967296%64:=Int.tmod_eq_emod_of_nonneg (by omega)
   have r6:((w0:Int)/274877906944).tmod 32=(w0:Int)/274877906944%32:=Int.tmod_eq_emod_of_nonneg (by omega)
   have i0:IntKind.i64.wrap ((w0:Int)%16)=(w0:Int)%16:=wrap64 (by omega) (by omega)
   have i1:IntKind.i64.wrap ((w0:Int)/16%65536)=(w0:Int)/16%65536:=wrap64 (by omega) (by omega)
   have i2:IntKind.i64.wrap ((w0:Int)/1048576%32)=(w0:Int)/1048576%32:=wrap64 (by omega) (by omega)
   have i3:IntKind.i64.wrap ((w0:Int)/33554432%8)=(w0:Int)/33554432%8:=wrap64 (by omega) (by omega)
   have i4:IntKind.i64.wrap ((w0:Int)/268435456%16)=(w0:Int)/268435456%16:=wrap64 (by omega) (by omega)
   have i5:IntKind.i64.wrap ((w0:Int)/4294967296%64)=(w0:Int)/4294967296%64:=wrap64 (by omega) (by omega)
   have i6:IntKind.i64.wrap ((w0:Int)/274877906944%32)=(w0:Int)/274877906944%32:=wrap64 (by omega) (by omega)
   have i7:IntKind.i64.wrap w1=w1:=wrap64 (by have:=hw1.1; omega) (by omega)
   have m4:min 4 IntKind.u64.bits=4:=rfl
   have m20:min 20 IntKind.u64.bits=20:=rfl
   have m25:min 25 IntKind.u64.bits=25:=rfl
   have m28:min 28 IntKind.u64.bits=28:=rfl
   have m32:min 32 IntKind.u64.bits=32:=rfl
   have m38:min 38 IntKind.u64.bits=38:=rfl
   simp only [decB,hB,decide_true,Bool.true_and,decC,Bool.and_eq_true,Bool.and_eq_false_iff,decide_eq_true_eq,decide_eq_false_iff_not] at hS
   rw [<-hb] at hS
   have kk:(w0:Int)%16=1\/(w0:Int)%16=10\/(w0:Int)%16=2\/(w0:Int)%16=4\/(w0:Int)%16=5\/(w0:Int)%16=6\/(w0:Int)%16=8\/(¬ (w0:Int)%16=1/\¬ (w0:Int)%16=10/\¬ (w0:Int)%16=2/\¬ (w0:Int)%16=4/\¬ (w0:Int)%16=5/\¬ (w0:Int)%16=6/\¬ (w0:Int)%16=8):=by omega
   clear hb
   obtain ⟨q0,e0⟩:∃ q,q=(w0:Int)%16:=⟨_,rfl⟩
   obtain ⟨q1,e1⟩:∃ q,q=(w0:Int)/16%65536:=⟨_,rfl⟩
   obtain ⟨q2,e2⟩:∃ q,q=(w0:Int)/1048576%32:=⟨_,rfl⟩
   obtain ⟨q3,e3⟩:∃ q,q=(w0:Int)/33554432%8:=⟨_,rfl⟩
   obtain ⟨q4,e4⟩:∃ q,q=(w0:Int)/268435456%16:=⟨_,rfl⟩
   obtain ⟨q5,e5⟩:∃ q,q=(w0:Int)/4294967296%64:=⟨_,rfl⟩
   obtain ⟨q6,e6⟩:∃ q,q=(w0:Int)/274877906944%32:=⟨_,rfl⟩
   rw [<-e0] at r0 i0 kk
   rw [<-e1] at r1 i1
   rw [<-e2] at r2 i2
   rw [<-e3] at r3 i3
   rw [<-e4] at r4 i4
   rw [<-e5] at r5 i5
   rw [<-e6] at r6 i6
   rw [<-e0,<-e1,<-e2,<-e3,<-e4,<-e5,<-e6] at hS
   clear e0 e1 e2 e3 e4 e5 e6
   rcases kk with rfl|rfl|rfl|rfl|rfl|rfl|rfl|⟨k1,k10,k2,k4,k5,k6,k8⟩
   case inl =>
    simp only [reduceEq,or_self,or_true,true_or,or_false,false_or,if_true,if_false] at hS
    cases hr:rightB ⟨1,q1,q2,w1,0,q6,0,q3,q5,0,q4⟩ with
    | true =>
     have hn:(⟨1,q1,q2,w1,0,q6,0,q3,q5,0,q4⟩:Cap).num=w1:=by simp [Cap.num]
     simp (maxSteps:=999999) only [EV0,zy,zx,zw,zv,zu,zq,zp,zj,zk,leT,zg,rvC,zZ,zY,zX,zW,↓zV,↓zU,reduceCtorEq,zQ,yz,yZ,yy,yx,yw,yv,yu,yq,yY,yp,yj,yk,yX,yW,yV,yg,yU,yQ,df180,TG,encG,capF,hB',r0,r1,r2,r3,r4,r5,r6,i0,i1,i2,i3,i4,i5,i6,i7,m4,m20,m25,m28,m32,m38,put,fillP,hr,hn]
     exact ⟨fun n=>hS.2 (.inl n),fun n=>hS.1 ⟨n,hr⟩⟩
    | false =>
     simp (maxSteps:=999999) only [EV0,zy,zx,zw,zv,zu,zq,zp,zj,zk,leT,zg,rvC,zZ,zY,zX,zW,↓zV,↓zU,reduceCtorEq,zQ,yz,yZ,yy,yx,yw,yv,yu,yq,yY,yp,yj,yk,yX,yW,yV,yg,yU,yQ,df180,TG,encG,capF,hB',r0,r1,r2,r3,r4,r5,r6,i0,i1,i2,i3,i4,i5,i6,i7,m4,m20,m25,m28,m32,m38,put,fillP,hr]
     exact hS.2 (.inr hr)
   case inr.inl =>
    simp only [reduceEq,or_self,or_true,true_or,or_false,false_or,if_true,if_false] at hS
    cases hr:rightB ⟨10,q1,q2,w1,0,q6,0,q3,q5,0,q4⟩ with
    | true =>
     have hn:(⟨10,q1,q2,w1,0,q6,0,q3,q5,0,q4⟩:Cap).num=w1:=by simp [Cap.num]
     simp (maxSteps:=999999) only [EV0,zy,zx,zw,zv,zu,zq,zp,zj,zk,leT,zg,rvC,zZ,zY,zX,zW,↓zV,↓zU,reduceCtorEq,zQ,yz,yZ,yy,yx,yw,yv,yu,yq,yY,yp,yj,yk,yX,yW,yV,yg,yU,yQ,df180,TG,encG,capF,hB',r0,r1,r2,r3,r4,r5,r6,i0,i1,i2,i3,i4,i5,i6,i7,m4,m20,m25,m28,m32,m38,put,fillP,hr,hn]
     exact ⟨fun n=>hS.2 (.inl n),fun n=>hS.1 ⟨n,hr⟩⟩
    | false =>
     simp (maxSteps:=999999) only [EV0,zy,zx,zw,zv,zu,zq,zp,zj,zk,leT,zg,rvC,zZ,zY,zX,zW,↓zV,↓zU,reduceCtorEq,zQ,yz,yZ,yy,yx,yw,yv,yu,yq,yY,yp,yj,yk,yX,yW,yV,yg,yU,yQ,df180,TG,encG,capF,hB',r0,r1,r2,r3,r4,r5,r6,i0,i1,i2,i3,i4,i5,i6,i7,m4,m20,m25,m28,m32,m38,put,fillP,hr]
     exact hS.2 (.inr hr)
   case inr.inr.inl =>
    simp only [reduceEq,or_self,or_true,true_or,or_false,false_or,if_true,if_false] at hS
    cases hr:rightB ⟨2,q1,q2,0,w1,q6,0,q3,q5,0,q4⟩ with
    | true =>
     have hn:(⟨2,q1,q2,0,w1,q6,0,q3,q5,0,q4⟩:Cap).num=w1:=by simp [Cap.num]
     simp (maxSteps:=999999) only [EV0,zy,zx,zw,zv,zu,zq,zp,zj,zk,leT,zg,rvC,zZ,zY,zX,zW,↓zV,↓zU,reduceCtorEq,zQ,yz,yZ,yy,yx,yw,yv,yu,yq,yY,yp,yj,yk,yX,yW,yV,yg,yU,yQ,df180,TG,encG,capF,hB',r0,r1,r2,r3,r4,r5,r6,i0,i1,i2,i3,i4,i5,i6,i7,m4,m20,m25,m28,m32,m38,put,fillP,hr,hn]
     exact ⟨fun n=>hS.2 (.inl n),fun n=>hS.1 ⟨n,hr⟩⟩
    | false =>
     simp (maxSteps:=999999) only [EV0,zy,zx,zw,zv,zu,zq,zp,zj,zk,leT,zg,rvC,zZ,zY,zX,zW,↓zV,↓zU,reduceCtorEq,zQ,yz,yZ,yy,yx,yw,yv,yu,yq,yY,yp,yj,yk,yX,yW,yV,yg,yU,yQ,df180,TG,encG,capF,hB',r0,r1,r2,r3,r4,r5,r6,i0,i1,i2,i3,i4,i5,i6,i7,m4,m20,m25,m28,m32,m38,put,fillP,hr]
     exact hS.2 (.inr hr)
   case inr.inr.inr.inl =>
    simp only [reduceEq,or_self,or_true,true_or,or_false,false_or,if_true,if_false] at hS
    cases hr:rightB ⟨4,q1,q2,0,0,q6,w1,q3,q5,0,q4⟩ with
    | true =>
     have hn:(⟨4,q1,q2,0,0,q6,w1,q3,q5,0,q4⟩:Cap).num=w1:=by simp [Cap.num]
     simp (maxSteps:=999999) only [EV0,zy,zx,zw,zv,zu,zq,zp,zj,zk,leT,zg,rvC,zZ,zY,zX,zW,↓zV,↓zU,reduceCtorEq,zQ,yz,yZ,yy,yx,yw,yv,yu,yq,yY,yp,yj,yk,yX,yW,yV,yg,yU,yQ,df180,TG,encG,capF,hB',r0,r1,r2,r3,r4,r5,r6,i0,i1,i2,i3,i4,i5,i6,i7,m4,m20,m25,m28,m32,m38,put,fillP,hr,hn]
     exact ⟨fun n=>hS.2 (.inl n),fun n=>hS.1 ⟨n,hr⟩⟩
    | false =>
     simp (maxSteps:=999999) only [EV0,zy,zx,zw,zv,zu,zq,zp,zj,zk,leT,zg,rvC,zZ,zY,zX,zW,↓zV,↓zU,reduceCtorEq,zQ,yz,yZ,yy,yx,yw,yv,yu,yq,yY,yp,yj,yk,yX,yW,yV,yg,yU,yQ,df180,TG,encG,capF,hB',r0,r1,r2,r3,r4,r5,r6,i0,i1,i2,i3,i4,i5,i6,i7,m4,m20,m25,m28,m32,m38,put,fillP,hr]
     exact hS.2 (.inr hr)
   case inr.inr.inr.inr.inl =>
    simp only [reduceEq,or_self,or_true,true_or,or_false,false_or,if_true,if_false] at hS
    cases hr:rightB ⟨5,q1,q2,0,0,q6,w1,q3,q5,0,q4⟩ with
    | true =>
     have hn:(⟨5,q1,q2,0,0,q6,w1,q3,q5,0,q4⟩:Cap).num=w1:=by simp [Cap.num]
     simp (maxSteps:=999999) only [EV0,zy,zx,zw,zv,zu,zq,zp,zj,zk,leT,zg,rvC,zZ,zY,zX,zW,↓zV,↓zU,reduceCtorEq,zQ,yz,yZ,yy,yx,yw,yv,yu,yq,yY,yp,yj,yk,yX,yW,yV,yg,yU,yQ,df180,TG,encG,capF,hB',r0,r1,r2,r3,r4,r5,r6,i0,i1,i2,i3,i4,i5,i6,i7,m4,m20,m25,m28,m32,m38,put,fillP,hr,hn]
     exact ⟨fun n=>hS.2 (.inl n),fun n=>hS.1 ⟨n,hr⟩⟩
    | false =>
     simp (maxSteps:=999999) only [EV0,zy,zx,zw,zv,zu,zq,zp,zj,zk,leT,zg,rvC,zZ,zY,zX,zW,↓zV,↓zU,reduceCtorEq,zQ,yz,yZ,yy,yx,yw,yv,yu,yq,yY,yp,yj,yk,yX,yW,yV,yg,yU,yQ,df180,TG,encG,capF,hB',r0,r1,r2,r3,r4,r5,r6,i0,i1,i2,i3,i4,i5,i6,i7,m4,m20,m25,m28,m32,m38,put,fillP,hr]
     exact hS.2 (.inr hr)
   case inr.inr.inr.inr.inr.inl =>
    simp only [reduceEq,or_self,or_true,true_or,or_false,false_or,if_true,if_false] at hS
    cases hr:rightB ⟨6,q1,q2,0,0,q6,0,q3,q5,w1,q4⟩ with
    | true =>
     have hn:(⟨6,q1,q2,0,0,q6,0,q3,q5,w1,q4⟩:Cap).num=w1:=by simp [Cap.num]
     simp (maxSteps:=999999) only [EV0,zy,zx,zw,zv,zu,zq,zp,zj,zk,leT,zg,rvC,zZ,zY,zX,zW,↓zV,↓zU,reduceCtorEq,zQ,yz,yZ,yy,yx,yw,yv,yu,yq,yY,yp,yj,yk,yX,yW,yV,yg,yU,yQ,df180,TG,encG,capF,hB',r0,r1,r2,r3,r4,r5,r6,i0,i1,i2,i3,i4,i5,i6,i7,m4,m20,m25,m28,m32,m38,put,fillP,hr,hn]
     exact ⟨fun n=>hS.2 (.inl n),fun n=>hS.1 ⟨n,hr⟩⟩
    | false =>
     simp (maxSteps:=999999) only [EV0,zy,zx,zw,zv,zu,zq,zp,zj,zk,leT,zg,rvC,zZ,zY,zX,zW,↓zV,↓zU,reduceCtorEq,zQ,yz,yZ,yy,yx,yw,yv,yu,yq,yY,yp,yj,yk,yX,yW,yV,yg,yU,yQ,df180,TG,encG,capF,hB',r0,r1,r2,r3,r4,r5,r6,i0,i1,i2,i3,i4,i5,i6,i7,m4,m20,m25,m28,m32,m38,put,fillP,hr]
     exact hS.2 (.inr hr)
   case inr.inr.inr.inr.inr.inr.inl =>
    simp only [reduceEq,or_self,or_true,true_or,or_false,false_or,if_true,if_false] at hS
    cases hr:rightB ⟨8,q1,q2,0,0,q6,0,q3,q5,w1,q4⟩ with
    | true =>
     have hn:(⟨8,q1,q2,0,0,q6,0,q3,q5,w1,q4⟩:Cap).num=w1:=by simp [Cap.num]
     simp (maxSteps:=999999) only [EV0,zy,zx,zw,zv,zu,zq,zp,zj,zk,leT,zg,rvC,zZ,zY,zX,zW,↓zV,↓zU,reduceCtorEq,zQ,yz,yZ,yy,yx,yw,yv,yu,yq,yY,yp,yj,yk,yX,yW,yV,yg,yU,yQ,df180,TG,encG,capF,hB',r0,r1,r2,r3,r4,r5,r6,i0,i1,i2,i3,i4,i5,i6,i7,m4,m20,m25,m28,m32,m38,put,fillP,hr,hn]
     exact ⟨fun n=>hS.2 (.inl n),fun n=>hS.1 ⟨n,hr⟩⟩
    | false =>
     simp (maxSteps:=999999) only [EV0,zy,zx,zw,zv,zu,zq,zp,zj,zk,leT,zg,rvC,zZ,zY,zX,zW,↓zV,↓zU,reduceCtorEq,zQ,yz,yZ,yy,yx,yw,yv,yu,yq,yY,yp,yj,yk,yX,yW,yV,yg,yU,yQ,df180,TG,encG,capF,hB',r0,r1,r2,r3,r4,r5,r6,i0,i1,i2,i3,i4,i5,i6,i7,m4,m20,m25,m28,m32,m38,put,fillP,hr]
     exact hS.2 (.inr hr)
   case inr.inr.inr.inr.inr.inr.inr =>
    simp only [k2,k4,k5,k6,k8,or_self,if_false] at hS
    have hz:¬ w1=0->rightB ⟨q0,q1,q2,w1,0,q6,0,q3,q5,0,q4⟩=false:=fun n=>Bool.eq_false_iff.2 fun x=>n (mark_zero x k1 k10)
    cases hr:rightB ⟨q0,q1,q2,0,0,q6,0,q3,q5,0,q4⟩ with
    | true =>
     have hn:(⟨q0,q1,q2,0,0,q6,0,q3,q5,0,q4⟩:Cap).num=0:=by simp [Cap.num]
     simp (maxSteps:=999999) only [EV0,zy,zx,zw,zv,zu,zq,zp,zj,zk,leT,zg,rvC,zZ,zY,zX,zW,↓zV,↓zU,reduceCtorEq,zQ,yz,yZ,yy,yx,yw,yv,yu,yq,yY,yp,yj,yk,yX,yW,yV,yg,yU,yQ,df180,TG,encG,capF,hB',r0,r1,r2,r3,r4,r5,r6,i0,i1,i2,i3,i4,i5,i6,i7,m4,m20,m25,m28,m32,m38,put,fillP,hr,hn,k1,k10,k2,k4,k5,k6,k8]
     refine ⟨fun n=>n.elim (fun x=>hS.2 (.inl x)) (fun x=>hS.2 (.inr (hz (fun e=>x e.symm)))),fun n=>?_⟩
     have hw:0=w1:=Classical.byContradiction fun x=>n (.inr x)
     subst hw
     exact hS.1 ⟨Classical.byContradiction fun x=>n (.inl x),hr⟩
    | false =>
     simp (maxSteps:=999999) only [EV0,zy,zx,zw,zv,zu,zq,zp,zj,zk,leT,zg,rvC,zZ,zY,zX,zW,↓zV,↓zU,reduceCtorEq,zQ,yz,yZ,yy,yx,yw,yv,yu,yq,yY,yp,yj,yk,yX,yW,yV,yg,yU,yQ,df180,TG,encG,capF,hB',r0,r1,r2,r3,r4,r5,r6,i0,i1,i2,i3,i4,i5,i6,i7,m4,m20,m25,m28,m32,m38,put,fillP,hr,k1,k10,k2,k4,k5,k6,k8]
     by_cases hw:w1=0
     ·subst hw; exact hS.2 (.inr hr)
     ·exact hS.2 (.inr (hz hw))
  ·have hB':4294967296<=w1:=by omega
   simp only [decB,hB,decide_false,Bool.false_and,Bool.and_false] at hS
   simp (maxSteps:=999999) only [EV0,zy,zx,zw,zv,zu,zq,zp,zj,zk,leT,zg,rvC,zZ,zY,zX,zW,↓zV,↓zU,reduceCtorEq,zQ,yz,yZ,yy,yx,yw,yv,yu,yq,yY,yp,yj,yk,yX,yW,yV,yg,yU,yQ,df180,TG,encG,capF,hB',put,fillP]
   exact hS.2 trivial
 ·exact hS.elim
end Go.Proofs.YtcdfofeolgbnbaaGreat

/- Caps: Words,Same. -/
namespace Go.Proofs.YtcdfofeolgbnbaaGreat
open Go.D
set_option linter.all false
set_option maxRecDepth 100000
set_option maxHeartbeats 4000000





theorem dec_back {w0 w1:Int} (h0:u64 w0) (h:decB w0 w1=true):rightB (decC w0 w1)=true/\(decC w0 w1).w0=w0/\(decC w0 w1).num=w1:=by
 obtain ⟨w,rfl,hw⟩:=h0.nat
 simp only [decB,Bool.and_eq_true,decide_eq_true_eq] at h
 refine ⟨h.2.2,w0_back.2 h.1, ?_⟩
 simp only [decC,Cap.num]
 split<;>split<;>split<;>split<;>omega

theorem cap_eta (c:Cap):(⟨c.ty,c.obj,c.bits,c.mark,c.guard,c.gbits,c.badge,c.rights,c.asid,c.vaddr,c.line⟩:Cap)=c:=rfl

theorem Cap.ext' {c d:Cap} (h1:c.ty=d.ty) (h2:c.obj=d.obj) (h3:c.bits=d.bits) (h4:c.mark=d.mark) (h5:c.guard=d.guard) (h6:c.gbits=d.gbits) (h7:c.badge=d.badge) (h8:c.rights=d.rights) (h9:c.asid=d.asid) (ha:c.vaddr=d.vaddr) (hb:c.line=d.line):c=d:=by
 cases c; cases d; simp_all
theorem enc_back {c:Cap} (h:rightB c=true):u64 c.w0/\u64 c.num/\decB c.w0 c.num=true/\decC c.w0 c.num=c:=by
 obtain ⟨h1,h2,h3,h4,h5,h6,h7,h8,h9,h10,h11,one⟩:=right_bounds h
 have t0:c.w0%16=c.ty:=by simp only [Cap.w0]; omega
 have e:decC c.w0 c.num=c:=by
  apply Cap.ext'
  ·exact t0
  ·simp only [decC,Cap.w0]; omega
  ·simp only [decC,Cap.w0]; omega
  ·simp only [decC,t0,Cap.num]
   split at one
   ·simp [*]
   ·split at one
    ·rename_i x; rcases x with x|x<;>simp [x,one]
    ·split at one
     ·rename_i x; rcases x with x|x<;>simp [x,one]
     ·rename_i x y z; rw [if_neg (by omega)]; omega
  ·simp only [decC,t0,Cap.num]
   split at one
   ·rename_i x; rw [if_pos x]; omega
   ·rename_i x; rw [if_neg x]
    split at one
    ·omega
    ·split at one<;>omega
  ·simp only [decC,Cap.w0]; omega
  ·simp only [decC,t0,Cap.num]
   split at one
   ·rename_i x; rw [if_neg (by omega)]; omega
   ·split at one
    ·rename_i x; rw [if_pos x]; omega
    ·rename_i x; rw [if_neg x]; split at one<;>omega
  ·simp only [decC,Cap.w0]; omega
  ·simp only [decC,Cap.w0]; omega
  ·simp only [decC,t0,Cap.num]
   split at one
   ·rw [if_neg (by omega)]; omega
   ·split at one
    ·rw [if_neg (by omega)]; omega
    ·split at one
     ·rename_i x; rw [if_pos x]; omega
     ·rename_i x; rw [if_neg x]; omega
  ·simp only [decC,Cap.w0]; omega
 refine ⟨by simp only [u64,Cap.w0]; omega,by simp only [u64,Cap.num]; omega, ?_,e⟩
 simp only [decB,e,h,Bool.and_true,Bool.and_eq_true,decide_eq_true_eq]
 constructor
 ·simp only [Cap.w0]; omega
 ·simp only [Cap.num]; omega
end Go.Proofs.YtcdfofeolgbnbaaGreat

