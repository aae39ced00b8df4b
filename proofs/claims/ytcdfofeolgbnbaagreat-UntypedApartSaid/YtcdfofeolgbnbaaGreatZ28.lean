/- Package untyped: Reset: its rounds,the walk. -/
import Derived.Test.YtcdfofeolgbnbaaGreatZ11
import Derived.Test.YtcdfofeolgbnbaaGreatZ27
import Derived.Test.YtcdfofeolgbnbaaGreatZ24
import Derived.Test.YtcdfofeolgbnbaaGreatZ21
/- Package untyped: Room; the document's. -/
namespace Go.Proofs.YtcdfofeolgbnbaaGreat
open Go.D
open Nat (reduceAdd reducePow reduceMul reduceSub reduceLeDiff reduceLT reduceEqDiff)
open Int (reduceNeg reduceLE reduceEq reduceNe reduceToNat)
open Go.D renaming istep → zy,pickR → zx,bin1R → zw,un1R → zv,eqS → zu,eq1 → zq,cmpS → zp,cmp1 → zj,isNil → zk,shows → zg,result → zZ,qT → zV,qF → zU
open List renaming set → zY,replicate → zX
open Option renaming map → zW
open Nat renaming reduceAdd → zQ,reducePow → yz,reduceMul → yy,reduceSub → yx,reduceLeDiff → yw,reduceLT → yv,reduceEqDiff → yu
open Int renaming reduceNeg → yq,reduceLE → yp,reduceEq → yj,reduceNe → yk,reduceToNat → yg,reducePow → yZ,reduceLT → yY,reduceAdd → yX,reduceSub → yW,reduceMul → yV,reduceBEq → yU,reduceBNe → yQ
set_option linter.all false
set_option maxRecDepth 100000
set_option maxHeartbeats 4000000

def utB (c:Cap):Prop:=c.ty=1/\0<=c.obj/\c.obj<=65536/\0<=c.mark/\c.mark<=65536/\0<=c.bits/\c.bits<=16
instance (c:Cap):Decidable (utB c):=by unfold utB; infer_instance
def upV (x s:Int):Int:=(x+s-1)/s*s
def roV (c:Cap) (k b n:Int):Int×Int :=
 if utB c then (if knE k b n=0 then
  (if c.obj+2^c.bits.toNat<upV (c.obj+c.mark) (hszV k b)+n*hszV k b then (0,151) else (upV (c.obj+c.mark) (hszV k b),0))
  else (0,knE k b n)) else (0,60)
def roG:List V->List Blk->Res
 | [x, .s (.i .i64 k), .s (.i .i64 b), .s (.i .i64 n)],h=>capF (fun c=>.ok (.tup [.s (.i .i64 (roV c k b n).1), .s (.i .i64 (roV c k b n).2)]) [] h) [x]
 | _,_=>.bad
theorem pow_b {b:Int} (h0:0<=b) (h1:b<=16):1<=(2:Int)^b.toNat/\(2:Int)^b.toNat<=65536/\min b.toNat IntKind.i64.bits=b.toNat:=by
 have:b=0\/b=1\/b=2\/b=3\/b=4\/b=5\/b=6\/b=7\/b=8\/b=9\/b=10\/b=11\/b=12\/b=13\/b=14\/b=15\/b=16:=by omega
 rcases this with rfl|rfl|rfl|rfl|rfl|rfl|rfl|rfl|rfl|rfl|rfl|rfl|rfl|rfl|rfl|rfl|rfl<;>decide
theorem kn_sz {k b n:Int} (h:knE k b n=0):1<=hszV k b/\hszV k b<=32768/\hszE k b=0/\1<=n/\n<=16/\1<=k/\k<=8:=by
 unfold knE at h
 split at h
 ·cases h
 rename_i h0
 have hk:1<=k/\k<=8/\1<=n/\n<=16:=by omega
 obtain ⟨hk1,hk2,hn1,hn2⟩:=hk
 refine (fun (q:1<=hszV k b/\hszV k b<=32768/\hszE k b=0)=>⟨q.1,q.2.1,q.2.2,hn1,hn2,hk1,hk2⟩) ?_
 unfold hszV hszE
 by_cases k1:k=1
 ·subst k1
  simp only [if_true] at h
  split at h
  ·rename_i hb
   obtain ⟨p1,p2,p3⟩:=pow_b (b:=b) (by omega) (by omega)
   rw [if_pos ⟨rfl,hb.1,hb.2⟩,if_pos (.inl ⟨rfl,hb.1,hb.2⟩),p3]
   have:b=4\/b=5\/b=6\/b=7\/b=8\/b=9\/b=10\/b=11\/b=12\/b=13\/b=14\/b=15:=by omega
   rcases this with rfl|rfl|rfl|rfl|rfl|rfl|rfl|rfl|rfl|rfl|rfl|rfl<;>decide
  ·cases h
 rw [if_neg k1] at h
 by_cases k2:k=2
 ·subst k2
  simp only [if_true] at h
  split at h
  ·rename_i hb
   rw [if_neg (by omega),if_pos ⟨rfl,hb.1,hb.2⟩,if_pos (c:=_\/_) (.inr (.inl ⟨rfl,hb.1,hb.2⟩))]
   have:b=1\/b=2\/b=3\/b=4\/b=5\/b=6\/b=7\/b=8:=by omega
   rcases this with rfl|rfl|rfl|rfl|rfl|rfl|rfl|rfl<;>decide
  ·cases h
 rw [if_neg k2] at h
 split at h
 ·rename_i hb
  refine ⟨?_, ?_,if_pos (.inr (.inr ⟨by omega,hk2,hb⟩))⟩
  all_goals
   rw [if_neg (by omega),if_neg (by omega),if_pos ⟨by omega,hk2,hb⟩]
   split
   ·omega
   ·split
    ·omega
    ·split<;>omega
 ·cases h
theorem up_is {x s:Int} (hs:1<=s):x<=upV x s/\upV x s<x+s/\upV x s%s=0:=by
 unfold upV
 have h1:=Int.emod_add_mul_ediv (x+s-1) s
 have h2:=Int.emod_nonneg (x+s-1) (show s≠0 by omega)
 have h3:=Int.emod_lt_of_pos (x+s-1) (show 0<s by omega)
 have h4:(x+s-1)/s*s=s*((x+s-1)/s):=Int.mul_comm _ _
 refine ⟨by omega,by omega, ?_⟩
 exact Int.mul_emod_left _ _
theorem up_only {x y s:Int} (hs:1<=s) (h1:x<=y) (h2:y<=upV x s) (h3:y%s=0):y=upV x s:=by
 obtain ⟨a1,a2,a3⟩:=up_is (x:=x) hs
 have e1:=Int.emod_add_mul_ediv y s
 have e2:=Int.emod_add_mul_ediv (upV x s) s
 rw [h3] at e1
 rw [a3] at e2
 have:y/s=upV x s/s:=by
  by_cases c:y/s<upV x s/s
  ·have:s*(y/s+1)<=s*(upV x s/s):=Int.mul_le_mul_of_nonneg_left c (by omega)
   rw [Int.mul_add] at this
   omega
  ·by_cases c2:upV x s/s<y/s
   ·have:s*(upV x s/s+1)<=s*(y/s):=Int.mul_le_mul_of_nonneg_left c2 (by omega)
    rw [Int.mul_add] at this
    omega
   ·omega
 rw [<-e1,<-e2,this]
noncomputable def TRo:Tab:=addT 60 knG (addT 19 hsizeG (noT))
theorem TRo_snd:TRo.Snd Tryz.prog:=addT_snd ok60 kn_snd (addT_snd ok19 hsize_snd ((noT_snd _)))
theorem ro_snd:Snd Tryz.prog 15 (FSpec.of roG):=snd_run TRo_snd mixed Tryz.func15 dc15 300 fun args h K hc hS=>by
 unfold roG at hS
 split at hS
 ·rename_i x k b n
  obtain ⟨c,e,hR⟩:=capF_spec hS
  clear hS
  simp only [List.cons.injEq,and_true] at e
  subst e
  simp only [spec_ok,roV] at hR
  obtain ⟨ty,obj,bits',mark,gu,gb,bd,ri,asd,va,li⟩:=c
  simp only [Cap.cl]
  by_cases hu:utB ⟨ty,obj,bits',mark,gu,gb,bd,ri,asd,va,li⟩
  rotate_left
  ·rw [if_neg hu] at hR
   simp only [utB] at hu
   by_cases h1:ty=1
   ·by_cases h2:obj<0
    ·simp (maxSteps:=999999) only [EV0,zy,zx,zw,zv,zu,zq,zp,zj,zk,leT,zg,rvC,zZ,zY,zX,zW,↓zV,↓zU,reduceCtorEq,zQ,yz,yZ,yy,yx,yw,yv,yu,yq,yY,yp,yj,yk,yX,yW,yV,yg,yU,yQ,df15,h1,h2,bne,put,fillP,sub,EVt]
     exact hR
    ·by_cases h3:65536<obj
     ·simp (maxSteps:=999999) only [EV0,zy,zx,zw,zv,zu,zq,zp,zj,zk,leT,zg,rvC,zZ,zY,zX,zW,↓zV,↓zU,reduceCtorEq,zQ,yz,yZ,yy,yx,yw,yv,yu,yq,yY,yp,yj,yk,yX,yW,yV,yg,yU,yQ,df15,h1,h2,h3,bne,put,fillP,sub,EVt]
      exact hR
     ·by_cases h4:mark<0
      ·simp (maxSteps:=999999) only [EV0,zy,zx,zw,zv,zu,zq,zp,zj,zk,leT,zg,rvC,zZ,zY,zX,zW,↓zV,↓zU,reduceCtorEq,zQ,yz,yZ,yy,yx,yw,yv,yu,yq,yY,yp,yj,yk,yX,yW,yV,yg,yU,yQ,df15,h1,h2,h3,h4,bne,put,fillP,sub,EVt]
       exact hR
      ·by_cases h5:65536<mark
       ·simp (maxSteps:=999999) only [EV0,zy,zx,zw,zv,zu,zq,zp,zj,zk,leT,zg,rvC,zZ,zY,zX,zW,↓zV,↓zU,reduceCtorEq,zQ,yz,yZ,yy,yx,yw,yv,yu,yq,yY,yp,yj,yk,yX,yW,yV,yg,yU,yQ,df15,h1,h2,h3,h4,h5,bne,put,fillP,sub,EVt]
        exact hR
       ·by_cases h6:bits'<0
        ·simp (maxSteps:=999999) only [EV0,zy,zx,zw,zv,zu,zq,zp,zj,zk,leT,zg,rvC,zZ,zY,zX,zW,↓zV,↓zU,reduceCtorEq,zQ,yz,yZ,yy,yx,yw,yv,yu,yq,yY,yp,yj,yk,yX,yW,yV,yg,yU,yQ,df15,h1,h2,h3,h4,h5,h6,bne,put,fillP,sub,EVt]
         exact hR
        ·have h7:16<bits':=by
          apply Decidable.byContradiction
          intro h8
          exact hu ⟨h1,by omega,by omega,by omega,by omega,by omega,by omega⟩
         simp (maxSteps:=999999) only [EV0,zy,zx,zw,zv,zu,zq,zp,zj,zk,leT,zg,rvC,zZ,zY,zX,zW,↓zV,↓zU,reduceCtorEq,zQ,yz,yZ,yy,yx,yw,yv,yu,yq,yY,yp,yj,yk,yX,yW,yV,yg,yU,yQ,df15,h1,h2,h3,h4,h5,h6,h7,bne,put,fillP,sub,EVt]
         exact hR
   ·have h1':(ty==1)=false:=by simpa using h1
    simp (maxSteps:=999999) only [EV0,zy,zx,zw,zv,zu,zq,zp,zj,zk,leT,zg,rvC,zZ,zY,zX,zW,↓zV,↓zU,reduceCtorEq,zQ,yz,yZ,yy,yx,yw,yv,yu,yq,yY,yp,yj,yk,yX,yW,yV,yg,yU,yQ,df15,h1,h1',bne,put,fillP,sub,EVt]
    exact hR
  rw [if_pos hu] at hR
  simp only [utB] at hu
  obtain ⟨rfl,u1,u2,u3,u4,u5,u6⟩:=hu
  have v1:¬ obj<0:=by omega
  have v2:¬ 65536<obj:=by omega
  have v3:¬ mark<0:=by omega
  have v4:¬ 65536<mark:=by omega
  have v5:¬ bits'<0:=by omega
  have v6:¬ 16<bits':=by omega
  by_cases hk:knE k b n=0
  rotate_left
  ·rw [if_neg hk] at hR
   have hk':(knE k b n==0)=false:=by simpa using hk
   simp (maxSteps:=999999) only [EV0,zy,zx,zw,zv,zu,zq,zp,zj,zk,leT,zg,rvC,zZ,zY,zX,zW,↓zV,↓zU,reduceCtorEq,zQ,yz,yZ,yy,yx,yw,yv,yu,yq,yY,yp,yj,yk,yX,yW,yV,yg,yU,yQ,df15,TRo,knG,hk,hk',v1,v2,v3,v4,v5,v6,bne,put,fillP,sub,EVt]
   exact hR
  rw [if_pos hk] at hR
  obtain ⟨s1,s2,s3,n1,n2,_,_⟩:=kn_sz hk
  obtain ⟨s,hs⟩:∃ s,hszV k b=s:=⟨_,rfl⟩
  rw [hs] at hR s1 s2
  obtain ⟨p1,p2,p3⟩:=pow_b u5 u6
  obtain ⟨P,hP⟩:∃ P:Int,2^bits'.toNat=P:=⟨_,rfl⟩
  rw [hP] at hR p1 p2
  obtain ⟨a1,a2,a3⟩:=up_is (x:=obj+mark) s1
  obtain ⟨A,hA⟩:∃ A,upV (obj+mark) s=A:=⟨_,rfl⟩
  have s0:¬ s=0:=by omega
  have ns:n*s<=524288/\0<=n*s:=by
   have h1:n*s<=16*s:=Int.mul_le_mul_of_nonneg_right n2 (by omega)
   have h2:0<=n*s:=Int.mul_nonneg (by omega) (by omega)
   omega
  have w1:IntKind.i64.wrap (obj+mark)=obj+mark:=by rw [wrap64]<;>omega
  have w2:IntKind.i64.wrap (obj+mark+s)=obj+mark+s:=by rw [wrap64]<;>omega
  have w3:IntKind.i64.wrap (obj+mark+s-1)=obj+mark+s-1:=by rw [wrap64]<;>omega
  have w4:IntKind.i64.wrap ((obj+mark+s-1).tdiv s)=(obj+mark+s-1)/s:=by
   have h1:0<=(obj+mark+s-1)/s:=Int.ediv_nonneg (by omega) (by omega)
   have h2:(obj+mark+s-1)/s<=obj+mark+s-1:=Int.ediv_le_self _ (by omega)
   rw [Int.tdiv_eq_ediv_of_nonneg (by omega),wrap64]<;>omega
  have w5:IntKind.i64.wrap ((obj+mark+s-1)/s*s)=A:=by
   have:(obj+mark+s-1)/s*s=A:=hA
   rw [this,wrap64]<;>omega
  have w6:IntKind.i64.wrap (n*s)=n*s:=by rw [wrap64]<;>omega
  have w7:IntKind.i64.wrap (A+n*s)=A+n*s:=by rw [wrap64]<;>omega
  have w8:IntKind.i64.wrap (1*2^min bits'.toNat IntKind.i64.bits)=P:=by rw [p3,hP,Int.one_mul,wrap64]<;>omega
  have w9:IntKind.i64.wrap (obj+P)=obj+P:=by rw [wrap64]<;>omega
  rw [hA] at hR a1 a2 a3
  by_cases hz:obj+P<A+n*s
  ·rw [if_pos hz] at hR
   simp (maxSteps:=999999) only [EV0,zy,zx,zw,zv,zu,zq,zp,zj,zk,leT,zg,rvC,zZ,zY,zX,zW,↓zV,↓zU,reduceCtorEq,zQ,yz,yZ,yy,yx,yw,yv,yu,yq,yY,yp,yj,yk,yX,yW,yV,yg,yU,yQ,df15,TRo,knG,hsizeG,hk,hs,s3,s0,u5,v1,v2,v3,v4,v5,v6,w1,w2,w3,w4,w5,w6,w7,w8,w9,bne,put,fillP,sub,EVt,hz]
   exact hR
  ·rw [if_neg hz] at hR
   simp (maxSteps:=999999) only [EV0,zy,zx,zw,zv,zu,zq,zp,zj,zk,leT,zg,rvC,zZ,zY,zX,zW,↓zV,↓zU,reduceCtorEq,zQ,yz,yZ,yy,yx,yw,yv,yu,yq,yY,yp,yj,yk,yX,yW,yV,yg,yU,yQ,df15,TRo,knG,hsizeG,hk,hs,s3,s0,u5,v1,v2,v3,v4,v5,v6,w1,w2,w3,w4,w5,w6,w7,w8,w9,bne,put,fillP,sub,EVt,hz]
   exact hR
 ·exact hS.elim
noncomputable def TUq:Tab:=addT 61 knG (addT 62 hsizeG (noT))
theorem TUq_snd:TUq.Snd Tryz.prog:=addT_snd ok61 rkn_snd (addT_snd ok62 rhsize_snd ((noT_snd _)))
theorem rro_snd:Snd Tryz.prog 16 (FSpec.of roG):=snd_run TUq_snd mixed Tryz.func16 dc16 300 fun args h K hc hS=>by
 unfold roG at hS
 split at hS
 ·rename_i x k b n
  obtain ⟨c,e,hR⟩:=capF_spec hS
  clear hS
  simp only [List.cons.injEq,and_true] at e
  subst e
  simp only [spec_ok,roV] at hR
  obtain ⟨ty,obj,bits',mark,gu,gb,bd,ri,asd,va,li⟩:=c
  simp only [Cap.cl]
  by_cases hu:utB ⟨ty,obj,bits',mark,gu,gb,bd,ri,asd,va,li⟩
  rotate_left
  ·rw [if_neg hu] at hR
   simp only [utB] at hu
   by_cases h1:ty=1
   ·by_cases h2:obj<0
    ·simp (maxSteps:=999999) only [EV0,zy,zx,zw,zv,zu,zq,zp,zj,zk,leT,zg,rvC,zZ,zY,zX,zW,↓zV,↓zU,reduceCtorEq,zQ,yz,yZ,yy,yx,yw,yv,yu,yq,yY,yp,yj,yk,yX,yW,yV,yg,yU,yQ,df16,h1,h2,bne,put,fillP,sub,EVt]
     exact hR
    ·by_cases h3:65536<obj
     ·simp (maxSteps:=999999) only [EV0,zy,zx,zw,zv,zu,zq,zp,zj,zk,leT,zg,rvC,zZ,zY,zX,zW,↓zV,↓zU,reduceCtorEq,zQ,yz,yZ,yy,yx,yw,yv,yu,yq,yY,yp,yj,yk,yX,yW,yV,yg,yU,yQ,df16,h1,h2,h3,bne,put,fillP,sub,EVt]
      exact hR
     ·by_cases h4:mark<0
      ·simp (maxSteps:=999999) only [EV0,zy,zx,zw,zv,zu,zq,zp,zj,zk,leT,zg,rvC,zZ,zY,zX,zW,↓zV,↓zU,reduceCtorEq,zQ,yz,yZ,yy,yx,yw,yv,yu,yq,yY,yp,yj,yk,yX,yW,yV,yg,yU,yQ,df16,h1,h2,h3,h4,bne,put,fillP,sub,EVt]
       exact hR
      ·by_cases h5:65536<mark
       ·simp (maxSteps:=999999) only [EV0,zy,zx,zw,zv,zu,zq,zp,zj,zk,leT,zg,rvC,zZ,zY,zX,zW,↓zV,↓zU,reduceCtorEq,zQ,yz,yZ,yy,yx,yw,yv,yu,yq,yY,yp,yj,yk,yX,yW,yV,yg,yU,yQ,df16,h1,h2,h3,h4,h5,bne,put,fillP,sub,EVt]
        exact hR
       ·by_cases h6:bits'<0
        ·simp (maxSteps:=999999) only [EV0,zy,zx,zw,zv,zu,zq,zp,zj,zk,leT,zg,rvC,zZ,zY,zX,zW,↓zV,↓zU,reduceCtorEq,zQ,yz,yZ,yy,yx,yw,yv,yu,yq,yY,yp,yj,yk,yX,yW,yV,yg,yU,yQ,df16,h1,h2,h3,h4,h5,h6,bne,put,fillP,sub,EVt]
         exact hR
        ·have h7:16<bits':=by
          apply Decidable.byContradiction
          intro h8
          exact hu ⟨h1,by omega,by omega,by omega,by omega,by omega,by omega⟩
         simp (maxSteps:=999999) only [EV0,zy,zx,zw,zv,zu,zq,zp,zj,zk,leT,zg,rvC,zZ,zY,zX,zW,↓zV,↓zU,reduceCtorEq,zQ,yz,yZ,yy,yx,yw,yv,yu,yq,yY,yp,yj,yk,yX,yW,yV,yg,yU,yQ,df16,h1,h2,h3,h4,h5,h6,h7,bne,put,fillP,sub,EVt]
         exact hR
   ·have h1':(ty==1)=false:=by simpa using h1
    simp (maxSteps:=999999) only [EV0,zy,zx,zw,zv,zu,zq,zp,zj,zk,leT,zg,rvC,zZ,zY,zX,zW,↓zV,↓zU,reduceCtorEq,zQ,yz,yZ,yy,yx,yw,yv,yu,yq,yY,yp,yj,yk,yX,yW,yV,yg,yU,yQ,df16,h1,h1',bne,put,fillP,sub,EVt]
    exact hR
  rw [if_pos hu] at hR
  simp only [utB] at hu
  obtain ⟨rfl,u1,u2,u3,u4,u5,u6⟩:=hu
  have v1:¬ obj<0:=by omega
  have v2:¬ 65536<obj:=by omega
  have v3:¬ mark<0:=by omega
  have v4:¬ 65536<mark:=by omega
  have v5:¬ bits'<0:=by omega
  have v6:¬ 16<bits':=by omega
  by_cases hk:knE k b n=0
  rotate_left
  ·rw [if_neg hk] at hR
   have hk':(knE k b n==0)=false:=by simpa using hk
   simp (maxSteps:=999999) only [EV0,zy,zx,zw,zv,zu,zq,zp,zj,zk,leT,zg,rvC,zZ,zY,zX,zW,↓zV,↓zU,reduceCtorEq,zQ,yz,yZ,yy,yx,yw,yv,yu,yq,yY,yp,yj,yk,yX,yW,yV,yg,yU,yQ,df16,TUq,knG,hk,hk',v1,v2,v3,v4,v5,v6,bne,put,fillP,sub,EVt]
   exact hR
  rw [if_pos hk] at hR
  obtain ⟨s1,s2,s3,n1,n2,_,_⟩:=kn_sz hk
  obtain ⟨s,hs⟩:∃ s,hszV k b=s:=⟨_,rfl⟩
  rw [hs] at hR s1 s2
  obtain ⟨p1,p2,p3⟩:=pow_b u5 u6
  obtain ⟨P,hP⟩:∃ P:Int,2^bits'.toNat=P:=⟨_,rfl⟩
  rw [hP] at hR p1 p2
  obtain ⟨a1,a2,a3⟩:=up_is (x:=obj+mark) s1
  obtain ⟨A,hA⟩:∃ A,upV (obj+mark) s=A:=⟨_,rfl⟩
  have s0:¬ s=0:=by omega
  have ns:n*s<=524288/\0<=n*s:=by
   have h1:n*s<=16*s:=Int.mul_le_mul_of_nonneg_right n2 (by omega)
   have h2:0<=n*s:=Int.mul_nonneg (by omega) (by omega)
   omega
  have w1:IntKind.i64.wrap (obj+mark)=obj+mark:=by rw [wrap64]<;>omega
  have w2:IntKind.i64.wrap (obj+mark+s)=obj+mark+s:=by rw [wrap64]<;>omega
  have w3:IntKind.i64.wrap (obj+mark+s-1)=obj+mark+s-1:=by rw [wrap64]<;>omega
  have w4:IntKind.i64.wrap ((obj+mark+s-1).tdiv s)=(obj+mark+s-1)/s:=by
   have h1:0<=(obj+mark+s-1)/s:=Int.ediv_nonneg (by omega) (by omega)
   have h2:(obj+mark+s-1)/s<=obj+mark+s-1:=Int.ediv_le_self _ (by omega)
   rw [Int.tdiv_eq_ediv_of_nonneg (by omega),wrap64]<;>omega
  have w5:IntKind.i64.wrap ((obj+mark+s-1)/s*s)=A:=by
   have:(obj+mark+s-1)/s*s=A:=hA
   rw [this,wrap64]<;>omega
  have w6:IntKind.i64.wrap (n*s)=n*s:=by rw [wrap64]<;>omega
  have w7:IntKind.i64.wrap (A+n*s)=A+n*s:=by rw [wrap64]<;>omega
  have w8:IntKind.i64.wrap (1*2^min bits'.toNat IntKind.i64.bits)=P:=by rw [p3,hP,Int.one_mul,wrap64]<;>omega
  have w9:IntKind.i64.wrap (obj+P)=obj+P:=by rw [wrap64]<;>omega
  rw [hA] at hR a1 a2 a3
  simp (maxSteps:=999999) only [EV0,zy,zx,zw,zv,zu,zq,zp,zj,zk,leT,zg,rvC,zZ,zY,zX,zW,↓zV,↓zU,reduceCtorEq,zQ,yz,yZ,yy,yx,yw,yv,yu,yq,yY,yp,yj,yk,yX,yW,yV,yg,yU,yQ,df16,TUq,knG,hsizeG,hk,hs,s3,s0,u5,v1,v2,v3,v4,v5,v6,w1,w2,w3,w4,w5,w6,w7,w8,w9,bne,put,fillP,sub,EVt]
  refine loop_rule (α:=Int) [13,65,66,67,68,69,70] (fun z=>[(13, .s (.i .i64 z))]) (fun _=>[⟨.rw,[.i .i64 1, .i .i64 obj, .i .i64 bits', .i .i64 mark, .i .i64 gu, .i .i64 gb, .i .i64 bd, .i .i64 ri, .i .i64 asd, .i .i64 va, .i .i64 li],11⟩]) (fun _=>h) (fun z=>obj+mark<=z/\z<=A) (fun z=>(A-z).toNat) (obj+mark) ⟨Int.le_refl _,a1⟩ ?_ ?_
  ·refine Wk.same rfl rfl ?_
   simp (maxSteps:=999999) only [EV0,zy,zx,zw,zv,zu,zq,zp,zj,zk,leT,zg,rvC,zZ,zY,zX,zW,↓zV,↓zU,reduceCtorEq,zQ,yz,yZ,yy,yx,yw,yv,yu,yq,yY,yp,yj,yk,yX,yW,yV,yg,yU,yQ]
  ·rintro X y ⟨hy1,hy2⟩ IH
   have ht:y.tmod s=y%s:=Int.tmod_eq_emod_of_nonneg (by omega)
   by_cases hm:y%s=0
   ·have hyA:y=A:=by rw [<-hA] at hy2 ⊢; exact up_only s1 hy1 hy2 hm
    subst hyA
    by_cases hz:obj+P<y+n*s
    ·rw [if_pos hz] at hR
     refine run_sound (Tab.ok_Γ _) 300 _ _ _ _ ?_
     simp (maxSteps:=999999) only [EV0,zy,zx,zw,zv,zu,zq,zp,zj,zk,leT,zg,rvC,zZ,zY,zX,zW,↓zV,↓zU,reduceCtorEq,zQ,yz,yZ,yy,yx,yw,yv,yu,yq,yY,yp,yj,yk,yX,yW,yV,yg,yU,yQ,TUq,knG,hsizeG,hk,hs,s3,s0,u5,v1,v2,v3,v4,v5,v6,w1,w2,w3,w4,w5,w6,w7,w8,w9,bne,put,fillP,sub,EVt,hz,ht,hm]
     exact hR
    ·rw [if_neg hz] at hR
     refine run_sound (Tab.ok_Γ _) 300 _ _ _ _ ?_
     simp (maxSteps:=999999) only [EV0,zy,zx,zw,zv,zu,zq,zp,zj,zk,leT,zg,rvC,zZ,zY,zX,zW,↓zV,↓zU,reduceCtorEq,zQ,yz,yZ,yy,yx,yw,yv,yu,yq,yY,yp,yj,yk,yX,yW,yV,yg,yU,yQ,TUq,knG,hsizeG,hk,hs,s3,s0,u5,v1,v2,v3,v4,v5,v6,w1,w2,w3,w4,w5,w6,w7,w8,w9,bne,put,fillP,sub,EVt,hz,ht,hm]
     exact hR
   ·have hm':(y%s==0)=false:=by simpa using hm
    have hyn:y≠A:=fun e=>hm (by rw [e]; exact a3)
    have wy:IntKind.i64.wrap (y+1)=y+1:=by rw [wrap64]<;>omega
    refine run_sound (Tab.ok_Γ _) 300 _ _ _ _ ?_
    simp (maxSteps:=999999) only [EV0,zy,zx,zw,zv,zu,zq,zp,zj,zk,leT,zg,rvC,zZ,zY,zX,zW,↓zV,↓zU,reduceCtorEq,zQ,yz,yZ,yy,yx,yw,yv,yu,yq,yY,yp,yj,yk,yX,yW,yV,yg,yU,yQ,TUq,knG,hsizeG,hk,hs,s3,s0,u5,v1,v2,v3,v4,v5,v6,w1,w2,w3,w4,w5,w6,w7,w8,w9,bne,put,fillP,sub,EVt,ht,hm,hm',wy]
    refine IH (y+1) _ (by omega) ⟨by omega,by omega⟩ ?_
    exact Wk.same rfl rfl (by simp only [EV0,zy,zx,zw,zv,zu,zq,zp,zj,zk,leT,zg,rvC,zZ,zY,zX,zW,↓zV,↓zU,reduceCtorEq,zQ,yz,yZ,yy,yx,yw,yv,yu,yq,yY,yp,yj,yk,yX,yW,yV,yg,yU,yQ])
 ·exact hS.elim
end Go.Proofs.YtcdfofeolgbnbaaGreat

/- Packages untyped,hand,heap: chunks (a range over a function),a unit,noughts; the document's units. -/
namespace Go.Proofs.YtcdfofeolgbnbaaGreat
open Go.D
set_option linter.all false
set_option maxRecDepth 100000
set_option maxHeartbeats 4000000

/-! ### noughts -/
def zeroX (m:M) (x k:Int):M:=if m.has x k=true then (m.fill x.toNat 0 k.toNat).tick k else m
def zeroM (b:Nat) (m:M) (st:M->List Blk):List V->Res
 | [.s (.i .i64 x), .s (.i .i64 k)]=>.br (decide (x<1024)) (.ok (.s (.i .i64 20)) [] (st m)) (.ok (.s (.i .i64 (if m.has x k=true then 0 else 20))) [] (st (zeroX m x k)))
 | _=>.bad
noncomputable def zeroG:=memF zeroM
noncomputable def TZe:Tab:=addT 154 fillG (noT)
theorem TZe_snd:TZe.Snd Tryz.prog:=addT_snd ok154 mfill_snd ((noT_snd _))
theorem zero_snd:Snd Tryz.prog 92 (FSpec.of zeroG):=snd_run TZe_snd mixed Tryz.func92 dc92 200 fun args h K hc hS=>by
 obtain ⟨a,b,m,rest,rfl,H,hS1⟩:=memF_spec hS
 clear hS
 have hS:=hS1
 clear hS1
 unfold zeroM at hS
 split at hS
 ·rename_i x k
  simp only [spec_br,spec_ok,decide_eq_true_eq,decide_eq_false_iff_not] at hS
  have hu:=u64_0
  by_cases h1:x<1024
  ·have hS:=hS.1 h1
   simp (maxSteps:=999999) only [go_sem,simprocAttr,↓qT,↓qF,df92,TZe,fillG,memF_eq H,fillM,h1,setM_self H]
   simp only [setM_self H] at hS
   exact hS
  ·have hS:=hS.2 h1
   cases hh:m.has x k with
   | true =>
    simp only [zeroX,hh,if_true] at hS
    simp (maxSteps:=999999) only [go_sem,simprocAttr,↓qT,↓qF,df92,TZe,fillG,memF_eq H,fillM,h1,hh,hu]
    exact hS
   | false =>
    simp only [zeroX,hh,Bool.false_eq_true,if_false] at hS
    simp (maxSteps:=999999) only [go_sem,simprocAttr,↓qT,↓qF,df92,TZe,fillG,memF_eq H,fillM,h1,hh,hu]
    exact hS
 ·exact hS.elim

/-! ### units -/
def uB (u:Int):Blk:=⟨.rw,[.i .i64 u],1⟩
def i64 (u:Int):Prop:=-9223372036854775808<=u/\u<9223372036854775808
instance (u:Int):Decidable (i64 u):=by unfold i64; infer_instance
def unitG:List V->List Blk->Res
 | [.s .np],h=>.ok (.s (.b true)) [] h
 | [.s (.p (.g d) 0)],h=>match h[d]? with
  | some ⟨.rw,[.i .i64 u],1⟩=>.ob (i64 u) (.br (decide (u<=0)) (.ok (.s (.b false)) [] h) (.ok (.s (.b true)) [] (h.set d (uB (u-1)))))
  | _=>.bad
 | _,_=>.bad
theorem unit_snd:Snd Tryz.prog 91 (FSpec.of unitG):=snd_run (noT_snd _) mixed Tryz.func91 dc91 200 fun args h K hc hS=>by
 unfold unitG at hS
 split at hS
 ·simp only [spec_ok] at hS
  simp (maxSteps:=999999) only [go_sem,simprocAttr,↓qT,↓qF,df91]
  exact hS
 ·rename_i d
  split at hS
  ·rename_i u hd
   simp only [spec_ob,spec_br,spec_ok,decide_eq_true_eq,decide_eq_false_iff_not,uB] at hS
   obtain ⟨hu,hS⟩:=hS
   unfold i64 at hu
   by_cases h1:u<=0
   ·have hS:=hS.1 h1
    simp (maxSteps:=999999) only [go_sem,simprocAttr,↓qT,↓qF,df91,hd,h1]
    exact hS
   ·have hS:=hS.2 h1
    have hw:IntKind.i64.wrap (u-1)=u-1:=by rw [wrap64]<;>omega
    simp (maxSteps:=999999) only [go_sem,simprocAttr,↓qT,↓qF,df91,hd,h1,hw,put,fillP]
    exact hS
  ·exact hS.elim
 ·exact hS.elim
def takeG:List V->List Blk->Res
 | [.s (.p (.g d) 0)],h=>match h[d]? with
  | some ⟨.rw,[.i .i64 u],1⟩=>.ob (i64 u/\0<=u) (.br (decide (u<=0)) (.ok (.s (.b false)) [] h) (.ok (.s (.b true)) [] (h.set d (uB (u-1)))))
  | _=>.bad
 | _,_=>.bad
theorem take_snd:Snd Tryz.prog 148 (FSpec.of takeG):=snd_run (noT_snd _) mixed Tryz.func148 dc148 200 fun args h K hc hS=>by
 unfold takeG at hS
 split at hS
 ·rename_i d
  split at hS
  ·rename_i u hd
   simp only [spec_ob,spec_br,spec_ok,decide_eq_true_eq,decide_eq_false_iff_not,uB] at hS
   obtain ⟨⟨hu,hu0⟩,hS⟩:=hS
   unfold i64 at hu
   by_cases h1:u<=0
   ·obtain rfl:u=0:=by omega
    have hS:=hS.1 (Int.le_refl 0)
    simp (maxSteps:=999999) only [go_sem,simprocAttr,↓qT,↓qF,df148,hd]
    exact hS
   ·have hS:=hS.2 h1
    have h2:(u==0)=false:=by simpa using (by omega:u≠0)
    have h3:0<u:=by omega
    have hw:IntKind.i64.wrap (u-1)=u-1:=by rw [wrap64]<;>omega
    simp (maxSteps:=999999) only [go_sem,simprocAttr,↓qT,↓qF,df148,hd,h2,h3,hw,put,fillP]
    exact hS
  ·exact hS.elim
 ·exact hS.elim

/-! ### chunks -/
def ckG:List V->List Blk->Res
 | [.s (.i .i64 x)],h=>.ok (.s (.fn 153 [(.g h.length,0)])) [] (h++[uB x])
 | _,_=>.bad
theorem ck_snd:Snd Tryz.prog 90 (FSpec.of ckG):=snd_run (noT_snd _) mixed Tryz.func90 dc90 100 fun args h K hc hS=>by
 unfold ckG at hS
 split at hS
 ·rename_i x
  simp only [spec_ok,uB] at hS
  simp (maxSteps:=999999) only [go_sem,simprocAttr,↓qT,↓qF,df90]
  refine ⟨[0],by simp,rfl, ?_⟩
  simp only [getAll,List.getElem?_cons_zero,List.getElem?_cons_succ]
  refine ⟨?_, ?_⟩
  ·simp [S.kept,R.kept]
  ·refine cast ?_ hS
   simp [Blk.ren,S.ren,R.prom,V.ren,List.idxOf,List.findIdx,List.findIdx.go]
 ·exact hS.elim
def cw (R:Rnd) (K:Option Ex->U->List Blk->Prop):Nat->Int->List Blk->U->Prop
 | 0,x,h,u=>x<=0/\K none u (h++[uB x])
 | k+1,x,h,u=>if x<=0 then K none u (h++[uB x]) else
   RM R [.s (.i .i64 ((x-1)/64*64))] u (h++[uB ((x-1)/64*64)]) fun p u' h'=>∃ h2,h2.length=h.length/\h'=h2++[uB ((x-1)/64*64)]/\match p with
    | none=>cw R K k ((x-1)/64*64) h2 u'
    | some e=>K (some e) u' h'
noncomputable def TCk:Tab:=addT 91 unitG (noT)
theorem TCk_snd:TCk.Snd Tryz.prog:=addT_snd ok91 unit_snd ((noT_snd _))
theorem chunks1_is {h:List Blk} {x:Int} {u:U} {R:Rnd} {K:Option Ex->U->List Blk->Prop} {k:Nat} (hx:x<=1000000000000) (hw:cw R K k x h u) :
  isem 153 [.s (.p (.g h.length) 0)] 1 u (h++[uB x]) R K:=by
 refine isem_of mixed (Tab.snd_Γ TCk_snd) ok153 Tryz.func153 dc153 rfl rfl rfl fun l=>?_
 have h1:∀ (h2:List Blk) (y:Int),h2.length=h.length->(h2++([⟨.rw,[.i .i64 y],1⟩]:List Blk))[h.length]?=some ⟨.rw,[.i .i64 y],1⟩:=fun h2 y e=>by
  rw [<-e,List.getElem?_append_right (Nat.le_refl _),Nat.sub_self]; rfl
 have h3:∀ (h2:List Blk) (y z:Int),h2.length=h.length->(h2++([⟨.rw,[.i .i64 y],1⟩]:List Blk)).set h.length ⟨.rw,[.i .i64 z],1⟩=h2++([⟨.rw,[.i .i64 z],1⟩]:List Blk):=fun h2 y z e=>by
  rw [<-e,List.set_append_right _ _ (Nat.le_refl _),Nat.sub_self]; rfl
 refine ysw_block (by decide) ?_
 refine ysw_loop (α:=Nat×Int×List Blk) [3,4,5,6,7,8,9,10,11,12] (fun _=>[]) (fun _=>[]) (fun y=>y.2.2++[uB y.2.1]) (fun y u p=>p=none/\y.2.1<=1000000000000/\y.2.2.length=h.length/\cw R K y.1 y.2.1 y.2.2 u) (fun y=>y.1) (k,x,h) ⟨rfl,hx,rfl,hw⟩ rfl ?_ ?_
 ·refine Wk.same rfl rfl ?_
  simp (maxSteps:=999999) only [go_sem,simprocAttr,↓qT,↓qF,df153]
 ·rintro X ⟨k,y,h2⟩ u p ⟨rfl,hy,hl,hw⟩ IH
  simp only at hy hl hw ⊢
  have g1:=h1 h2 y hl
  have g3:=fun z=>h3 h2 y z hl
  refine ysw_seq (ysw_seq (ysw_reg (Tab.ok_Γ _) 60 rfl ?_))
  by_cases h0:y<=0
  ·have h0':¬ 0<y:=by omega
   have hK:K none u (h2++[uB y]):=by
    cases k with
    | zero=>exact hw.2
    | succ k=>simp only [cw,h0,if_true] at hw; exact hw
   simp (maxSteps:=999999) only [go_sem,simprocAttr,↓qT,↓qF,df153,TCk,uB,g1,h0']
   refine ysw_cf rfl (ysw_exit (by decide) ?_)
   simp only [ysx,if_true]
   simp only [ysw]
   exact hK
  ·have h0':0<y:=by omega
   cases k with
   | zero=>exact absurd hw.1 h0
   | succ k =>
   simp only [cw,h0,if_false] at hw
   obtain ⟨z,hz⟩:∃ z,(y-1)/64*64=z:=⟨_,rfl⟩
   rw [hz] at hw
   have q1:IntKind.i64.wrap (y-1)=y-1:=by rw [wrap64]<;>omega
   have q2:IntKind.i64.wrap ((y-1).tdiv 64)=(y-1)/64:=by rw [Int.tdiv_eq_ediv_of_nonneg (by omega),wrap64]<;>omega
   have q3:IntKind.i64.wrap ((y-1)/64*64)=z:=by rw [<-hz,wrap64]<;>omega
   have g4:=h1 h2 z hl
   simp (maxSteps:=999999) only [go_sem,simprocAttr,↓qT,↓qF,df153,TCk,uB,g1,h0']
   refine ysw_ct rfl (ysw_skip (ysw_block (by decide) (ysw_seq (ysw_reg (Tab.ok_Γ _) 60 rfl ?_))))
   simp (maxSteps:=999999) only [go_sem,simprocAttr,↓qT,↓qF,df153,TCk,g1,g3,q1,q2,q3,put,fillP,sub]
   refine ysw_seq (ysw_yieldAt (Tab.ok_Γ _) 60 2 rfl rfl ?_)
   simp (maxSteps:=999999) only [go_sem,simprocAttr,↓qT,↓qF,df153,TCk,g4,sub,EVt,List.drop_succ_cons]
   refine ywp_y rfl rfl rfl rfl rfl (hw _ fun p' u' h' hk'=>?_)
   obtain ⟨h5,hl5,rfl,hk'⟩:=hk'
   refine ywp_run (Tab.ok_Γ _) 60 rfl ?_
   cases p' with
   | some e =>
    simp (maxSteps:=999999) only [go_sem,simprocAttr,↓qT,↓qF,df153,TCk,Option.isNone_some]
    exact ysw_ct rfl (ysw_ret hk')
   | none =>
    simp (maxSteps:=999999) only [go_sem,simprocAttr,↓qT,↓qF,df153,TCk,Option.isNone_none]
    refine ysw_cf rfl (ysw_skip (ysw_blk ?_))
    simp only [ysw]
    exact IH (k,z,h5) _ _ _ (by simp only; omega) ⟨rfl,by simp only; omega,by simp only; omega,hk'⟩ (by simp only [List.length_append,List.length_cons]) (Wk.keep 0 rfl rfl (by simp only [go_sem,simprocAttr,↓qT,↓qF,df153]) (by rfl) (by simp))
end Go.Proofs.YtcdfofeolgbnbaaGreat

/- Package untyped: Reset: its rounds,the walk. -/
namespace Go.Proofs.YtcdfofeolgbnbaaGreat
open Go.D
set_option linter.all false
set_option maxRecDepth 100000
set_option maxHeartbeats 400000

def rsN (c:Cap):Cap:=⟨c.ty,c.obj,c.bits,(c.mark-1)/64*64,c.guard,c.gbits,c.badge,c.rights,c.asid,c.vaddr,c.line⟩
def rsS (x:Int) (m:M) (c:Cap):M:=(zeroX m (c.obj+(c.mark-1)/64*64) (c.mark-(c.mark-1)/64*64)).scX x (rsN c)
def rsW (x:Int):Nat->M->Cap->Option Int->M×Option Int×Int
 | 0,m,_,u=>(m,u,0)
 | k+1,m,c,u=>if c.mark<=0 then (m,u,0) else match u with
  | none=>rsW x k (rsS x m c) (rsN c) none
  | some v=>if v<=0 then (m,some v,3) else rsW x k (rsS x m c) (rsN c) (some (v-1))
structure CB (c:Cap):Prop where
 obj:1024<=c.obj/\c.obj<=65535
 mark:0<=c.mark/\c.mark<=32768
theorem cb_of {c:Cap} (h:rightB c=true) (h1:c.ty=1):CB c:=by
 have hb:=right_bounds h
 have h4:=hb.mark
 have h5:=hb.obj
 unfold rightB at h
 rw [if_neg (by omega),if_pos h1] at h
 split at h
 ·cases h
 ·rename_i hn
  split at h
  ·cases h
  ·rename_i h2
   have:0<uRaw c.bits:=by
    have:c.bits=4\/c.bits=5\/c.bits=6\/c.bits=7\/c.bits=8\/c.bits=9\/c.bits=10\/c.bits=11\/c.bits=12\/c.bits=13\/c.bits=14\/c.bits=15:=by omega
    rcases this with e|e|e|e|e|e|e|e|e|e|e|e<;>rw [e]<;>decide
   exact ⟨⟨by omega,h5.2⟩,h4⟩
theorem CB.n {c:Cap} (h:CB c) (h0:¬ c.mark<=0):CB (rsN c)/\(rsN c).mark<c.mark:=by
 obtain ⟨h1,h2⟩:=h
 exact ⟨⟨h1,by simp only [rsN]; omega⟩,by simp only [rsN]; omega⟩
theorem gV_cb {m:M} {x:Int} (h:(m.gV x).cap.ty=1):CB (m.gV x).cap:=by
 have:=m.gV_u x
 unfold slotRB at this
 simp only [Bool.and_eq_true] at this
 exact cb_of this.2.1 h

def uT (n:Nat):List V:=[.s .u, .s .u, .s .u, .s (.p (.l 0) 0), .s (.p (.l 1) 0), .s (.p (.l 2) 0), .s (.p (.l 3) 0), .s (.p (.l 4) 0), .s .u, .s .u, .s .u, .s .u, .s .u, .s .u, .s .u, .s .u, .s .u, .s .u, .s .u, .s .u, .s .u, .s .u, .s .u,
 .s (.fn 153 [(.g n,0)]), .s .u, .s .u, .s .u, .s .u, .s .u, .s .u, .s .u, .s .u, .s .u, .s .u, .s .u, .s .u, .s .u, .s .u, .s .u, .s .u, .s .u, .s .u, .s .u, .s .u]
def uLS (a:Nat) (x:Int) (up:S) (e:Int) (c:Cap):List Blk:=[⟨.rw,[.p (.g a) 0],1⟩,⟨.rw,[.i .i64 x],1⟩,⟨.rw,[up],1⟩,⟨.rw,[.i .i64 e],1⟩,⟨.rw,c.cl,11⟩]
def isU:Option V->Bool
 | some (.s .u)=>true
 | none=>true
 | _=>false
theorem mask_id:∀ (ds:List Nat) {t:List V},ds.all (fun d=>isU t[d]?)=true->maskT ds t=t
 | [],_,_=>rfl
 | d::ds,t,h=>by
  simp only [List.all_cons,Bool.and_eq_true] at h
  have e:t.set d (.s .u)=t:=by
   refine List.ext_getElem? fun i=>?_
   rw [List.getElem?_set]
   split
   ·rename_i e
    subst e
    have h1:=h.1
    split
    ·rename_i hl
     rw [List.getElem?_eq_getElem hl] at h1 ⊢
     unfold isU at h1
     split at h1
     ·rename_i e; exact e.symm
     ·rename_i e; cases e
     ·cases h1
    ·rename_i hl
     rw [List.getElem?_eq_none (by omega)]
   ·rfl
  simp only [maskT,e]
  exact mask_id ds h.2
noncomputable def TUr:Tab:=addT 67 cap9G (addT 41 nextG (addT 90 ckG (addT 91 unitG (addT 92 zeroG (addT 71 setCap9G (noT))))))
theorem TUr_snd:TUr.Snd Tryz.prog:=addT_snd ok67 cap9_snd (addT_snd ok41 next_snd (addT_snd ok90 ck_snd (addT_snd ok91 unit_snd (addT_snd ok92 zero_snd (addT_snd ok71 setCap9_snd ((noT_snd _)))))))
section
variable {asg body:DC} {a b:Nat} {n:Nat} {c:Cap} {x y u:Int} {h:List Blk} {m m0:M} {d:Nat}
theorem rs_r0 (hab:findRf df27.body=some (asg,body)) (hd:h[d]?=some (uB u)) (hi:i64 u) (hu:u<=0):RM (rndOf TUr.Γ [24] asg body) [.s (.i .i64 y)] (uT n,uLS a x (.p (.g d) 0) 0 c) h fun p u' h'=>p=some .ret/\u'=(uT n,uLS a x (.p (.g d) 0) 3 c)/\h'=h:=by
 intro K' hK
 cases hab
 refine rnd_rule2 (Tab.ok_Γ _) 60 1 ?_
 obtain ⟨c0,c1,c2,c3,c4,c5,c6,c7,c8,c9,c10⟩:=c
 simp only [uB] at hd
 simp (maxSteps:=999999) only [go_sem,simprocAttr,↓qT,↓qF,TUr,unitG,hd,hi,hu,uT,uLS,bindT,Cap.cl,put,fillP,sub,EVt]
 refine run_sound (Tab.ok_Γ _) 60 _ _ _ _ ?_
 simp (maxSteps:=999999) only [go_sem,simprocAttr,↓qT,↓qF,TUr,unitG,hd,hi,hu,put,fillP,sub,EVt]
 refine rndE_mk ⟨uT n,uLS a x (.p (.g d) 0) 3 ⟨c0,c1,c2,c3,c4,c5,c6,c7,c8,c9,c10⟩,h⟩ (Wk.keep 5 rfl rfl (by simp only [go_sem,simprocAttr,↓qT,↓qF,uT]) (by rfl) (by rfl)) rfl ?_
 rw [mask_id _ (by rfl)]
 exact hK _ _ _ ⟨rfl,rfl,rfl⟩
theorem rs_r1 (hab:findRf df27.body=some (asg,body)) (H:IsMem h a b m0) (hc:CB c) (h0:¬ c.mark<=0):RM (rndOf TUr.Γ [24] asg body) [.s (.i .i64 ((c.mark-1)/64*64))] (uT n,uLS a x .np 0 c) (setM h a b m++[uB y]) fun p u' h'=>p=none/\u'=(uT n,uLS a x .np 0 (rsN c))/\h'=setM h a b (rsS x m c)++[uB y]:=by
 intro K' hK
 cases hab
 refine rnd_rule2 (Tab.ok_Γ _) 60 1 ?_
 obtain ⟨⟨o1,o2⟩,⟨k1,k2⟩⟩:=hc
 unfold rsS rsN at hK
 obtain ⟨c0,c1,c2,c3,c4,c5,c6,c7,c8,c9,c10⟩:=c
 simp only at h0 o1 o2 k1 k2 hK ⊢
 obtain ⟨z,hz⟩:∃ z,(c3-1)/64*64=z:=⟨_,rfl⟩
 rw [hz] at hK ⊢
 have q1:IntKind.i64.wrap (c1+z)=c1+z:=by rw [wrap64]<;>omega
 have q2:IntKind.i64.wrap (c3-z)=c3-z:=by rw [wrap64]<;>omega
 have q3:¬ c1+z<1024:=by omega
 have hmf:=fun f m rest=>memF_app (f:=f) (X:=[uB y]) (m':=m) (rest:=rest) H
 simp only [uB] at hmf hK ⊢
 simp (maxSteps:=999999) only [go_sem,simprocAttr,↓qT,↓qF,TUr,unitG,uB,hmf,zeroG,zeroM,setCap9G,setCap9M,capF,cap_eta,q1,q2,q3,uT,uLS,bindT,Cap.cl,put,fillP,sub,EVt]
 refine run_sound (Tab.ok_Γ _) 60 _ _ _ _ ?_
 simp (maxSteps:=999999) only [go_sem,simprocAttr,↓qT,↓qF,TUr,unitG,uB,hmf,zeroG,zeroM,setCap9G,setCap9M,capF,cap_eta,q1,q2,q3,Cap.cl,put,fillP,sub,EVt]
 refine rndE_mk ⟨uT n,uLS a x .np 0 ⟨c0,c1,c2,z,c4,c5,c6,c7,c8,c9,c10⟩,_⟩ (Wk.keep 5 rfl rfl (by simp only [go_sem,simprocAttr,↓qT,↓qF,uT]) (by rfl) (by rfl)) rfl ?_
 rw [mask_id _ (by rfl)]
 exact hK _ _ _ ⟨rfl,rfl,rfl⟩
theorem rs_r2 (hab:findRf df27.body=some (asg,body)) (H:IsMem h a b m0) (hc:CB c) (h0:¬ c.mark<=0) (hi:i64 u) (hu:¬ u<=0) (hda:d≠a) (hdb:d≠b) (hdl:d<h.length):RM (rndOf TUr.Γ [24] asg body) [.s (.i .i64 ((c.mark-1)/64*64))] (uT n,uLS a x (.p (.g d) 0) 0 c) (setM (h.set d (uB u)) a b m++[uB y]) fun p u' h'=>p=none/\u'=(uT n,uLS a x (.p (.g d) 0) 0 (rsN c))/\h'=setM (h.set d (uB (u-1))) a b (rsS x m c)++[uB y]:=by
 intro K' hK
 cases hab
 refine rnd_rule2 (Tab.ok_Γ _) 60 1 ?_
 obtain ⟨⟨o1,o2⟩,⟨k1,k2⟩⟩:=hc
 unfold rsS rsN at hK
 obtain ⟨c0,c1,c2,c3,c4,c5,c6,c7,c8,c9,c10⟩:=c
 simp only at h0 o1 o2 k1 k2 hK ⊢
 obtain ⟨z,hz⟩:∃ z,(c3-1)/64*64=z:=⟨_,rfl⟩
 rw [hz] at hK ⊢
 have q1:IntKind.i64.wrap (c1+z)=c1+z:=by rw [wrap64]<;>omega
 have q2:IntKind.i64.wrap (c3-z)=c3-z:=by rw [wrap64]<;>omega
 have q3:¬ c1+z<1024:=by omega
 have H1:∀ v,IsMem (h.set d (uB v)) a b m0:=fun v=>⟨H.ne,by rw [List.getElem?_set_ne hda]; exact H.ha,by rw [List.getElem?_set_ne hdb]; exact H.hb⟩
 have hmf:=fun v f m rest=>memF_app (f:=f) (X:=[uB y]) (m':=m) (rest:=rest) (H1 v)
 have g1:(setM (h.set d (uB u)) a b m++[uB y])[d]?=some (uB u):=by
  rw [List.getElem?_append_left (by rw [setM_len,List.length_set]; exact hdl)]
  unfold setM
  rw [List.getElem?_set_ne (Ne.symm hdb),List.getElem?_set_ne (Ne.symm hda),List.getElem?_set_self hdl]
 have g2:(setM (h.set d (uB u)) a b m++[uB y]).set d (uB (u-1))=setM (h.set d (uB (u-1))) a b m++[uB y]:=by
  rw [List.set_append_left _ _ (by rw [setM_len,List.length_set]; exact hdl)]
  unfold setM
  rw [List.set_comm _ _ (Ne.symm hdb),List.set_comm _ _ (Ne.symm hda),List.set_set]
 simp only [uB] at hmf g1 g2 hK ⊢
 simp (maxSteps:=999999) only [go_sem,simprocAttr,↓qT,↓qF,TUr,unitG,uB,hi,hu,g1,g2,hmf,zeroG,zeroM,setCap9G,setCap9M,capF,cap_eta,q1,q2,q3,uT,uLS,bindT,Cap.cl,put,fillP,sub,EVt]
 refine run_sound (Tab.ok_Γ _) 60 _ _ _ _ ?_
 simp (maxSteps:=999999) only [go_sem,simprocAttr,↓qT,↓qF,TUr,unitG,uB,hi,hu,g1,g2,hmf,zeroG,zeroM,setCap9G,setCap9M,capF,cap_eta,q1,q2,q3,Cap.cl,put,fillP,sub,EVt]
 refine rndE_mk ⟨uT n,uLS a x (.p (.g d) 0) 0 ⟨c0,c1,c2,z,c4,c5,c6,c7,c8,c9,c10⟩,_⟩ (Wk.keep 5 rfl rfl (by simp only [go_sem,simprocAttr,↓qT,↓qF,uT]) (by rfl) (by rfl)) rfl ?_
 rw [mask_id _ (by rfl)]
 exact hK _ _ _ ⟨rfl,rfl,rfl⟩
end
end Go.Proofs.YtcdfofeolgbnbaaGreat

