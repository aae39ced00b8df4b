/- Package untyped: Retype: what it makes. -/
import Derived.Test.YtcdfofeolgbnbaaGreatZ11
import Derived.Test.YtcdfofeolgbnbaaGreatZ29
import Derived.Test.YtcdfofeolgbnbaaGreatZ22
import Derived.Test.YtcdfofeolgbnbaaGreatZ23
/- Package untyped: asked; the document's. -/
namespace Go.Proofs.YtcdfofeolgbnbaaGreat
open Go.D
open Nat (reduceAdd reducePow reduceMul reduceSub reduceLeDiff reduceLT reduceEqDiff)
open Int (reduceNeg reduceLE reduceEq reduceNe reduceToNat)
open Go.D renaming istep → zy,pickR → zx,bin1R → zw,un1R → zv,eqS → zu,eq1 → zq,cmpS → zp,cmp1 → zj,isNil → zk,shows → zg,result → zZ,qT → zV,qF → zU
open List renaming set → zY,replicate → zX
open Option renaming map → zW
open Nat renaming reduceAdd → zQ,reducePow → yz,reduceMul → yy,reduceSub → yx,reduceLeDiff → yw,reduceLT → yv,reduceEqDiff → yu
open Int renaming reduceNeg → yq,reduceLE → yp,reduceEq → yj,reduceNe → yk,reduceToNat → yg,reducePow → yZ,reduceLT → yY,reduceAdd → yX,reduceSub → yW,reduceMul → yV,reduceBEq → yU,reduceBNe → yQ
set_option linter.all false
set_option maxRecDepth 100000
set_option maxHeartbeats 400000

def askS:Nat->M->Int->Int×M
 | 0,m,_=>(0,m)
 | k+1,m,a=>if (m.gV a).cap.ty=0 then askS k (m.gX a) (a+4) else (120,m.gX a)
def askV (m:M) (c:Cap) (k b:Int) (nd:Cap) (i n:Int):Int×M :=
 if c.ty=1 then (if knE k b n=0 then (if nd.ty=2/\0<=i/\i<slotsN nd/\n<=slotsN nd-i then askS n.toNat m (nd.obj+4*i) else (150,m)) else (knE k b n,m)) else (60,m)
def askM (b:Nat) (m:M) (st:M->List Blk):List V->Res
 | [x, .s (.i .i64 k), .s (.i .i64 b'),y, .s (.i .i64 i), .s (.i .i64 n)]=>capF (fun c=>capF (fun nd=>.ob (rightB nd=true) (.ok (.s (.i .i64 (askV m c k b' nd i n).1)) [] (st (askV m c k b' nd i n).2))) [y]) [x]
 | _=>.bad
noncomputable def askG:=memF askM
theorem node_b {c:Cap} (h:rightB c=true) (h2:c.ty=2):(1<=c.bits/\c.bits<=8)/\0<=c.obj/\c.obj<=65535/\2<=slotsN c/\slotsN c<=256/\IntKind.i64.wrap (1*2^min c.bits.toNat IntKind.i64.bits)=slotsN c:=by
 have hb:=(right_bounds h).obj
 have hs:slotsN c=IntKind.i64.wrap (1*2^min c.bits.toNat IntKind.i64.bits):=by
  unfold slotsN
  rw [if_pos h,if_neg (by omega),if_neg (by omega),if_pos h2]
 have hn:1<=c.bits/\c.bits<=8:=by
  unfold rightB at h
  rw [if_neg (by omega),if_neg (by omega),if_pos h2] at h
  split at h
  ·cases h
  ·rename_i hn
   rw [<-nOk_iff]
   cases hh:nOk c.bits
   ·exact absurd (.inl (by rw [hh]; decide)) hn
   ·rfl
 refine ⟨hn,hb.1,hb.2, ?_, ?_,hs.symm⟩<;>rw [hs] <;>
 ·have:c.bits=1\/c.bits=2\/c.bits=3\/c.bits=4\/c.bits=5\/c.bits=6\/c.bits=7\/c.bits=8:=by omega
  rcases this with e|e|e|e|e|e|e|e<;>rw [e]<;>decide
theorem slotAt_node {c:Cap} {i:Int} (h:rightB c=true) (h2:c.ty=2) (h0:0<=i) (h1:i<slotsN c):slotAtV c i=c.obj+4*i:=by
 obtain ⟨_,o1,o2,n1,n2,_⟩:=node_b h h2
 unfold slotAtV
 rw [if_pos ⟨h0,h1⟩,wrap64 (n:=4*i) (by omega) (by omega),wrap64 (by omega) (by omega)]
noncomputable def TUa:Tab:=addT 60 knG (addT 67 cap9G (addT 30 slotAtG (noT)))
theorem TUa_snd:TUa.Snd Tryz.prog:=addT_snd ok60 kn_snd (addT_snd ok67 cap9_snd (addT_snd ok30 slotAt_snd ((noT_snd _))))
theorem ask_snd:Snd Tryz.prog 68 (FSpec.of askG):=snd_run TUa_snd mixed Tryz.func68 dc68 300 fun args h K hc hS=>by
 obtain ⟨a,b,m,rest,rfl,H,hS1⟩:=memF_spec (f:=askM) hS
 clear hS
 have hS:=hS1
 clear hS1
 unfold askM at hS
 split at hS
 ·rename_i x k b' y i n
  obtain ⟨c,e,hS1⟩:=capF_spec hS
  simp only [List.cons.injEq,and_true] at e
  subst e
  clear hS
  obtain ⟨nd,e,hS⟩:=capF_spec hS1
  simp only [List.cons.injEq,and_true] at e
  subst e
  clear hS1
  simp only [spec_ob,spec_ok,askV] at hS
  obtain ⟨hr,hS⟩:=hS
  have hnb:=node_b hr
  have hsa:=fun i=>slotAt_node (i:=i) hr
  obtain ⟨N,hN⟩:∃ N,slotsN nd=N:=⟨_,rfl⟩
  rw [hN] at hS hnb
  simp only [hN] at hsa
  clear hN
  have hself:=setM_self H
  have hndc:Cap.cl nd=Cap.cl ⟨nd.ty,nd.obj,nd.bits,nd.mark,nd.guard,nd.gbits,nd.badge,nd.rights,nd.asid,nd.vaddr,nd.line⟩:=rfl
  obtain ⟨n0,n1,n2,n3,n4,n5,n6,n7,n8,n9,n10⟩:=nd
  obtain ⟨c0,c1,c2,c3,c4,c5,c6,c7,c8,c9,c10⟩:=c
  clear hndc
  simp only at hS hnb hsa
  by_cases h1:c0=1
  rotate_left
  ·rw [if_neg h1,hself] at hS
   have h1':(c0==1)=false:=by simpa using h1
   simp (maxSteps:=999999) only [EV0,zy,zx,zw,zv,zu,zq,zp,zj,zk,leT,zg,rvC,zZ,zY,zX,zW,↓zV,↓zU,reduceCtorEq,zQ,yz,yZ,yy,yx,yw,yv,yu,yq,yY,yp,yj,yk,yX,yW,yV,yg,yU,yQ,df68,TUa,knG,h1',bne,Cap.cl,put,fillP,sub,EVt]
   exact hS
  rw [if_pos h1] at hS
  subst h1
  by_cases h2:knE k b' n=0
  rotate_left
  ·rw [if_neg h2,hself] at hS
   have h2':(knE k b' n==0)=false:=by simpa using h2
   simp (maxSteps:=999999) only [EV0,zy,zx,zw,zv,zu,zq,zp,zj,zk,leT,zg,rvC,zZ,zY,zX,zW,↓zV,↓zU,reduceCtorEq,zQ,yz,yZ,yy,yx,yw,yv,yu,yq,yY,yp,yj,yk,yX,yW,yV,yg,yU,yQ,df68,TUa,knG,h2',bne,Cap.cl,put,fillP,sub,EVt]
   exact hS
  rw [if_pos h2] at hS
  obtain ⟨_,_,_,k1,k2,_,_⟩:=kn_sz h2
  by_cases h3:n0=2
  rotate_left
  ·rw [if_neg (fun q=>h3 q.1),hself] at hS
   have h3':(n0==2)=false:=by simpa using h3
   simp (maxSteps:=999999) only [EV0,zy,zx,zw,zv,zu,zq,zp,zj,zk,leT,zg,rvC,zZ,zY,zX,zW,↓zV,↓zU,reduceCtorEq,zQ,yz,yZ,yy,yx,yw,yv,yu,yq,yY,yp,yj,yk,yX,yW,yV,yg,yU,yQ,df68,TUa,knG,h2,h3',bne,Cap.cl,put,fillP,sub,EVt]
   exact hS
  subst h3
  obtain ⟨⟨b1,b2⟩,o1,o2,N1,N2,hw⟩:=hnb rfl
  have hsa:=fun i=>hsa i rfl
  have b0:0<=n2:=by omega
  have b0':¬ n2<0:=by omega
  by_cases h4:i<0
  ·rw [if_neg (fun q=>absurd q.2.1 (by omega)),hself] at hS
   simp (maxSteps:=999999) only [EV0,zy,zx,zw,zv,zu,zq,zp,zj,zk,leT,zg,rvC,zZ,zY,zX,zW,↓zV,↓zU,reduceCtorEq,zQ,yz,yZ,yy,yx,yw,yv,yu,yq,yY,yp,yj,yk,yX,yW,yV,yg,yU,yQ,df68,TUa,knG,h2,h4,bne,Cap.cl,put,fillP,sub,EVt]
   exact hS
  by_cases h5:N<=i
  ·rw [if_neg (fun q=>absurd q.2.2.1 (by omega)),hself] at hS
   simp (maxSteps:=999999) only [EV0,zy,zx,zw,zv,zu,zq,zp,zj,zk,leT,zg,rvC,zZ,zY,zX,zW,↓zV,↓zU,reduceCtorEq,zQ,yz,yZ,yy,yx,yw,yv,yu,yq,yY,yp,yj,yk,yX,yW,yV,yg,yU,yQ,df68,TUa,knG,h2,h4,h5,hw,b0,b0',bne,Cap.cl,put,fillP,sub,EVt]
   exact hS
  have q1:IntKind.i64.wrap (N-i)=N-i:=by rw [wrap64]<;>omega
  by_cases h6:N-i<n
  ·rw [if_neg (fun q=>absurd q.2.2.2 (by omega)),hself] at hS
   simp (maxSteps:=999999) only [EV0,zy,zx,zw,zv,zu,zq,zp,zj,zk,leT,zg,rvC,zZ,zY,zX,zW,↓zV,↓zU,reduceCtorEq,zQ,yz,yZ,yy,yx,yw,yv,yu,yq,yY,yp,yj,yk,yX,yW,yV,yg,yU,yQ,df68,TUa,knG,h2,h4,h5,h6,hw,q1,b0,b0',bne,Cap.cl,put,fillP,sub,EVt]
   exact hS
  rw [if_pos ⟨rfl,by omega,by omega,by omega⟩] at hS
  simp (maxSteps:=999999) only [EV0,zy,zx,zw,zv,zu,zq,zp,zj,zk,leT,zg,rvC,zZ,zY,zX,zW,↓zV,↓zU,reduceCtorEq,zQ,yz,yZ,yy,yx,yw,yv,yu,yq,yY,yp,yj,yk,yX,yW,yV,yg,yU,yQ,df68,TUa,knG,h2,h4,h5,h6,hw,q1,b0,b0',bne,Cap.cl,put,fillP,sub,EVt]
  obtain ⟨W,hW⟩:∃ W,askS n.toNat m (n1+4*i)=W:=⟨_,rfl⟩
  rw [hW] at hS
  refine loop_rule (α:=Nat×M) [14,16,51,52,53,54,55,56,57,58,59,60,61,62,63] (fun y=>[(51, .s (.i .i64 (y.1:Int)))]) (fun _=>[⟨.rw,Cap.cl ⟨1,c1,c2,c3,c4,c5,c6,c7,c8,c9,c10⟩,11⟩,⟨.rw,Cap.cl ⟨2,n1,n2,n3,n4,n5,n6,n7,n8,n9,n10⟩,11⟩]) (fun y=>setM h a b y.2) (fun y=>(y.1:Int)<=n/\askS (n.toNat-y.1) y.2 (n1+4*(i+y.1))=W) (fun y=>n.toNat-y.1) (0,m) ⟨by simp only; omega,by rw [<-hW]; simp only [Int.natCast_zero,Int.add_zero,Nat.sub_zero]⟩ ?_ ?_
  ·refine Wk.same rfl hself.symm ?_
   simp (maxSteps:=999999) only [EV0,zy,zx,zw,zv,zu,zq,zp,zj,zk,leT,zg,rvC,zZ,zY,zX,zW,↓zV,↓zU,reduceCtorEq,zQ,yz,yZ,yy,yx,yw,yv,yu,yq,yY,yp,yj,yk,yX,yW,yV,yg,yU,yQ,Int.natCast_zero]
  ·clear hW
   rintro X ⟨j,m'⟩ ⟨hj,hW⟩ IH
   simp only at hj hW ⊢
   by_cases hz:(j:Int)<n
   ·obtain ⟨z,hzz⟩:∃ z,n.toNat-j=z+1:=⟨n.toNat-j-1,by omega⟩
    rw [hzz] at hW
    simp only [askS] at hW
    have w1:IntKind.i64.wrap (i+j)=i+j:=by rw [wrap64]<;>omega
    have w2:IntKind.i64.wrap ((j:Int)+1)=((j+1:Nat):Int):=by rw [wrap64]<;>omega
    have w3:IntKind.i64.wrap (4*(i+j))=4*(i+j):=by rw [wrap64]<;>omega
    have w4:IntKind.i64.wrap (n1+4*(i+j))=n1+4*(i+j):=by rw [wrap64]<;>omega
    have hsa:=hsa (i+j) (by omega) (by omega)
    obtain ⟨A,hA⟩:∃ A,n1+4*(i+j)=A:=⟨_,rfl⟩
    rw [hA] at hW w4 hsa
    by_cases hy:(m'.gV A).cap.ty=0
    ·rw [if_pos hy] at hW
     have hcz:(m'.gV A).cap=capZ:=by rw [M.gV_null hy]; rfl
     have e2:n1+4*(i+((j+1:Nat):Int))=A+4:=by omega
     refine run_sound (Tab.ok_Γ _) 300 _ _ _ _ ?_
     simp (maxSteps:=999999) only [EV0,zy,zx,zw,zv,zu,zq,zp,zj,zk,leT,zg,rvC,zZ,zY,zX,zW,↓zV,↓zU,reduceCtorEq,zQ,yz,yZ,yy,yx,yw,yv,yu,yq,yY,yp,yj,yk,yX,yW,yV,yg,yU,yQ,TUa,knG,cap9G,cap9M,slotAtG,capIF,capF,cap_eta,memF_set H,hz,w1,w2,w3,hA,w4,hsa,hcz,capZ,bne,Cap.cl,put,fillP,sub,EVt]
     refine IH (j+1,m'.gX A) _ (by simp only; omega) ⟨by simp only; omega,by simp only; rw [e2,show n.toNat-(j+1)=z by omega]; exact hW⟩ ?_
     exact Wk.keep 2 rfl rfl (by simp only [EV0,zy,zx,zw,zv,zu,zq,zp,zj,zk,leT,zg,rvC,zZ,zY,zX,zW,↓zV,↓zU,reduceCtorEq,zQ,yz,yZ,yy,yx,yw,yv,yu,yq,yY,yp,yj,yk,yX,yW,yV,yg,yU,yQ]) (by simp only [EV0,zy,zx,zw,zv,zu,zq,zp,zj,zk,leT,zg,rvC,zZ,zY,zX,zW,↓zV,↓zU,reduceCtorEq,zQ,yz,yZ,yy,yx,yw,yv,yu,yq,yY,yp,yj,yk,yX,yW,yV,yg,yU,yQ]) (by rfl)
    ·rw [if_neg hy] at hW
     subst hW
     simp only at hS
     obtain ⟨⟨y0,y1,y2,y3,y4,y5,y6,y7,y8,y9,y10⟩,hcc⟩:∃ c,(m'.gV A).cap=c:=⟨_,rfl⟩
     rw [hcc] at hy
     have hy':(y0==0)=false:=by simpa using hy
     refine run_sound (Tab.ok_Γ _) 300 _ _ _ _ ?_
     simp (maxSteps:=999999) only [EV0,zy,zx,zw,zv,zu,zq,zp,zj,zk,leT,zg,rvC,zZ,zY,zX,zW,↓zV,↓zU,reduceCtorEq,zQ,yz,yZ,yy,yx,yw,yv,yu,yq,yY,yp,yj,yk,yX,yW,yV,yg,yU,yQ,TUa,knG,cap9G,cap9M,slotAtG,capIF,capF,cap_eta,memF_set H,hz,w1,w2,w3,hA,w4,hsa,hcc,hy',bne,Cap.cl,put,fillP,sub,EVt]
     exact hS
   ·have e:W=(0,m'):=by rw [<-hW,show n.toNat-j=0 by omega]; rfl
    subst e
    simp only at hS
    refine run_sound (Tab.ok_Γ _) 300 _ _ _ _ ?_
    simp (maxSteps:=999999) only [EV0,zy,zx,zw,zv,zu,zq,zp,zj,zk,leT,zg,rvC,zZ,zY,zX,zW,↓zV,↓zU,reduceCtorEq,zQ,yz,yZ,yy,yx,yw,yv,yu,yq,yY,yp,yj,yk,yX,yW,yV,yg,yU,yQ,hz,Cap.cl,put,fillP,sub,EVt]
    exact hS
 ·exact hS.elim
noncomputable def TUb:Tab:=addT 61 knG (addT 66 cap9G (noT))
theorem TUb_snd:TUb.Snd Tryz.prog:=addT_snd ok61 rkn_snd (addT_snd ok66 rcap9_snd ((noT_snd _)))
theorem rask_snd:Snd Tryz.prog 144 (FSpec.of askG):=snd_run TUb_snd mixed Tryz.func144 dc144 300 fun args h K hc hS=>by
 obtain ⟨a,b,m,rest,rfl,H,hS1⟩:=memF_spec (f:=askM) hS
 clear hS
 have hS:=hS1
 clear hS1
 unfold askM at hS
 split at hS
 ·rename_i x k b' y i n
  obtain ⟨c,e,hS1⟩:=capF_spec hS
  simp only [List.cons.injEq,and_true] at e
  subst e
  clear hS
  obtain ⟨nd,e,hS⟩:=capF_spec hS1
  simp only [List.cons.injEq,and_true] at e
  subst e
  clear hS1
  simp only [spec_ob,spec_ok,askV] at hS
  obtain ⟨hr,hS⟩:=hS
  have hnb:=node_b hr
  have hsa:=fun i=>slotAt_node (i:=i) hr
  obtain ⟨N,hN⟩:∃ N,slotsN nd=N:=⟨_,rfl⟩
  rw [hN] at hS hnb
  simp only [hN] at hsa
  clear hN
  have hself:=setM_self H
  have hndc:Cap.cl nd=Cap.cl ⟨nd.ty,nd.obj,nd.bits,nd.mark,nd.guard,nd.gbits,nd.badge,nd.rights,nd.asid,nd.vaddr,nd.line⟩:=rfl
  obtain ⟨n0,n1,n2,n3,n4,n5,n6,n7,n8,n9,n10⟩:=nd
  obtain ⟨c0,c1,c2,c3,c4,c5,c6,c7,c8,c9,c10⟩:=c
  clear hndc
  simp only at hS hnb hsa
  by_cases h1:c0=1
  rotate_left
  ·rw [if_neg h1,hself] at hS
   have h1':(c0==1)=false:=by simpa using h1
   simp (maxSteps:=999999) only [EV0,zy,zx,zw,zv,zu,zq,zp,zj,zk,leT,zg,rvC,zZ,zY,zX,zW,↓zV,↓zU,reduceCtorEq,zQ,yz,yZ,yy,yx,yw,yv,yu,yq,yY,yp,yj,yk,yX,yW,yV,yg,yU,yQ,df144,TUb,knG,h1',bne,Cap.cl,put,fillP,sub,EVt]
   exact hS
  rw [if_pos h1] at hS
  subst h1
  by_cases h2:knE k b' n=0
  rotate_left
  ·rw [if_neg h2,hself] at hS
   have h2':(knE k b' n==0)=false:=by simpa using h2
   simp (maxSteps:=999999) only [EV0,zy,zx,zw,zv,zu,zq,zp,zj,zk,leT,zg,rvC,zZ,zY,zX,zW,↓zV,↓zU,reduceCtorEq,zQ,yz,yZ,yy,yx,yw,yv,yu,yq,yY,yp,yj,yk,yX,yW,yV,yg,yU,yQ,df144,TUb,knG,h2',bne,Cap.cl,put,fillP,sub,EVt]
   exact hS
  rw [if_pos h2] at hS
  obtain ⟨_,_,_,k1,k2,_,_⟩:=kn_sz h2
  by_cases h3:n0=2
  rotate_left
  ·rw [if_neg (fun q=>h3 q.1),hself] at hS
   have h3':(n0==2)=false:=by simpa using h3
   simp (maxSteps:=999999) only [EV0,zy,zx,zw,zv,zu,zq,zp,zj,zk,leT,zg,rvC,zZ,zY,zX,zW,↓zV,↓zU,reduceCtorEq,zQ,yz,yZ,yy,yx,yw,yv,yu,yq,yY,yp,yj,yk,yX,yW,yV,yg,yU,yQ,df144,TUb,knG,h2,h3',bne,Cap.cl,put,fillP,sub,EVt]
   exact hS
  subst h3
  obtain ⟨⟨b1,b2⟩,o1,o2,N1,N2,hw⟩:=hnb rfl
  have hsa:=fun i=>hsa i rfl
  have b0:0<=n2:=by omega
  have b0':¬ n2<0:=by omega
  by_cases h4:i<0
  ·rw [if_neg (fun q=>absurd q.2.1 (by omega)),hself] at hS
   simp (maxSteps:=999999) only [EV0,zy,zx,zw,zv,zu,zq,zp,zj,zk,leT,zg,rvC,zZ,zY,zX,zW,↓zV,↓zU,reduceCtorEq,zQ,yz,yZ,yy,yx,yw,yv,yu,yq,yY,yp,yj,yk,yX,yW,yV,yg,yU,yQ,df144,TUb,knG,h2,h4,bne,Cap.cl,put,fillP,sub,EVt]
   exact hS
  by_cases h5:N<=i
  ·rw [if_neg (fun q=>absurd q.2.2.1 (by omega)),hself] at hS
   simp (maxSteps:=999999) only [EV0,zy,zx,zw,zv,zu,zq,zp,zj,zk,leT,zg,rvC,zZ,zY,zX,zW,↓zV,↓zU,reduceCtorEq,zQ,yz,yZ,yy,yx,yw,yv,yu,yq,yY,yp,yj,yk,yX,yW,yV,yg,yU,yQ,df144,TUb,knG,h2,h4,h5,hw,b0,b0',bne,Cap.cl,put,fillP,sub,EVt]
   exact hS
  have q1:IntKind.i64.wrap (N-i)=N-i:=by rw [wrap64]<;>omega
  by_cases h6:N-i<n
  ·rw [if_neg (fun q=>absurd q.2.2.2 (by omega)),hself] at hS
   simp (maxSteps:=999999) only [EV0,zy,zx,zw,zv,zu,zq,zp,zj,zk,leT,zg,rvC,zZ,zY,zX,zW,↓zV,↓zU,reduceCtorEq,zQ,yz,yZ,yy,yx,yw,yv,yu,yq,yY,yp,yj,yk,yX,yW,yV,yg,yU,yQ,df144,TUb,knG,h2,h4,h5,h6,hw,q1,b0,b0',bne,Cap.cl,put,fillP,sub,EVt]
   exact hS
  rw [if_pos ⟨rfl,by omega,by omega,by omega⟩] at hS
  simp (maxSteps:=999999) only [EV0,zy,zx,zw,zv,zu,zq,zp,zj,zk,leT,zg,rvC,zZ,zY,zX,zW,↓zV,↓zU,reduceCtorEq,zQ,yz,yZ,yy,yx,yw,yv,yu,yq,yY,yp,yj,yk,yX,yW,yV,yg,yU,yQ,df144,TUb,knG,h2,h4,h5,h6,hw,q1,b0,b0',bne,Cap.cl,put,fillP,sub,EVt]
  obtain ⟨W,hW⟩:∃ W,askS n.toNat m (n1+4*i)=W:=⟨_,rfl⟩
  rw [hW] at hS
  refine loop_rule (α:=Nat×M) [14,16,17,51,52,53,54,55,56,57,58,59,60,61,62,63,64,65,66,67] (fun y=>[(16, .s (.i .i64 (y.1:Int)))]) (fun _=>[⟨.rw,Cap.cl ⟨1,c1,c2,c3,c4,c5,c6,c7,c8,c9,c10⟩,11⟩,⟨.rw,Cap.cl ⟨2,n1,n2,n3,n4,n5,n6,n7,n8,n9,n10⟩,11⟩]) (fun y=>setM h a b y.2) (fun y=>(y.1:Int)<=n/\askS (n.toNat-y.1) y.2 (n1+4*(i+y.1))=W) (fun y=>n.toNat-y.1) (0,m) ⟨by simp only; omega,by rw [<-hW]; simp only [Int.natCast_zero,Int.add_zero,Nat.sub_zero]⟩ ?_ ?_
  ·refine Wk.same rfl hself.symm ?_
   simp (maxSteps:=999999) only [EV0,zy,zx,zw,zv,zu,zq,zp,zj,zk,leT,zg,rvC,zZ,zY,zX,zW,↓zV,↓zU,reduceCtorEq,zQ,yz,yZ,yy,yx,yw,yv,yu,yq,yY,yp,yj,yk,yX,yW,yV,yg,yU,yQ,Int.natCast_zero]
  ·clear hW
   rintro X ⟨j,m'⟩ ⟨hj,hW⟩ IH
   simp only at hj hW ⊢
   by_cases hz:(j:Int)<n
   ·obtain ⟨z,hzz⟩:∃ z,n.toNat-j=z+1:=⟨n.toNat-j-1,by omega⟩
    rw [hzz] at hW
    simp only [askS] at hW
    have w1:IntKind.i64.wrap (i+j)=i+j:=by rw [wrap64]<;>omega
    have w2:IntKind.i64.wrap ((j:Int)+1)=((j+1:Nat):Int):=by rw [wrap64]<;>omega
    have w3:IntKind.i64.wrap (4*(i+j))=4*(i+j):=by rw [wrap64]<;>omega
    have w4:IntKind.i64.wrap (n1+4*(i+j))=n1+4*(i+j):=by rw [wrap64]<;>omega
    have hsa:=hsa (i+j) (by omega) (by omega)
    obtain ⟨A,hA⟩:∃ A,n1+4*(i+j)=A:=⟨_,rfl⟩
    rw [hA] at hW w4 hsa
    by_cases hy:(m'.gV A).cap.ty=0
    ·rw [if_pos hy] at hW
     have hcz:(m'.gV A).cap=capZ:=by rw [M.gV_null hy]; rfl
     have e2:n1+4*(i+((j+1:Nat):Int))=A+4:=by omega
     refine run_sound (Tab.ok_Γ _) 300 _ _ _ _ ?_
     simp (maxSteps:=999999) only [EV0,zy,zx,zw,zv,zu,zq,zp,zj,zk,leT,zg,rvC,zZ,zY,zX,zW,↓zV,↓zU,reduceCtorEq,zQ,yz,yZ,yy,yx,yw,yv,yu,yq,yY,yp,yj,yk,yX,yW,yV,yg,yU,yQ,TUb,knG,cap9G,cap9M,slotAtG,capIF,capF,cap_eta,memF_set H,hz,w1,w2,w3,hA,w4,hsa,hcz,capZ,bne,Cap.cl,put,fillP,sub,EVt]
     refine IH (j+1,m'.gX A) _ (by simp only; omega) ⟨by simp only; omega,by simp only; rw [e2,show n.toNat-(j+1)=z by omega]; exact hW⟩ ?_
     exact Wk.keep 2 rfl rfl (by simp only [EV0,zy,zx,zw,zv,zu,zq,zp,zj,zk,leT,zg,rvC,zZ,zY,zX,zW,↓zV,↓zU,reduceCtorEq,zQ,yz,yZ,yy,yx,yw,yv,yu,yq,yY,yp,yj,yk,yX,yW,yV,yg,yU,yQ]) (by simp only [EV0,zy,zx,zw,zv,zu,zq,zp,zj,zk,leT,zg,rvC,zZ,zY,zX,zW,↓zV,↓zU,reduceCtorEq,zQ,yz,yZ,yy,yx,yw,yv,yu,yq,yY,yp,yj,yk,yX,yW,yV,yg,yU,yQ]) (by rfl)
    ·rw [if_neg hy] at hW
     subst hW
     simp only at hS
     obtain ⟨⟨y0,y1,y2,y3,y4,y5,y6,y7,y8,y9,y10⟩,hcc⟩:∃ c,(m'.gV A).cap=c:=⟨_,rfl⟩
     rw [hcc] at hy
     have hy':(y0==0)=false:=by simpa using hy
     refine run_sound (Tab.ok_Γ _) 300 _ _ _ _ ?_
     simp (maxSteps:=999999) only [EV0,zy,zx,zw,zv,zu,zq,zp,zj,zk,leT,zg,rvC,zZ,zY,zX,zW,↓zV,↓zU,reduceCtorEq,zQ,yz,yZ,yy,yx,yw,yv,yu,yq,yY,yp,yj,yk,yX,yW,yV,yg,yU,yQ,TUb,knG,cap9G,cap9M,slotAtG,capIF,capF,cap_eta,memF_set H,hz,w1,w2,w3,hA,w4,hsa,hcc,hy',bne,Cap.cl,put,fillP,sub,EVt]
     exact hS
   ·have e:W=(0,m'):=by rw [<-hW,show n.toNat-j=0 by omega]; rfl
    subst e
    simp only at hS
    refine run_sound (Tab.ok_Γ _) 300 _ _ _ _ ?_
    simp (maxSteps:=999999) only [EV0,zy,zx,zw,zv,zu,zq,zp,zj,zk,leT,zg,rvC,zZ,zY,zX,zW,↓zV,↓zU,reduceCtorEq,zQ,yz,yZ,yy,yx,yw,yv,yu,yq,yY,yp,yj,yk,yX,yW,yV,yg,yU,yQ,hz,Cap.cl,put,fillP,sub,EVt]
    exact hS
 ·exact hS.elim
end Go.Proofs.YtcdfofeolgbnbaaGreat

/- Package objs: threads,the code's: plain. -/
namespace Go.Proofs.YtcdfofeolgbnbaaGreat
open Go.D
set_option linter.all false
set_option maxRecDepth 100000
set_option maxHeartbeats 8000000

theorem posB_iff {L:List Fi}:posB L=true↔∀ f,f∈L->0<=f.n:=by simp [posB]
theorem opB_iff {L:List Fi}:opB L=true↔(∀ f,f∈L->0<=f.n)/\packB (L.map Fi.fd) 0=true:=by
 simp only [opB,Bool.and_eq_true,posB_iff]
theorem fm_cons {p:Fi->Prop} {x:Fi} {L:List Fi}:(∀ f,f∈x::L->p f)↔p x/\∀ f,f∈L->p f:=by simp
theorem fm_nil {p:Fi->Prop}:(∀ f,f∈([]:List Fi)->p f)↔True:=by simp
def Th.l0 (t:Th):List Fi:=[⟨3,t.st⟩,⟨8,t.pr⟩,⟨3,t.sl⟩,⟨1,bI t.qd⟩,⟨1,bI t.cg⟩,⟨1,bI t.ic⟩,⟨2,t.fk⟩]
def Th.l1 (t:Th):List Fi:=[⟨16,t.pv⟩,⟨16,t.nx⟩,⟨16,t.bl⟩,⟨16,t.bo⟩]
def Th.l2 (t:Th):List Fi:=[⟨28,t.bg⟩]
def Th.l3 (t:Th):List Fi:=[⟨32,t.ha⟩,⟨32,t.fa⟩]
theorem bI_s (b:Bool):sml (bI b):=by have:=bI_u b; unfold sml; omega
section
variable {t:Th} (u:t.up)
include u
theorem l0_B:opB t.l0=true↔(0<=t.st/\t.st<8)/\(0<=t.pr/\t.pr<256)/\(0<=t.sl/\t.sl<8)/\(0<=t.fk/\t.fk<4):=by
 have b1:=bI_u t.qd
 have b2:=bI_u t.cg
 have b3:=bI_u t.ic
 have s1:=bI_s t.qd
 have s2:=bI_s t.cg
 have s3:=bI_s t.ic
 obtain ⟨q,hq⟩:∃ q,bI t.qd=q:=⟨_,rfl⟩
 obtain ⟨g,hg⟩:∃ q,bI t.cg=q:=⟨_,rfl⟩
 obtain ⟨i,hi⟩:∃ q,bI t.ic=q:=⟨_,rfl⟩
 simp only [Th.l0,hq,hg,hi] at *
 obtain ⟨v1,v2,v3,_,_,_,_,_,_,v4,_⟩:=u
 rw [opB_iff]
 simp only [fm_cons,fm_nil,and_true]
 constructor
 ·rintro ⟨⟨h1,h2,h3,h4,h5,h6,h7⟩,h⟩
  simp only [List.map_cons,List.map_nil,fd_eq ⟨h1,v1⟩,fd_eq ⟨h2,v2⟩,fd_eq ⟨h3,v3⟩,fd_eq ⟨h4,s1⟩,fd_eq ⟨h5,s2⟩,fd_eq ⟨h6,s3⟩,fd_eq ⟨h7,v4⟩,packB_cons,packB_nil,Int.reduceAdd,Int.reduceSub,Int.reduceLE,Int.reduceToNat,Nat.reducePow,and_true,true_and] at h
  omega
 ·rintro ⟨h1,h2,h3,h7⟩
  refine ⟨⟨h1.1,h2.1,h3.1,b1.1,b2.1,b3.1,h7.1⟩, ?_⟩
  simp only [List.map_cons,List.map_nil,fd_eq ⟨h1.1,v1⟩,fd_eq ⟨h2.1,v2⟩,fd_eq ⟨h3.1,v3⟩,fd_eq ⟨b1.1,s1⟩,fd_eq ⟨b2.1,s2⟩,fd_eq ⟨b3.1,s3⟩,fd_eq ⟨h7.1,v4⟩,packB_cons,packB_nil,Int.reduceAdd,Int.reduceSub,Int.reduceLE,Int.reduceToNat,Nat.reducePow,and_true,true_and]
  omega
theorem l0_V (h:opB t.l0=true):opV t.l0=t.h0:=by
 rw [opV,if_pos h]
 have h:=(l0_B u).1 h
 have b1:=bI_u t.qd
 have b2:=bI_u t.cg
 have b3:=bI_u t.ic
 have s1:=bI_s t.qd
 have s2:=bI_s t.cg
 have s3:=bI_s t.ic
 simp only [Th.l0,Th.h0]
 obtain ⟨v1,v2,v3,_,_,_,_,_,_,v4,_⟩:=u
 obtain ⟨h1,h2,h3,h7⟩:=h
 simp only [List.map_cons,List.map_nil,fd_eq ⟨h1.1,v1⟩,fd_eq ⟨h2.1,v2⟩,fd_eq ⟨h3.1,v3⟩,fd_eq ⟨b1.1,s1⟩,fd_eq ⟨b2.1,s2⟩,fd_eq ⟨b3.1,s3⟩,fd_eq ⟨h7.1,v4⟩,packV,Int.reduceAdd,Int.reduceToNat,Nat.reducePow]
 omega
theorem l1_B:opB t.l1=true↔(0<=t.pv/\t.pv<65536)/\(0<=t.nx/\t.nx<65536)/\(0<=t.bl/\t.bl<65536)/\(0<=t.bo/\t.bo<65536):=by
 obtain ⟨_,_,_,v1,v2,v3,_,v4,_⟩:=u
 rw [opB_iff]
 simp only [Th.l1,fm_cons,fm_nil,and_true]
 constructor
 ·rintro ⟨⟨h1,h2,h3,h4⟩,h⟩
  simp only [List.map_cons,List.map_nil,fd_eq ⟨h1,v1⟩,fd_eq ⟨h2,v2⟩,fd_eq ⟨h3,v3⟩,fd_eq ⟨h4,v4⟩,packB_cons,packB_nil,Int.reduceAdd,Int.reduceSub,Int.reduceLE,Int.reduceToNat,Nat.reducePow,and_true,true_and] at h
  omega
 ·rintro ⟨h1,h2,h3,h4⟩
  refine ⟨⟨h1.1,h2.1,h3.1,h4.1⟩, ?_⟩
  simp only [List.map_cons,List.map_nil,fd_eq ⟨h1.1,v1⟩,fd_eq ⟨h2.1,v2⟩,fd_eq ⟨h3.1,v3⟩,fd_eq ⟨h4.1,v4⟩,packB_cons,packB_nil,Int.reduceAdd,Int.reduceSub,Int.reduceLE,Int.reduceToNat,Nat.reducePow,and_true,true_and]
  omega
theorem l1_V (h:opB t.l1=true):opV t.l1=t.h1:=by
 rw [opV,if_pos h]
 have h:=(l1_B u).1 h
 simp only [Th.l1,Th.h1]
 obtain ⟨_,_,_,v1,v2,v3,_,v4,_⟩:=u
 obtain ⟨h1,h2,h3,h4⟩:=h
 simp only [List.map_cons,List.map_nil,fd_eq ⟨h1.1,v1⟩,fd_eq ⟨h2.1,v2⟩,fd_eq ⟨h3.1,v3⟩,fd_eq ⟨h4.1,v4⟩,packV,Int.reduceAdd,Int.reduceToNat,Nat.reducePow]
 omega
theorem l2_B:opB t.l2=true↔(0<=t.bg/\t.bg<268435456):=by
 obtain ⟨_,_,_,_,_,_,v1,_⟩:=u
 rw [opB_iff]
 simp only [Th.l2,fm_cons,fm_nil,and_true]
 constructor
 ·rintro ⟨h1,h⟩
  simp only [List.map_cons,List.map_nil,fd_eq ⟨h1,v1⟩,packB_cons,packB_nil,Int.reduceAdd,Int.reduceSub,Int.reduceLE,Int.reduceToNat,Nat.reducePow,and_true,true_and] at h
  omega
 ·rintro h1
  refine ⟨h1.1, ?_⟩
  simp only [List.map_cons,List.map_nil,fd_eq ⟨h1.1,v1⟩,packB_cons,packB_nil,Int.reduceAdd,Int.reduceSub,Int.reduceLE,Int.reduceToNat,Nat.reducePow,and_true,true_and]
  omega
theorem l2_V (h:opB t.l2=true):opV t.l2=t.bg:=by
 rw [opV,if_pos h]
 have h1:=(l2_B u).1 h
 simp only [Th.l2]
 obtain ⟨_,_,_,_,_,_,v1,_⟩:=u
 simp only [List.map_cons,List.map_nil,fd_eq ⟨h1.1,v1⟩,packV,Int.reduceAdd,Int.reduceToNat,Nat.reducePow]
 omega
theorem l3_B:opB t.l3=true↔(0<=t.ha/\t.ha<4294967296)/\(0<=t.fa/\t.fa<4294967296):=by
 obtain ⟨_,_,_,_,_,_,_,_,v1,_,v2⟩:=u
 rw [opB_iff]
 simp only [Th.l3,fm_cons,fm_nil,and_true]
 constructor
 ·rintro ⟨⟨h1,h2⟩,h⟩
  simp only [List.map_cons,List.map_nil,fd_eq ⟨h1,v1⟩,fd_eq ⟨h2,v2⟩,packB_cons,packB_nil,Int.reduceAdd,Int.reduceSub,Int.reduceLE,Int.reduceToNat,Nat.reducePow,and_true,true_and] at h
  omega
 ·rintro ⟨h1,h2⟩
  refine ⟨⟨h1.1,h2.1⟩, ?_⟩
  simp only [List.map_cons,List.map_nil,fd_eq ⟨h1.1,v1⟩,fd_eq ⟨h2.1,v2⟩,packB_cons,packB_nil,Int.reduceAdd,Int.reduceSub,Int.reduceLE,Int.reduceToNat,Nat.reducePow,and_true,true_and]
  omega
theorem l3_V (h:opB t.l3=true):opV t.l3=t.h3:=by
 rw [opV,if_pos h]
 have h:=(l3_B u).1 h
 simp only [Th.l3,Th.h3]
 obtain ⟨_,_,_,_,_,_,_,_,v1,_,v2⟩:=u
 obtain ⟨h1,h2⟩:=h
 simp only [List.map_cons,List.map_nil,fd_eq ⟨h1.1,v1⟩,fd_eq ⟨h2.1,v2⟩,packV,Int.reduceAdd,Int.reduceToNat,Nat.reducePow]
 omega
theorem th_pk:(opB t.l0&&(opB t.l1&&(opB t.l2&&(opB t.l3&&(decide (t.st<=5)&&decide (t.sl<=5))))))=t.B:=by
 rw [Bool.eq_iff_iff,Th.B_iff]
 simp only [Bool.and_eq_true,decide_eq_true_eq,l0_B u,l1_B u,l2_B u,l3_B u]
 constructor
 ·rintro ⟨⟨h1,h2,h3,h4⟩,⟨g1,g2,g3,g4⟩,k1,⟨j1,j2⟩,i1,i2⟩
  refine ⟨⟨?_, ?_⟩,⟨?_, ?_⟩,⟨?_, ?_⟩,⟨?_, ?_⟩,⟨?_, ?_⟩,⟨?_, ?_⟩,⟨?_, ?_⟩,⟨?_, ?_⟩,⟨?_, ?_⟩,⟨?_, ?_⟩,⟨?_, ?_⟩⟩<;>omega
 ·rintro ⟨g1,g2,g3,g4,h1,h2,h3,h4,k1,j1,j2⟩
  refine ⟨⟨⟨?_, ?_⟩,⟨?_, ?_⟩,⟨?_, ?_⟩, ?_, ?_⟩,⟨⟨?_, ?_⟩,⟨?_, ?_⟩,⟨?_, ?_⟩, ?_, ?_⟩,⟨?_, ?_⟩,⟨⟨?_, ?_⟩, ?_, ?_⟩, ?_, ?_⟩<;>omega
theorem th_hd (hB:t.B=true):opV t.l0=t.h0/\opV t.l1=t.h1/\opV t.l2=t.bg/\opV t.l3=t.h3:=by
 have:=th_pk u
 rw [hB] at this
 simp only [Bool.and_eq_true] at this
 exact ⟨l0_V u this.1,l1_V u this.2.1,l2_V u this.2.2.1,l3_V u this.2.2.2.1⟩
end
/-! ### fields of a thread's words -/

def thCG (args:List V) (h:List Blk):Res:=thF (fun t=>.ob t.up (.ok (.tup [.agg [.i .u64 (opV t.l0), .i .u64 (opV t.l1), .i .u64 (opV t.l2), .i .u64 (opV t.l3)], .s (.b t.B)]) [] h)) args
noncomputable def ToH:Tab:=addT 199 flagG (addT 198 opackG (noT))
theorem ToH_snd:ToH.Snd Tryz.prog:=addT_snd ok199 flag_snd (addT_snd ok198 opack_snd ((noT_snd _)))
theorem thC_snd:Snd Tryz.prog 184 (FSpec.of thCG):=snd_run ToH_snd mixed Tryz.func184 dc184 300 fun args h K hc hS=>by
 obtain ⟨t,rfl,hrl,hup,hR⟩:=thF_spec hS
 clear hS
 have hpk:=th_pk hup
 simp only [spec_ok,<-hpk] at hR
 simp only [Th.c]
 have k1:=wc_known t.rg
 have k2:(wc t.rg).all S.noL=true:=wc_all (fun _=>rfl) _
 have k3:(wc t.rg).length=16:=by rw [wc_len,hrl]
 obtain ⟨q,hq⟩:∃ q,fI t.qd=q:=⟨_,rfl⟩
 obtain ⟨g,hg⟩:∃ q,fI t.cg=q:=⟨_,rfl⟩
 obtain ⟨i,hi⟩:∃ q,fI t.ic=q:=⟨_,rfl⟩
 have e0:t.l0=[⟨3,t.st⟩,⟨8,t.pr⟩,⟨3,t.sl⟩,⟨1,q⟩,⟨1,g⟩,⟨1,i⟩,⟨2,t.fk⟩]:=by rw [<-hq,<-hg,<-hi]; rfl
 have e1:t.l1=[⟨16,t.pv⟩,⟨16,t.nx⟩,⟨16,t.bl⟩,⟨16,t.bo⟩]:=rfl
 have e2:t.l2=[⟨28,t.bg⟩]:=rfl
 have e3:t.l3=[⟨32,t.ha⟩,⟨32,t.fa⟩]:=rfl

 have a0:∀ (hh:List Blk) (r0 r1 r2 r3:Blk) (room:Nat),arrOf Fi.c (hh++[r0,r1,r2,r3,⟨.rw,[.i .i64 3, .i .i64 t.st, .i .i64 8, .i .i64 t.pr, .i .i64 3, .i .i64 t.sl, .i .i64 1, .i .i64 q, .i .i64 1, .i .i64 g, .i .i64 1, .i .i64 i, .i .i64 2, .i .i64 t.fk],room⟩]) (.sl (.g (hh.length+4)) 0 7 7)=some [⟨3,t.st⟩,⟨8,t.pr⟩,⟨3,t.sl⟩,⟨1,q⟩,⟨1,g⟩,⟨1,i⟩,⟨2,t.fk⟩]:=fun hh r0 r1 r2 r3 room=>fi_lent (L:=[⟨3,t.st⟩,⟨8,t.pr⟩,⟨3,t.sl⟩,⟨1,q⟩,⟨1,g⟩,⟨1,i⟩,⟨2,t.fk⟩]) rfl rfl (by simp only [List.length_cons]; omega)
 have a1:∀ (hh:List Blk) (r0 r1 r2 r3 r4:Blk) (room:Nat),arrOf Fi.c (hh++[r0,r1,r2,r3,r4,⟨.rw,[.i .i64 16, .i .i64 t.pv, .i .i64 16, .i .i64 t.nx, .i .i64 16, .i .i64 t.bl, .i .i64 16, .i .i64 t.bo],room⟩]) (.sl (.g (hh.length+5)) 0 4 4)=some [⟨16,t.pv⟩,⟨16,t.nx⟩,⟨16,t.bl⟩,⟨16,t.bo⟩]:=fun hh r0 r1 r2 r3 r4 room=>fi_lent (L:=[⟨16,t.pv⟩,⟨16,t.nx⟩,⟨16,t.bl⟩,⟨16,t.bo⟩]) rfl rfl (by simp only [List.length_cons]; omega)
 have a2:∀ (hh:List Blk) (r0 r1 r2 r3 r4 r5:Blk) (room:Nat),arrOf Fi.c (hh++[r0,r1,r2,r3,r4,r5,⟨.rw,[.i .i64 28, .i .i64 t.bg],room⟩]) (.sl (.g (hh.length+6)) 0 1 1)=some [⟨28,t.bg⟩]:=fun hh r0 r1 r2 r3 r4 r5 room=>fi_lent (L:=[⟨28,t.bg⟩]) rfl rfl (by simp only [List.length_cons]; omega)
 have a3:∀ (hh:List Blk) (r0 r1 r2 r3 r4 r5 r6:Blk) (room:Nat),arrOf Fi.c (hh++[r0,r1,r2,r3,r4,r5,r6,⟨.rw,[.i .i64 32, .i .i64 t.ha, .i .i64 32, .i .i64 t.fa],room⟩]) (.sl (.g (hh.length+7)) 0 2 2)=some [⟨32,t.ha⟩,⟨32,t.fa⟩]:=fun hh r0 r1 r2 r3 r4 r5 r6 room=>fi_lent (L:=[⟨32,t.ha⟩,⟨32,t.fa⟩]) rfl rfl (by simp only [List.length_cons]; omega)
 obtain ⟨o0,p0⟩:∃ v,opB t.l0=v:=⟨_,rfl⟩
 obtain ⟨v0,s0⟩:∃ v,opV t.l0=v:=⟨_,rfl⟩
 obtain ⟨o1,p1⟩:∃ v,opB t.l1=v:=⟨_,rfl⟩
 obtain ⟨v1,s1⟩:∃ v,opV t.l1=v:=⟨_,rfl⟩
 obtain ⟨o2,p2⟩:∃ v,opB t.l2=v:=⟨_,rfl⟩
 obtain ⟨v2,s2⟩:∃ v,opV t.l2=v:=⟨_,rfl⟩
 obtain ⟨o3,p3⟩:∃ v,opB t.l3=v:=⟨_,rfl⟩
 obtain ⟨v3,s3⟩:∃ v,opV t.l3=v:=⟨_,rfl⟩
 rw [p0,p1,p2,p3,s0,s1,s2,s3] at hR
 rw [e0] at p0 s0
 rw [e1] at p1 s1
 rw [e2] at p2 s2
 rw [e3] at p3 s3
 clear hpk
 simp (maxSteps:=999999) only [go_sem,simprocAttr,↓qT,↓qF,df184,ToH,flagG,opackG,hq,hg,hi,k1,k2,k3,wc_take hrl,R.lend,R.unlend,S_ren,C.ren,V.ren,app_taken,app_dropn,app_take0,app_drop0,List.take_succ_cons,List.take_zero,List.drop_succ_cons,List.drop_zero,Nat.not_lt_zero,Nat.lt_irrefl,Nat.add_sub_cancel_left,Nat.not_lt,Nat.le_add_right,nnn,nl0,app_len,a0,a1,a2,a3,p0,p1,p2,p3,s0,s1,s2,s3,hc,Blk.ren,List.map_cons,List.map_nil,Bool.and_assoc,put,fillP,sub,EVt]
 refine ⟨?_, ?_⟩
 ·rintro ⟨rfl,rfl,rfl,rfl⟩
  refine ⟨fun c1 c _=>?_,fun c1 c _=>?_⟩
  ·simpa only [Bool.true_and,c1,decide_true] using hR
  ·simpa only [Bool.true_and,c1,decide_false,Bool.false_and] using hR
 ·intro c1 c _
  have:(o0&&(o1&&(o2&&(o3&&(decide (t.st<=5)&&decide (t.sl<=5))))))=false:=by
   rw [Bool.eq_false_iff]
   intro e
   simp only [Bool.and_eq_true] at e
   exact c1 ⟨e.1,e.2.1,e.2.2.1,e.2.2.2.1⟩
  rwa [this] at hR
/-! ### Thread -/
noncomputable def ToT:Tab:=addT 183 otG (addT 86 readG (addT 141 writeG (addT 184 thCG (noT))))
theorem ToT_snd:ToT.Snd Tryz.prog:=addT_snd ok183 ot_snd (addT_snd ok86 mread_snd (addT_snd ok141 mwrite_snd (addT_snd ok184 thC_snd ((noT_snd _)))))

theorem tset_snd':Snd Tryz.prog 137 (FSpec.of tsetG):=snd_run ToT_snd mixed Tryz.func137 dc137 300 fun args h K hc hS=>by
 obtain ⟨a,b,m,rest,rfl,H,hS1⟩:=memF_spec hS
 clear hS
 have hS:=hS1
 clear hS1
 unfold tsetM at hS
 split at hS
 ·rename_i x y
  obtain ⟨t,e,hrl,⟨hup,hru⟩,hR⟩:=thF_spec hS
  clear hS
  simp only [List.cons.injEq,and_true] at e
  subst e
  simp only [spec_ok,M.thE,M.thX] at hR
  have n4:(0:Int)<64/\(64:Int)<=64:=by decide
  have k1:=wc_known t.rg
  have k2:(wc t.rg).all S.noL=true:=wc_all (fun _=>rfl) _
  have k3:(wc t.rg).length=16:=by rw [wc_len,hrl]
  simp only [Th.c]
  cases ht:otB m x 64 with
  | false =>
   simp only [ht,Bool.false_and,Bool.false_eq_true,if_false,setM_self H] at hR
   simp (maxSteps:=999999) only [go_sem,simprocAttr,↓qT,↓qF,df137,ToT,otG,memF_eq H,otM,n4,setM_self H,ht,k1,k2]
   exact hR
  | true =>
   have hb:=otB_iff.1 ht
   have hl:=m.l
   cases hB:t.B with
   | false =>
    simp only [ht,hB,Bool.true_and,Bool.false_eq_true,if_true,if_false,setM_self H] at hR
    simp (maxSteps:=999999) only [go_sem,simprocAttr,↓qT,↓qF,df137,ToT,otG,memF_eq H,otM,n4,setM_self H,ht,k1,k2,k3,thCG,thF,unwc_wc,hrl,th_eta,hup,hB,wc_take hrl,put,fillP,sub,EVt]
    exact hR
   | true =>
    simp only [ht,hB,Bool.true_and,if_true] at hR
    obtain ⟨i,rfl⟩:∃ i:Nat,x=i:=⟨x.toNat,by omega⟩
    obtain ⟨o,ho⟩:∃ o,i+16=o:=⟨_,rfl⟩
    obtain ⟨o2,ho2⟩:∃ o,i+32=o:=⟨_,rfl⟩
    have e1:IntKind.i64.wrap ((i:Int)+16)=(o:Int):=by rw [wrap64 (by omega) (by omega)]; omega
    have e2:IntKind.i64.wrap ((i:Int)+32)=(o2:Int):=by rw [wrap64 (by omega) (by omega)]; omega
    rw [show ((i:Int)+16).toNat=o by omega,show ((i:Int)+32).toNat=o2 by omega] at hR
    obtain ⟨u0,u1,u2,u3⟩:=Th.h_u hB
    obtain ⟨g0,g1,g2,g3⟩:=th_hd hup hB
    obtain ⟨ws,hws⟩:∃ ws,[t.h0,t.h1,t.bg,t.h3]=ws:=⟨_,rfl⟩
    have hwl:ws.length=4:=by rw [<-hws]; rfl
    have hwu:∀ v,v∈ws->u64 v:=by
     rw [<-hws]
     intro v hv
     simp only [List.mem_cons,List.not_mem_nil,or_false] at hv
     rcases hv with rfl|rfl|rfl|rfl<;>assumption
    have hwc:[S.i .u64 t.h0,S.i .u64 t.h1,S.i .u64 t.bg,S.i .u64 t.h3]=wc ws:=by rw [<-hws]; rfl
    rw [hws] at hR
    simp (maxSteps:=999999) only [go_sem,simprocAttr,↓qT,↓qF,df137,ToT,otG,memF_eq H,otM,n4,setM_self H,ht,k1,k2,k3,thCG,thF,unwc_wc,hrl,th_eta,hup,hB,g0,g1,g2,g3,wc_take hrl,put,fillP,sub,EVt]
    refine loop_rule (α:=Nat) [9,10,25,26,27,28,29,30,31,32,33,34,35,36] (fun q=>[(24, .agg (wc ws)),(25, .s (.i .i64 q))]) (fun q=>[⟨.rw,t.c,30⟩,⟨.rw,wc ws,4⟩]) (fun q=>setM h a b (m.wrs o ws q)) (fun q=>q<=4) (fun q=>4-q) 0 (by omega) ?_ ?_
    ·rw [M.wrs,setM_self H,<-hwc]
     refine Wk.same rfl rfl ?_
     simp (maxSteps:=999999) only [go_sem,simprocAttr,↓qT,↓qF,Int.natCast_zero]
    ·rintro X q hq IH
     rcases Nat.lt_or_ge q 4 with h1|h1
     ·have d1:((q:Int)<4):=by omega
      have d3:(0:Int)<=q:=by omega
      have d4:IntKind.i64.wrap ((q:Int)+1)=((q+1:Nat):Int):=by rw [wrap64 (by omega) (by omega)]; omega
      have w1:IntKind.i64.wrap ((o:Int)+q)=((o+q:Nat):Int):=by rw [wrap64 (by omega) (by omega)]; omega
      have h0:m.has ((o+q:Nat):Int) 1=true:=M.has_of (by omega)
      have g:=wc_get (w:=ws) (i:=q) (by omega)
      have hu:u64 (nth 0 ws q):=by rw [nth_eq (by omega)]; exact hwu _ (List.getElem_mem _)
      have j1:(wc ws).length=4:=by rw [wc_len,hwl]
      refine run_sound (Tab.ok_Γ _) 100 _ _ _ _ ?_
      simp (maxSteps:=999999) only [go_sem,simprocAttr,↓qT,↓qF,ToT,e1,d1,d3,d4,w1,writeG,memF_set H,writeM,M.wrs_has,h0,h1,g,hu,j1,Int.toNat_natCast,wc_known]
      exact IH (q+1) _ (by omega) (by omega) (Wk.same rfl rfl (by simp only [go_sem,simprocAttr,↓qT,↓qF]))
     ·have:q=4:=by omega
      subst this
      clear IH
      simp only [Th.c]
      refine run_sound (Tab.ok_Γ _) 100 _ _ _ _ ?_
      simp (maxSteps:=999999) only [go_sem,simprocAttr,↓qT,↓qF,Int.lt_irrefl,k1,k2,k3,wc_take hrl,sub,EVt,List.drop_succ_cons]
      refine loop_rule (α:=Nat) [11,12,39,40,41,42,43,44,45,46,47,48,49,50] (fun q=>[(38, .agg (wc t.rg)),(39, .s (.i .i64 q))]) (fun q=>[⟨.rw,t.c,30⟩,⟨.rw,wc ws,4⟩]) (fun q=>setM h a b ((m.wrs o ws 4).wrs o2 t.rg q)) (fun q=>q<=16) (fun q=>16-q) 0 (by omega) ?_ ?_
      ·refine Wk.same rfl rfl ?_
       simp (maxSteps:=999999) only [go_sem,simprocAttr,↓qT,↓qF,Int.natCast_zero]
      ·rintro X q hq IH
       rcases Nat.lt_or_ge q 16 with h1|h1
       ·have d1:((q:Int)<16):=by omega
        have d3:(0:Int)<=q:=by omega
        have d4:IntKind.i64.wrap ((q:Int)+1)=((q+1:Nat):Int):=by rw [wrap64 (by omega) (by omega)]; omega
        have w1:IntKind.i64.wrap ((o2:Int)+q)=((o2+q:Nat):Int):=by rw [wrap64 (by omega) (by omega)]; omega
        have h0:m.has ((o2+q:Nat):Int) 1=true:=M.has_of (by omega)
        have g:=wc_get (w:=t.rg) (i:=q) (by omega)
        have hu:u64 (nth 0 t.rg q):=by rw [nth_eq (by omega)]; exact hru _ (List.getElem_mem _)
        refine run_sound (Tab.ok_Γ _) 100 _ _ _ _ ?_
        simp (maxSteps:=999999) only [go_sem,simprocAttr,↓qT,↓qF,ToT,e2,d1,d3,d4,w1,writeG,memF_set H,writeM,M.wrs_has,h0,h1,g,hu,k1,k3,Int.toNat_natCast]
        exact IH (q+1) _ (by omega) (by omega) (Wk.same rfl rfl (by simp only [go_sem,simprocAttr,↓qT,↓qF]))
       ·have:q=16:=by omega
        subst this
        clear IH
        refine run_sound (Tab.ok_Γ _) 100 _ _ _ _ ?_
        simp (maxSteps:=999999) only [go_sem,simprocAttr,↓qT,↓qF,Int.lt_irrefl]
        exact hR
 ·exact hS.elim
end Go.Proofs.YtcdfofeolgbnbaaGreat

/- Package untyped: a thread laid; Reset of both without branches. -/
namespace Go.Proofs.YtcdfofeolgbnbaaGreat
open Go.D
set_option linter.all false
set_option maxRecDepth 100000
set_option maxHeartbeats 1000000

noncomputable def TUt:Tab:=addT 137 tsetG (noT)
theorem TUt_snd:TUt.Snd Tryz.prog:=addT_snd ok137 tset_snd' ((noT_snd _))
theorem pt_snd:Snd Tryz.prog 72 (FSpec.of st9G):=snd_run TUt_snd mixed Tryz.func72 dc72 200 fun args h K hc hS=>by
 obtain ⟨a,b,m,rest,rfl,H,hS1⟩:=memF_spec hS
 clear hS
 have hS:=hS1
 clear hS1
 unfold st9M at hS
 split at hS
 ·rename_i a' x
  obtain ⟨t,e,hl,hS2⟩:=thF_spec hS
  simp only [List.cons.injEq,and_true] at e
  subst e
  clear hS
  obtain ⟨hu,hS⟩:=hS2
  simp only [spec_ok] at hS
  have hcl:t.c.length=30:=by simp [Th.c,wc_len,hl]
  have hk:known t.c=true:=by simp only [Th.c,known_cons,known_nil,wc_known,Bool.and_true,S_known,V.known]
  have hnl:t.c.all S.noL=true:=by simp [Th.c,S.noL]; exact fun x hx=>by obtain ⟨y,_,rfl⟩:=List.mem_map.1 hx; rfl
  have hsub:sub t.c 0 30=t.c:=by rw [<-hcl]; simp [sub]
  have hF:∀ f:Th->Res,thF f [.agg t.c]=.ob (t.rg.length=16) (f t):=fun f=>by simp only [thF,Th.c,unwc_wc,th_eta]
  simp (maxSteps:=999999) only [go_sem,simprocAttr,↓qT,↓qF,df72,TUt,tsetG,memF_eq H,tsetM,hF,hl,hcl,hk,hnl,hsub,hu,put,fillP,EVt]
  exact ⟨hu.2,hS⟩
 ·exact hS.elim
def thT:Th:=⟨0,0,5,false,0,0,0,0,false,false,0,0,0,0,List.replicate 16 0⟩
theorem thT_F (f:Th->Res):thF f [.agg [.i .i64 0, .i .i64 0, .i .i64 5, .b false, .i .i64 0, .i .i64 0, .i .i64 0, .i .i64 0, .b false, .b false, .i .i64 0, .i .i64 0, .i .i64 0, .i .i64 0, .i .u64 0, .i .u64 0, .i .u64 0, .i .u64 0, .i .u64 0, .i .u64 0, .i .u64 0, .i .u64 0, .i .u64 0, .i .u64 0, .i .u64 0, .i .u64 0, .i .u64 0, .i .u64 0, .i .u64 0, .i .u64 0]]=.ob (16=16) (f thT):=rfl
theorem thT_up:thT.up/\∀ v,v∈thT.rg->u64 v:=by
 refine ⟨by unfold Th.up thT sml; decide,fun v hv=>?_⟩
 have:v=0:=by simpa [thT] using hv
 subst this
 exact u64_0

def rstV (m:M) (x:Int) (u:Option Int):M×Option Int×Int :=
 if (m.gV x).cap.ty=1 then (if (m.gX x).nxV x=0 then rsW x (m.gV x).cap.mark.toNat ((m.gX x).nxX x) (m.gV x).cap u else ((m.gX x).nxX x,u,152)) else (m.gX x,u,60)
theorem rstR_spec {m:M} {x:Int} {u:Option Int} {st:M->Option Int->List Blk} {K:V->List Blk->Prop} (h:K (.s (.i .i64 (rstV m x u).2.2)) (st (rstV m x u).1 (rstV m x u).2.1)):(rstR m x u st).spec K:=by
 unfold rstV at h
 simp only [rstR,spec_br,spec_ok,decide_eq_true_eq,decide_eq_false_iff_not]
 refine ⟨fun h1=>⟨fun h2=>?_,fun h2=>?_⟩,fun h1=>?_⟩
 ·simp only [h1,h2,if_true] at h
  exact h
 ·simp only [h1,h2,if_true,if_false] at h
  exact h
 ·simp only [h1,if_false] at h
  exact h
def rstM2 (b:Nat) (m:M) (st:M->List Blk):List V->Res
 | [.s (.i .i64 x), .s .np]=>.ok (.s (.i .i64 (rstV m x none).2.2)) [] (st (rstV m x none).1)
 | [.s (.i .i64 x), .s (.p (.g d) 0)]=>match (st m)[d]? with
  | some ⟨.rw,[.i .i64 u],1⟩=>.ob (i64 u) (.ok (.s (.i .i64 (rstV m x (some u)).2.2)) [] ((st (rstV m x (some u)).1).set d (uB ((rstV m x (some u)).2.1.getD 0))))
  | _=>.bad
 | _=>.bad
noncomputable def rstG2:=memF rstM2
theorem rst_snd2:Snd Tryz.prog 27 (FSpec.of rstG2):=rst_snd.weaken fun args h K hc hS=>by
 obtain ⟨a,b,m,rest,rfl,H,hS⟩:=memF_spec (f:=rstM2) hS
 show Res.spec K (rstG _ _)
 unfold rstG
 rw [memF_eq H]
 unfold rstM2 at hS
 unfold rstM
 split at hS
 ·simp only
  exact rstR_spec hS
 ·simp only
  split at hS
  ·rename_i hd
   rw [hd]
   simp only [spec_ob] at hS ⊢
   exact ⟨hS.1,rstR_spec hS.2⟩
  ·exact hS.elim
 ·exact hS.elim
def rrstM2 (b:Nat) (m:M) (st:M->List Blk):List V->Res
 | [.s (.i .i64 x), .s (.p (.g d) 0)]=>match (st m)[d]? with
  | some ⟨.rw,[.i .i64 u],1⟩=>.ob (i64 u/\0<=u) (.ok (.s (.i .i64 (rstV m x (some u)).2.2)) [] ((st (rstV m x (some u)).1).set d (uB ((rstV m x (some u)).2.1.getD 0))))
  | _=>.bad
 | _=>.bad
noncomputable def rrstG2:=memF rrstM2
theorem rrst_snd2:Snd Tryz.prog 84 (FSpec.of rrstG2):=rrst_snd.weaken fun args h K hc hS=>by
 obtain ⟨a,b,m,rest,rfl,H,hS⟩:=memF_spec (f:=rrstM2) hS
 show Res.spec K (rrstG _ _)
 unfold rrstG
 rw [memF_eq H]
 unfold rrstM2 at hS
 unfold rrstM
 split at hS
 ·simp only
  split at hS
  ·rename_i hd
   rw [hd]
   simp only [spec_ob] at hS ⊢
   exact ⟨hS.1,rstR_spec hS.2⟩
  ·exact hS.elim
 ·exact hS.elim

def rtK (k:Int) (m:M) (a:Int):M:=if k=3 then m.thX a thT else m
def rtF (k b:Int):Nat->Int->Int->Bool
 | 0,_,_=>true
 | r+1,a,t=>fitB (frC k b a) t&&rtF k b r (a+hszV k b) (t+4)
def rtL (f:M->Int->Int->Cap->M) (k b x:Int):Nat->M->Int->Int->M
 | 0,m,_,_=>m
 | r+1,m,a,t=>rtL f k b x r (f (rtK k m a) x t (frC k b a)) (a+hszV k b) (t+4)
def Cap.mk' (c:Cap) (z:Int):Cap:=⟨c.ty,c.obj,c.bits,z,c.guard,c.gbits,c.badge,c.rights,c.asid,c.vaddr,c.line⟩
def rtM (f:M->Int->Int->Cap->M) (m:M) (x k b:Int) (nd:Cap) (i n:Int) (c:Cap):M×Int :=
 if (roV c k b n).2=0 then
  (if rtF k b n.toNat (roV c k b n).1 (nd.obj+4*i)=true then (rtL f k b x n.toNat (m.scX x (c.mk' ((roV c k b n).1+n*hszV k b-c.obj))) (roV c k b n).1 (nd.obj+4*i),0) else (m,122))
 else (m,(roV c k b n).2)
def rtV (f:M->Int->Int->Cap->M) (m:M) (x k b:Int) (nd:Cap) (i n:Int) (u:Option Int):M×Option Int×Int :=
 let c:=(m.gV x).cap
 let q:=askV (m.gX x) c k b nd i n
 if q.1=0 then
  (if q.2.nxV x=0 then
   let s:=rstV (q.2.nxX x) x u
   if s.2.2=0 then ((rtM f (s.1.gX x) x k b nd i n (s.1.gV x).cap).1,s.2.1,(rtM f (s.1.gX x) x k b nd i n (s.1.gV x).cap).2) else s
  else ((rtM f (q.2.nxX x) x k b nd i n c).1,u,(rtM f (q.2.nxX x) x k b nd i n c).2))
 else (q.2,u,q.1)
theorem ask_ok {m:M} {c:Cap} {k b:Int} {nd:Cap} {i n:Int} (h:(askV m c k b nd i n).1=0):c.ty=1/\knE k b n=0/\nd.ty=2/\0<=i/\i<slotsN nd/\n<=slotsN nd-i:=by
 unfold askV at h
 split at h
 ·rename_i h1
  split at h
  ·rename_i h2
   split at h
   ·rename_i h3
    exact ⟨h1,h2,h3⟩
   ·cases h
  ·rename_i h2
   exact absurd h h2
 ·cases h
theorem ro_ok {c:Cap} {k b n:Int} (h:(roV c k b n).2=0):utB c/\knE k b n=0/\(roV c k b n).1=upV (c.obj+c.mark) (hszV k b)/\upV (c.obj+c.mark) (hszV k b)+n*hszV k b<=c.obj+2^c.bits.toNat:=by
 unfold roV at h ⊢
 split at h
 ·rename_i h1
  split at h
  ·rename_i h2
   split at h
   ·cases h
   ·rename_i h3
    simp only [h1,h2,h3,if_true,if_false]
    exact ⟨trivial,trivial,trivial,by omega⟩
  ·rename_i h2
   exact absurd h h2
 ·cases h
end Go.Proofs.YtcdfofeolgbnbaaGreat

