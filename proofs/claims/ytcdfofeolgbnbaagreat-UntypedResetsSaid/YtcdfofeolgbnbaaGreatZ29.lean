/- Law 15: both as the plan has it; are they alike; a piece,a CNode. -/
import Derived.Test.YtcdfofeolgbnbaaGreatZ28
import Derived.Test.YtcdfofeolgbnbaaGreatZ22
import Derived.Test.YtcdfofeolgbnbaaGreatZ11
/- Law 15: Retype,of memories in order; by both. -/
namespace Go.Proofs.YtcdfofeolgbnbaaGreat
open Go.D
set_option linter.all false
set_option maxRecDepth 100000
set_option maxHeartbeats 4000000

structure NdOk (nd:Cap):Prop where
 r:rightB nd=true
 p:nd.ty=2->∀ j,0<=j->j<slotsN nd->P15 (nd.obj+4*j)
theorem askS_w:∀ (k:Nat) (m:M) (a:Int),(askS k m a).2.w=m.w
 | 0,m,a=>rfl
 | k+1,m,a=>by
  simp only [askS]
  split
  ·rw [askS_w k,gX_w]
  ·exact gX_w _ _
theorem askS_wc:∀ (k:Nat) {m r:M} (a:Int),r.w=m.w->(askS k r a).1=(askS k m a).1
 | 0,m,r,a,hw=>rfl
 | k+1,m,r,a,hw=>by
  simp only [askS,gV_w hw]
  split
  ·exact askS_wc k _ (by rw [gX_w,gX_w]; exact hw)
  ·rfl
theorem askS_0:∀ (k:Nat) {m:M} (a:Int),(askS k m a).1=0->∀ j:Nat,j<k->(m.gV (a+4*j)).cap.ty=0
 | 0,m,a,h,j,hj=>absurd hj (by omega)
 | k+1,m,a,h,j,hj=>by
  simp only [askS] at h
  split at h
  ·rename_i h0
   cases j with
   | zero=>rw [Int.natCast_zero,Int.mul_zero,Int.add_zero]; exact h0
   | succ j =>
    have:=askS_0 k (a+4) h j (by omega)
    rw [gV_w (gX_w _ _)] at this
    rw [show a+4*((j+1:Nat):Int)=a+4+4*(j:Int) by omega]
    exact this
  ·cases h
theorem askV_w (m:M) (c:Cap) (k b:Int) (nd:Cap) (i n:Int):(askV m c k b nd i n).2.w=m.w:=by
 unfold askV
 split
 ·split
  ·split
   ·exact askS_w _ _ _
   ·rfl
  ·rfl
 ·rfl
theorem askV_wc {m r:M} (hw:r.w=m.w) (c:Cap) (k b:Int) (nd:Cap) (i n:Int):(askV r c k b nd i n).1=(askV m c k b nd i n).1:=by
 unfold askV
 split
 ·split
  ·split
   ·exact askS_wc _ _ hw
   ·rfl
  ·rfl
 ·rfl
theorem askV_0 {m:M} {c:Cap} {k b:Int} {nd:Cap} {i n:Int} (h:(askV m c k b nd i n).1=0):∀ j:Nat,j<n.toNat->(m.gV (nd.obj+4*i+4*j)).cap.ty=0:=by
 obtain ⟨h1,h2,h3⟩:=ask_ok h
 unfold askV at h
 rw [if_pos h1,if_pos h2,if_pos h3] at h
 exact askS_0 _ _ h

structure Got (m m':M) (L L':List Int) (x k b A T:Int) (n:Nat):Prop where
 ut:UT m' L'
 old:∀ y,y∈L->y∈L'
 new:∀ y,y∈L'->y∈L\/∃ j:Nat,j<n/\y=T+4*j
 cx:(m'.gV x).cap=(m.gV x).cap.mk' (A+n*hszV k b-(m.gV x).cap.obj)
 cold:∀ y,P15 y->y≠x->(∀ j:Nat,j<n->y≠T+4*j)->(m'.gV y).cap=(m.gV y).cap
 cnew:∀ j:Nat,j<n->(m'.gV (T+4*j)).cap=frC k b (A+j*hszV k b)
 D:∀ y,y∈L->m'.D y=m.D y
 Dn:∀ j:Nat,j<n->m'.D (T+4*j)=m.D x+1/\T+4*j∈under m'.D L' x
 und:∀ y w,y∈L->w∈L->(y∈under m'.D L' w↔y∈under m.D L w)
 undn:∀ j:Nat,j<n->under m'.D L' (T+4*j)=[]
 undx:∀ (j:Nat) (w:Int),j<n->w∈L->T+4*j∈under m'.D L' w->w=x\/x∈under m.D L w
 at_:∀ j,A<=j->j<A+n*hszV k b->m'.at j=if k=3/\(j-A)%64=16 then 10240 else 0
 hd:∀ j:Nat,n=j+1->(under m'.D L' x).headD 0=T+4*j
 fit:(m.gV x).cap.obj+(m.gV x).cap.mark<=A/\A+n*hszV k b<=(m.gV x).cap.obj+szN (m.gV x).cap
theorem hsz3 {k b:Int} (hk:knE k b 1=0) (c:k=3):hszV k b=64:=by
 subst c
 unfold hszV
 rw [if_neg (by omega),if_neg (by omega)]
 split
 ·rfl
 ·rename_i h
  unfold knE at hk
  rw [if_neg (by omega),if_neg (by omega),if_neg (by omega)] at hk
  split at hk
  ·rename_i hb; exact absurd ⟨by omega,by omega,hb⟩ h
  ·cases hk
theorem fits_all {k b:Int}:∀ (n:Nat) (A T:Int),3124<=A->T+4*n<=3120+4->0<=hszV k b->rtF k b n A T=true
 | 0,_,_,_,_,_=>rfl
 | n+1,A,T,hA,hT,hs=>by
  have h1:fitB (frC k b A) T=true:=by
   have e:(frC k b A).obj=A:=rfl
   unfold fitB
   rw [e]
   have:T<A:=by omega
   simp only [this,decide_true,ite_self]
  simp only [rtF,h1,Bool.true_and]
  exact fits_all n _ _ (by omega) (by omega) hs
section
variable {m r:M} {L:List Int}
theorem UT.rtM (U:UT m L) (hw:r.w=m.w) {x k b i n:Int} {nd:Cap} (hx:x∈L) (h1:(m.gV x).cap.ty=1) (N:NdOk nd) (ht:nd.ty=2) (i0:0<=i) (i2:n<=slotsN nd-i) (hk:knE k b n=0)
  (he:∀ j:Nat,j<n.toNat->nd.obj+4*i+4*j∉L) :
  (Go.Proofs.YtcdfofeolgbnbaaGreat.rtM M.rlayX r x k b nd i n (m.gV x).cap).1.w=(Go.Proofs.YtcdfofeolgbnbaaGreat.rtM M.layX m x k b nd i n (m.gV x).cap).1.w/\(Go.Proofs.YtcdfofeolgbnbaaGreat.rtM M.rlayX r x k b nd i n (m.gV x).cap).2=(Go.Proofs.YtcdfofeolgbnbaaGreat.rtM M.layX m x k b nd i n (m.gV x).cap).2 /\
  (((Go.Proofs.YtcdfofeolgbnbaaGreat.rtM M.layX m x k b nd i n (m.gV x).cap).2≠0/\(Go.Proofs.YtcdfofeolgbnbaaGreat.rtM M.layX m x k b nd i n (m.gV x).cap).1=m/\(Go.Proofs.YtcdfofeolgbnbaaGreat.rtM M.layX m x k b nd i n (m.gV x).cap).2=(roV (m.gV x).cap k b n).2) \/
   ((Go.Proofs.YtcdfofeolgbnbaaGreat.rtM M.layX m x k b nd i n (m.gV x).cap).2=0/\∃ L',Got m (Go.Proofs.YtcdfofeolgbnbaaGreat.rtM M.layX m x k b nd i n (m.gV x).cap).1 L L' x k b (upV ((m.gV x).cap.obj+(m.gV x).cap.mark) (hszV k b)) (nd.obj+4*i) n.toNat)):=by
 have hk1:=kn_1 hk
 obtain ⟨s1,s2,_,n1,n2,_,_⟩:=kn_sz hk
 obtain ⟨_,o1,o2,N1,N2,_⟩:=node_b N.r ht
 have hpc:=U.pc x hx h1
 have hpn:=U.pcn h1
 have hpm:=hpn.mark
 have hpl:=hpn.lo
 have hen:(n.toNat:Int)=n:=by omega
 unfold Go.Proofs.YtcdfofeolgbnbaaGreat.rtM
 by_cases hR:(roV (m.gV x).cap k b n).2=0
 rotate_left
 ·rw [if_neg hR,if_neg hR]
  exact ⟨hw,rfl, .inl ⟨hR,rfl,rfl⟩⟩
 obtain ⟨_,_,e,hf⟩:=ro_ok hR
 obtain ⟨a1,a2,a3⟩:=up_is (x:=(m.gV x).cap.obj+(m.gV x).cap.mark) s1
 rw [e]
 obtain ⟨A,hA⟩:∃ A,upV ((m.gV x).cap.obj+(m.gV x).cap.mark) (hszV k b)=A:=⟨_,rfl⟩
 rw [hA] at a1 a2 a3 hf ⊢
 rw [<-hpn.sz] at hf
 have hns:0<=n*hszV k b:=Int.mul_nonneg (by omega) (by omega)
 have hF:rtF k b n.toNat A (nd.obj+4*i)=true:=by
  have:=N.p ht (slotsN nd-1) (by omega) (by omega)
  have:=P15_lt this
  exact fits_all _ _ _ (by omega) (by omega) (by omega)
 rw [if_pos hR,if_pos hR,hF,if_pos rfl,if_pos rfl]
 obtain ⟨Z,hZ⟩:∃ Z,A+n*hszV k b-(m.gV x).cap.obj=Z:=⟨_,rfl⟩
 obtain ⟨U1,hV1,hat1⟩:=U.mark hx h1 (z:=Z) (by omega) (by omega) (.inl (by omega))
 have hw1:(r.scX x ((m.gV x).cap.mk' Z)).w=(m.scX x ((m.gV x).cap.mk' Z)).w:=scX_wc hw _ _
 rw [hZ]
 obtain ⟨m1,hm1⟩:∃ q,m.scX x ((m.gV x).cap.mk' Z)=q:=⟨_,rfl⟩
 rw [hm1] at U1 hV1 hat1 hw1 ⊢
 have x0:=U.ui.l0 hx
 have cx:(m1.gV x).cap=(m.gV x).cap.mk' Z:=by rw [hV1 x x0,if_pos rfl]
 have cy:∀ y,y≠0->y≠x->m1.gV y=m.gV y:=fun y hy hyx=>by rw [hV1 y hy,if_neg hyx]
 have eo:(m1.gV x).cap.obj=(m.gV x).cap.obj:=by rw [cx]; rfl
 have es:∀ y,y∈L->szN (m1.gV y).cap=szN (m.gV y).cap/\(m1.gV y).cap.obj=(m.gV y).cap.obj:=fun y hy=>by
  by_cases c:y=x
  ·rw [c,cx]; exact ⟨rfl,rfl⟩
  ·rw [cy y (U.ui.l0 hy) c]; exact ⟨rfl,rfl⟩
 have hD1:∀ y,y∈L->m1.D y=m.D y:=fun y hy=>by
  unfold M.D
  rw [hV1 y (U.ui.l0 hy)]
  split
  ·rename_i e; rw [e]
  ·rfl
 have hu1:∀ y,under m1.D L y=under m.D L y:=fun y=>under_congr hD1
 obtain ⟨g1,L',G⟩:=UT.rtL hk1 n.toNat (m:=m1) (r:=r.scX x ((m.gV x).cap.mk' Z)) (L:=L) (A:=A) (T:=nd.obj+4*i) U1 hw1 hx (by rw [cx]; exact h1)
  (fun j hj=>⟨by rw [show nd.obj+4*i+4*(j:Int)=nd.obj+4*(i+j) by omega]; exact N.p ht _ (by omega) (by omega),he j hj⟩)
  (by rw [eo]; omega) a3 (by rw [eo,cx,hen]; show _<=_+Z; omega)
  (fun y hy=>by
   rw [hu1] at hy
   obtain ⟨q1,q2⟩:=es y (under_sub hy).1
   rw [q1,q2]
   have:=U.bel x y hx h1 hy
   omega)
  (fun j j1 j2=>by
   rw [hen] at j2
   rw [hat1 j (by omega)]
   exact U.no x hx h1 j (by omega) (by omega))
 refine ⟨g1,rfl, .inr ⟨rfl,L',G.ut,G.old,G.new, ?_,fun y hP hyx hy=>?_,G.cnew,fun y hy=>?_,fun j hj=>?_,fun y w hy hw'=>?_,G.undn,fun j w hj hw' hy=>?_,fun j j1 j2=>?_,G.hd,a1,by rw [hen]; exact by omega⟩⟩
 ·have hP:=U.ui.sub x hx
  rw [G.cold x hP (fun j hj e=>he j hj (e ▸ hx)),cx,hen,hZ]
 ·rw [G.cold y hP hy,cy y (U.ui.n0 hP) hyx]
 ·rw [G.D y hy,hD1 y hy]
 ·obtain ⟨q1,q2⟩:=G.Dn j hj
  exact ⟨by rw [q1,hD1 x hx],q2⟩
 ·rw [G.und y w hy hw',hu1]
 ·have:=G.undx j w hj hw' hy
  rwa [hu1] at this
 ·rw [hen] at j2
  rw [G.at_ j (by omega),hat1 j (by omega),U.no x hx h1 j (by omega) (by omega),hen]
  by_cases c:k=3
  ·have:=hsz3 hk1 c
   rw [this] at j2
   by_cases c2:(j-A)%64=16
   ·rw [if_pos ⟨c,j1,j2,c2⟩,if_pos ⟨c,c2⟩]
   ·rw [if_neg fun h=>c2 h.2.2.2,if_neg fun h=>c2 h.2]
  ·rw [if_neg fun h=>c h.1,if_neg fun h=>c h.1]
theorem UT.rt (U:UT m L) (hw:r.w=m.w) {x k b i n:Int} {nd:Cap} (hP:P15 x) (N:NdOk nd) (u:Option Int) :
  (rtV M.rlayX r x k b nd i n u).1.w=(rtV M.layX m x k b nd i n u).1.w/\(rtV M.rlayX r x k b nd i n u).2=(rtV M.layX m x k b nd i n u).2 /\
  (((rtV M.layX m x k b nd i n u).2.2≠0/\((rtV M.layX m x k b nd i n u).1.w=m.w\/(x∈L/\(m.gV x).cap.ty=1/\under m.D L x=[]/\∃ z,Rst m (rtV M.layX m x k b nd i n u).1 L x z))) \/
   ((rtV M.layX m x k b nd i n u).2.2=0/\x∈L/\(m.gV x).cap.ty=1/\knE k b n=0/\nd.ty=2/\0<=i/\n<=slotsN nd-i/\(∀ j:Nat,j<n.toNat->nd.obj+4*i+4*j∉L) /\
    ∃ m0 z L',Rst m m0 L x z/\(under m.D L x=[]->z=0)/\(under m.D L x≠[]->z=(m.gV x).cap.mark)/\0<=z/\z<=(m.gV x).cap.mark /\
     Got m0 (rtV M.layX m x k b nd i n u).1 L L' x k b (upV ((m.gV x).cap.obj+z) (hszV k b)) (nd.obj+4*i) n.toNat)):=by
 have wg:(r.gX x).w=(m.gX x).w:=by rw [gX_w,gX_w]; exact hw
 unfold rtV
 simp only
 rw [gV_w hw,askV_wc wg]
 obtain ⟨q,hq⟩:∃ q,askV (m.gX x) (m.gV x).cap k b nd i n=q:=⟨_,rfl⟩
 obtain ⟨q',hq'⟩:∃ q,askV (r.gX x) (m.gV x).cap k b nd i n=q:=⟨_,rfl⟩
 have w1:q.2.w=m.w:=by rw [<-hq,askV_w,gX_w]
 have w2:q'.2.w=m.w:=by rw [<-hq',askV_w,gX_w]; exact hw
 rw [hq,hq']
 by_cases h0:q.1=0
 rotate_left
 ·rw [if_neg h0,if_neg h0]
  exact ⟨w2.trans w1.symm,rfl, .inl ⟨h0, .inl w1⟩⟩
 rw [if_pos h0,if_pos h0]
 rw [<-hq] at h0
 obtain ⟨h1,hk,ht,i0,_,i2⟩:=ask_ok h0
 have hem:=askV_0 h0
 obtain ⟨_,_,_,n1,n2,_,_⟩:=kn_sz hk
 have hx:x∈L:=Decidable.not_not.1 fun h=>by have:=(U.ui.em hP).2 h; omega
 have he:∀ j:Nat,j<n.toNat->nd.obj+4*i+4*j∉L:=fun j hj=>by
  have hPj:P15 (nd.obj+4*i+4*j):=by
   rw [show nd.obj+4*i+4*(j:Int)=nd.obj+4*(i+j) by omega]
   exact N.p ht _ (by omega) (by omega)
  rw [<-U.ui.em hPj]
  have:=hem j hj
  rwa [gV_w (gX_w _ _)] at this
 have e1:q.2.nxV x=m.nxV x:=nxV_w w1 x
 have e2:q'.2.nxV x=m.nxV x:=nxV_w w2 x
 rw [e1,e2]
 have hnx:=U.ui.nx hP
 by_cases hz:m.nxV x=0
 ·rw [if_pos hz,if_pos hz]
  have hu:under m.D L x=[]:=by
   rw [hnx] at hz
   cases hh:under m.D L x with
   | nil=>rfl
   | cons y Y =>
    rw [hh] at hz
    have:y∈L:=(under_sub (D:=m.D) (x:=x) (by rw [hh]; exact List.mem_cons_self)).1
    exact absurd hz (U.ui.l0 this)
  have w3:(q.2.nxX x).w=m.w:=by rw [nxX_w]; exact w1
  have w4:(q'.2.nxX x).w=(q.2.nxX x).w:=by rw [w3,nxX_w]; exact w2
  have U3:=U.of_w w3
  obtain ⟨c1,c2⟩:=rstV_wc w4 x u
  have R:=U3.rst hP u
  rw [c2]
  obtain ⟨s,hs⟩:∃ s,rstV (q.2.nxX x) x u=s:=⟨_,rfl⟩
  obtain ⟨s',hs'⟩:∃ s,rstV (q'.2.nxX x) x u=s:=⟨_,rfl⟩
  rw [hs] at R c1 c2 ⊢
  rw [hs'] at c1 c2 ⊢
  by_cases hs0:s.2.2=0
  rotate_left
  ·rw [if_neg hs0,if_neg hs0]
   refine ⟨c1,c2, .inl ⟨hs0, ?_⟩⟩
   rcases R with ⟨_,R⟩|⟨_,_,_,z,_,_,R,_⟩
   ·exact .inl (R.trans w3)
   ·refine .inr ⟨hx,h1,hu,z,R.ut,fun y hy=>?_,fun j hj=>?_⟩
    ·rw [R.V y hy,gV_w w3,gV_w w3]
    ·rw [R.at_ j hj,gV_w w3,at_w w3]
  ·rw [if_pos hs0,if_pos hs0]
   rcases R with ⟨R,_⟩|⟨_,_,_,z,z0,z1,R,hz0,_⟩
   ·exact absurd hs0 R
   ·have hz0:=hz0 hs0
    subst hz0
    have hVx:=R.V x hP
    rw [if_pos rfl,gV_w w3] at hVx
    have w5:(s.1.gX x).w=s.1.w:=gX_w _ _
    have w6:(s'.1.gX x).w=(s.1.gX x).w:=by rw [gX_w,gX_w]; exact c1
    have ev:s'.1.gV x=s.1.gV x:=gV_w c1 x
    rw [ev]
    have U5:UT (s.1.gX x) L:=R.ut.of_w w5
    have e5:(s.1.gX x).gV x=s.1.gV x:=gV_w w5 x
    obtain ⟨f1,f2,f3⟩:=U5.rtM w6 (x:=x) (k:=k) (b:=b) (i:=i) (n:=n) (nd:=nd) hx (by rw [e5,hVx]; exact h1) N ht i0 i2 hk he
    rw [e5] at f1 f2 f3
    refine ⟨f1,by simp only; rw [f2], ?_⟩
    have R5:Rst m (s.1.gX x) L x 0:=⟨U5,fun y hy=>by rw [gV_w w5,R.V y hy,gV_w w3,gV_w w3],fun j hj=>by rw [at_w w5,R.at_ j hj,gV_w w3,at_w w3]⟩
    rcases f3 with ⟨g1,g2,_⟩|⟨g1,L',g2⟩
    ·exact .inl ⟨g1, .inr ⟨hx,h1,hu,0,by simp only; rw [g2]; exact R5⟩⟩
    ·refine .inr ⟨g1,hx,h1,hk,ht,i0,i2,he,s.1.gX x,0,L',R5,fun _=>rfl,fun h=>absurd hu h,Int.le_refl _,(U.pcn h1).mark.1, ?_⟩
     ·have ec:(s.1.gV x).cap=(m.gV x).cap.mk' 0:=by rw [hVx]
      rw [ec] at g2
      have:((m.gV x).cap.mk' 0).obj+((m.gV x).cap.mk' 0).mark=(m.gV x).cap.obj+0:=rfl
      rw [this] at g2
      rw [ec]
      exact g2
 ·rw [if_neg hz,if_neg hz]
  have hu:under m.D L x≠[]:=fun h=>hz (by rw [hnx,h]; rfl)
  have w3:(q.2.nxX x).w=m.w:=by rw [nxX_w]; exact w1
  have w4:(q'.2.nxX x).w=(q.2.nxX x).w:=by rw [w3,nxX_w]; exact w2
  have U3:=U.of_w w3
  have e3:(q.2.nxX x).gV x=m.gV x:=gV_w w3 x
  obtain ⟨f1,f2,f3⟩:=U3.rtM w4 (x:=x) (k:=k) (b:=b) (i:=i) (n:=n) (nd:=nd) hx (by rw [e3]; exact h1) N ht i0 i2 hk he
  rw [e3] at f1 f2 f3
  refine ⟨f1,by simp only; rw [f2], ?_⟩
  rcases f3 with ⟨g1,g2,_⟩|⟨g1,L',g2⟩
  ·exact .inl ⟨g1, .inl (by simp only; rw [g2]; exact w3)⟩
  ·exact .inr ⟨g1,hx,h1,hk,ht,i0,i2,he,q.2.nxX x,(m.gV x).cap.mark,L',Rst.same U w3,fun h=>absurd h hu,fun _=>rfl,(U.pcn h1).mark.1,Int.le_refl _,g2⟩
end
end Go.Proofs.YtcdfofeolgbnbaaGreat

/- Law 15: the plan's memory in order,where its objects lie. -/
namespace Go.Proofs.YtcdfofeolgbnbaaGreat
open Go.D
set_option linter.all false
set_option maxRecDepth 100000
set_option maxHeartbeats 8000000

def insT (p:Int) (t:Int×Cap×Int):List (Int×Cap×Int)->List (Int×Cap×Int)
 | []=>[]
 | y::T=>if y.1=p then y::t::T else y::insT p t T
def insTT (p:Int) (t:Int×Cap×Int) (T:List (Int×Cap×Int)):List (Int×Cap×Int):=if p=0 then t::T else insT p t T
theorem insT_map (p:Int) (t:Int×Cap×Int):∀ T,(insT p t T).map (·.1)=insL p t.1 (T.map (·.1))
 | []=>rfl
 | y::T=>by
  simp only [insT,List.map_cons,insL]
  split
  ·rfl
  ·rw [List.map_cons,insT_map p t T]
theorem insTT_map (p:Int) (t:Int×Cap×Int) (T):(insTT p t T).map (·.1)=insLL p t.1 (T.map (·.1)):=by
 unfold insTT insLL
 split
 ·rfl
 ·exact insT_map p t T
theorem insT_cap {p a:Int} {c:Cap} {d:Int} (x:Int):∀ T,p∈T.map (·.1)->a∉T.map (·.1)->capT (insT p (a,c,d) T) x=if x=a then (c,d) else capT T x
 | [],h,_=>by cases h
 | y::T,h,h2=>by
  simp only [List.map_cons,List.mem_cons,not_or] at h h2
  simp only [insT]
  split
  ·rename_i e
   simp only [capT]
   by_cases c1:x=a
   ·rw [if_neg (by rw [c1]; exact h2.1)]
    simp only [c1,if_true]
   ·simp only [if_neg c1]
  ·rename_i e
   simp only [capT]
   rw [insT_cap x T (h.resolve_left fun h=>e h.symm) h2.2]
   by_cases c1:x=a
   ·rw [if_neg (by rw [c1]; exact h2.1)]
    simp only [c1,if_true]
   ·simp only [if_neg c1]
theorem insTT_cap {p a:Int} {c:Cap} {d:Int} (x:Int) {T} (hp:p=0\/p∈T.map (·.1)) (ha:a∉T.map (·.1)):capT (insTT p (a,c,d) T) x=if x=a then (c,d) else capT T x:=by
 unfold insTT
 split
 ·rfl
 ·rename_i h; exact insT_cap x T (hp.resolve_left h) ha
structure RepU (m:M) (T:List (Int×Cap×Int)):Prop where
 ui:UI m (T.map (·.1))
 cap:∀ x,x∈T.map (·.1)->((m.gV x).cap,m.D x)=capT T x
 zr:∀ j,3584<=j->m.at j=0
theorem RepU.of_w {m m':M} {T} (R:RepU m T) (e:m'.w=m.w):RepU m' T :=
 ⟨R.ui.of_w e,fun x hx=>by rw [gV_w e,D_w e]; exact R.cap x hx,fun j hj=>by rw [at_w e]; exact R.zr j hj⟩
theorem RepU.lay {m:M} {T:List (Int×Cap×Int)} (R:RepU m T) (p a:Int) (c:Cap) (d:Int) (hp:p=0\/p∈T.map (·.1)) (haP:P15 a) (haT:a∉T.map (·.1)) (hc:c.ty≠0) (hr:slotRB ⟨c,0,0,0⟩=true) (hd:d=if p=0 then 0 else (capT T p).2+1):RepU (m.rlayX p a c) (insTT p (a,c,d) T):=by
 obtain ⟨e1,D,_,_,hV,_⟩:=R.ui.lay (r:=m) rfl hp haP haT hc hr
 have hat:=fun j (hj:3120<=j)=>R.ui.lay_at hp haP haT hc hr hj
 refine RepU.of_w (m:=m.layX p a c) ⟨?_,fun x hx=>?_,fun j hj=>by rw [hat j (by omega)]; exact R.zr j hj⟩ e1
 ·rw [insTT_map]; exact D
 ·rw [insTT_cap x hp haT]
  rw [insTT_map] at hx
  have hx0:=D.l0 hx
  unfold M.D
  rw [hV x hx0,jnV_cap,jnV_depth]
  by_cases e:x=a
  ·simp only [if_pos e]
   rw [hd]
   by_cases h0:p=0
   ·simp only [if_pos h0]
   ·simp only [if_neg h0]
    have:=R.cap p (hp.resolve_left h0)
    rw [<-this]
    rfl
  ·simp only [if_neg e]
   have hxT:x∈T.map (·.1):=by
    unfold insLL at hx
    split at hx
    ·exact (List.mem_cons.1 hx).resolve_left e
    ·exact (insL_mem hx).resolve_left e
   exact R.cap x hxT
theorem P15_off {x:Int} (h:P15 x):32<=x/\x.tmod 4=0/\x<=8188/\(x<1024->x+3<48)/\(¬ x<1024->x<2048->x%64=0):=by
 unfold P15 at h
 rw [Int.tmod_eq_emod_of_nonneg (by omega)]
 omega
theorem RepU.th {m:M} {T:List (Int×Cap×Int)} (R:RepU m T) (i:Nat) (hi:i<4) (t:Th) (ht:t.rg.length=16):RepU (m.thX (1024+64*(i:Int)) t) T:=by
 have hlen:=R.ui.len
 have hat:∀ j:Nat,j<1024\/2048<=j\/j%64<4->(m.thX (1024+64*(i:Int)) t).at j=m.at j:=fun j hj=>by
  unfold M.thX
  split
  ·rw [wrs_out _ _ _ _ _ (by omega),wrs_out _ _ _ _ _ (by omega)]
  ·rfl
 have hl:(m.thX (1024+64*(i:Int)) t).w.length=m.w.length:=thX_len _ _ _
 obtain ⟨D2,k⟩:=R.ui.touch hl (hat 2 (by omega)) (fun x hx k h0 h3=>by
  obtain ⟨o1,o2,o3,o4,o6⟩:=P15_off hx
  have e:x+k=((x+k).toNat:Int):=by omega
  rw [e]
  refine hat _ ?_
  by_cases c1:x<1024
  ·have:=o4 c1; omega
  ·by_cases c2:x<2048
   ·have:=o6 c1 c2; omega
   ·omega)
 refine ⟨D2,fun x hx=>?_,fun j hj=>?_⟩
 ·unfold M.D
  rw [(k x (R.ui.sub x hx)).2]
  exact R.cap x hx
 ·have e:j=((j.toNat:Nat):Int):=by omega
  rw [e,hat _ (by omega),<-e]
  exact R.zr j hj
theorem repu_0:RepU (M.zero 13) []:=by
 have hl:(M.zero 13).w.length=8192:=by rw [M.zero_len]; rfl
 have z:∀ j,(M.zero 13).at j=0:=M.at_zero 13
 have key:∀ x,P15 x->(M.zero 13).gE x=0/\(M.zero 13).gV x=slotZ:=fun x hx=>by
  obtain ⟨o1,o2,o3,_⟩:=P15_off hx
  have ht:thereB (M.zero 13) x=true:=there_iff.2 ⟨by omega,o2,by rw [hl]; omega⟩
  have hb:(M.zero 13).slotB x=true:=by simp only [M.slotB,z]; decide
  refine ⟨gE_zero ht hb, ?_⟩
  unfold M.gV
  rw [if_pos ⟨ht,hb⟩]
  simp only [M.slotC,z]; rfl
 have hf:(M.zero 13).fst=0:=by
  have hh:(M.zero 13).has 2 1=true:=M.has_iff.2 (by rw [hl]; omega)
  have hw0:IntKind.i64.wrap 0=0:=rfl
  simp only [M.fst,z,hh,if_true,keptV,keptB,hw0]
  simp
 have I:(M.zero 13).Inv P15 []:=⟨⟨by rw [hl]; decide,by rw [hl]⟩,by rw [z,hf],List.nodup_nil,fun x hx=>(nomatch hx),trivial,hf,fun x hx=>⟨(key x hx).1,fun _=>by rw [(key x hx).2]; exact ⟨rfl,rfl,rfl⟩⟩⟩
 exact ⟨⟨I,fun x hx=>(nomatch hx),fun x hx _=>(key x hx).2,trivial,hl⟩,fun x hx=>(nomatch hx),fun j _=>z j⟩
def repuT0:List (Int×Cap×Int):=[]
def repuT1:List (Int×Cap×Int):=insTT 0 (32,⟨3,1024,0,0,0,0,0,0,0,0,0⟩,0) repuT0
theorem repu_1:RepU (bA 1) repuT1:=(RepU.th (T:=repuT0) repu_0 0 (by decide) (thBs 0) rfl).lay 0 32 ⟨3,1024,0,0,0,0,0,0,0,0,0⟩ 0 (by decide) (by decide) (by decide) (by decide) (by decide) (by decide)
def repuT2:List (Int×Cap×Int):=insTT 0 (36,⟨3,1088,0,0,0,0,0,0,0,0,0⟩,0) repuT1
theorem repu_2:RepU (bA 2) repuT2:=(RepU.th (T:=repuT1) repu_1 1 (by decide) (thBs 1) rfl).lay 0 36 ⟨3,1088,0,0,0,0,0,0,0,0,0⟩ 0 (by decide) (by decide) (by decide) (by decide) (by decide) (by decide)
def repuT3:List (Int×Cap×Int):=insTT 0 (40,⟨3,1152,0,0,0,0,0,0,0,0,0⟩,0) repuT2
theorem repu_3:RepU (bA 3) repuT3:=(RepU.th (T:=repuT2) repu_2 2 (by decide) (thBs 2) rfl).lay 0 40 ⟨3,1152,0,0,0,0,0,0,0,0,0⟩ 0 (by decide) (by decide) (by decide) (by decide) (by decide) (by decide)
def repuT4:List (Int×Cap×Int):=insTT 0 (44,⟨3,1216,0,0,0,0,0,0,0,0,0⟩,0) repuT3
theorem repu_4:RepU (bA 4) repuT4:=(RepU.th (T:=repuT3) repu_3 3 (by decide) (thBs 3) rfl).lay 0 44 ⟨3,1216,0,0,0,0,0,0,0,0,0⟩ 0 (by decide) (by decide) (by decide) (by decide) (by decide) (by decide)
def repuT5:List (Int×Cap×Int):=insTT 0 (1024,⟨2,2048,8,0,0,24,0,0,0,0,0⟩,0) repuT4
theorem repu_5:RepU (bB 0) repuT5:=(show RepU _ repuT4 from repu_4).lay 0 1024 ⟨2,2048,8,0,0,24,0,0,0,0,0⟩ 0 (by decide) (by decide) (by decide) (by decide) (by decide) (by decide)
def repuT6:List (Int×Cap×Int):=insTT 1024 (1088,⟨2,2048,8,0,0,24,0,0,0,0,0⟩,1) repuT5
theorem repu_6:RepU (bB 1) repuT6:=(show RepU _ repuT5 from repu_5).lay 1024 1088 ⟨2,2048,8,0,0,24,0,0,0,0,0⟩ 1 (by decide) (by decide) (by decide) (by decide) (by decide) (by decide)
def repuT7:List (Int×Cap×Int):=insTT 1024 (1152,⟨2,2048,8,0,0,24,0,0,0,0,0⟩,1) repuT6
theorem repu_7:RepU (bB 2) repuT7:=(show RepU _ repuT6 from repu_6).lay 1024 1152 ⟨2,2048,8,0,0,24,0,0,0,0,0⟩ 1 (by decide) (by decide) (by decide) (by decide) (by decide) (by decide)
def repuT8:List (Int×Cap×Int):=insTT 1024 (1216,⟨2,2048,8,0,0,24,0,0,0,0,0⟩,1) repuT7
theorem repu_8:RepU (bB 3) repuT8:=(show RepU _ repuT7 from repu_7).lay 1024 1216 ⟨2,2048,8,0,0,24,0,0,0,0,0⟩ 1 (by decide) (by decide) (by decide) (by decide) (by decide) (by decide)
def repuT9:List (Int×Cap×Int):=insTT 0 (2052,⟨2,3072,3,0,0,0,0,0,0,0,0⟩,0) repuT8
theorem repu_9:RepU ((bB 3).l9 1 (capB 2 3072 3)) repuT9:=(show RepU _ repuT8 from repu_8).lay 0 2052 ⟨2,3072,3,0,0,0,0,0,0,0,0⟩ 0 (by decide) (by decide) (by decide) (by decide) (by decide) (by decide)
def repuT10:List (Int×Cap×Int):=insTT 0 (2056,⟨2,3104,2,0,1,1,0,0,0,0,0⟩,0) repuT9
theorem repu_10:RepU (bC 0) repuT10:=(show RepU _ repuT9 from repu_9).lay 0 2056 ⟨2,3104,2,0,1,1,0,0,0,0,0⟩ 0 (by decide) (by decide) (by decide) (by decide) (by decide) (by decide)
def repuT11:List (Int×Cap×Int):=insTT 0 (2060,⟨4,3120,0,0,0,0,0,7,0,0,0⟩,0) repuT10
theorem repu_11:RepU (bC 1) repuT11:=(show RepU _ repuT10 from repu_10).lay 0 2060 ⟨4,3120,0,0,0,0,0,7,0,0,0⟩ 0 (by decide) (by decide) (by decide) (by decide) (by decide) (by decide)
def repuT12:List (Int×Cap×Int):=insTT 0 (2064,⟨4,3124,0,0,0,0,0,7,0,0,0⟩,0) repuT11
theorem repu_12:RepU (bC 2) repuT12:=(show RepU _ repuT11 from repu_11).lay 0 2064 ⟨4,3124,0,0,0,0,0,7,0,0,0⟩ 0 (by decide) (by decide) (by decide) (by decide) (by decide) (by decide)
def repuT13:List (Int×Cap×Int):=insTT 0 (2068,⟨4,3128,0,0,0,0,0,7,0,0,0⟩,0) repuT12
theorem repu_13:RepU (bC 3) repuT13:=(show RepU _ repuT12 from repu_12).lay 0 2068 ⟨4,3128,0,0,0,0,0,7,0,0,0⟩ 0 (by decide) (by decide) (by decide) (by decide) (by decide) (by decide)
def repuT14:List (Int×Cap×Int):=insTT 0 (2072,⟨5,3136,0,0,0,0,0,7,0,0,0⟩,0) repuT13
theorem repu_14:RepU ((bD 0).l9 (6+((0:Nat):Int)) (capR 5 (3136+8*((0:Nat):Int)))) repuT14:=(show RepU _ repuT13 from repu_13).lay 0 2072 ⟨5,3136,0,0,0,0,0,7,0,0,0⟩ 0 (by decide) (by decide) (by decide) (by decide) (by decide) (by decide)
def repuT15:List (Int×Cap×Int):=insTT 0 (2080,⟨8,3152,0,0,0,0,0,7,0,0,0⟩,0) repuT14
theorem repu_15:RepU (bD 1) repuT15:=(show RepU _ repuT14 from repu_14).lay 0 2080 ⟨8,3152,0,0,0,0,0,7,0,0,0⟩ 0 (by decide) (by decide) (by decide) (by decide) (by decide) (by decide)
def repuT16:List (Int×Cap×Int):=insTT 0 (2076,⟨5,3144,0,0,0,0,0,7,0,0,0⟩,0) repuT15
theorem repu_16:RepU ((bD 1).l9 (6+((1:Nat):Int)) (capR 5 (3136+8*((1:Nat):Int)))) repuT16:=(show RepU _ repuT15 from repu_15).lay 0 2076 ⟨5,3144,0,0,0,0,0,7,0,0,0⟩ 0 (by decide) (by decide) (by decide) (by decide) (by decide) (by decide)
def repuT17:List (Int×Cap×Int):=insTT 0 (2084,⟨8,3168,0,0,0,0,0,7,0,0,0⟩,0) repuT16
theorem repu_17:RepU (bD 2) repuT17:=(show RepU _ repuT16 from repu_16).lay 0 2084 ⟨8,3168,0,0,0,0,0,7,0,0,0⟩ 0 (by decide) (by decide) (by decide) (by decide) (by decide) (by decide)
def repuT18:List (Int×Cap×Int):=insTT 0 (2088,⟨6,3184,0,0,0,0,0,0,0,0,0⟩,0) repuT17
theorem repu_18:RepU (bE 1) repuT18:=(show RepU _ repuT17 from repu_17).lay 0 2088 ⟨6,3184,0,0,0,0,0,0,0,0,0⟩ 0 (by decide) (by decide) (by decide) (by decide) (by decide) (by decide)
def repuT19:List (Int×Cap×Int):=insTT 0 (2092,⟨6,3192,0,0,0,0,0,0,0,0,0⟩,0) repuT18
theorem repu_19:RepU (bE 2) repuT19:=(show RepU _ repuT18 from repu_18).lay 0 2092 ⟨6,3192,0,0,0,0,0,0,0,0,0⟩ 0 (by decide) (by decide) (by decide) (by decide) (by decide) (by decide)
def repuT20:List (Int×Cap×Int):=insTT 0 (2096,⟨6,3200,0,0,0,0,0,0,0,0,0⟩,0) repuT19
theorem repu_20:RepU (bE 3) repuT20:=(show RepU _ repuT19 from repu_19).lay 0 2096 ⟨6,3200,0,0,0,0,0,0,0,0,0⟩ 0 (by decide) (by decide) (by decide) (by decide) (by decide) (by decide)
def repuT21:List (Int×Cap×Int):=insTT 0 (2100,⟨6,3208,0,0,0,0,0,0,0,0,0⟩,0) repuT20
theorem repu_21:RepU (bE 4) repuT21:=(show RepU _ repuT20 from repu_20).lay 0 2100 ⟨6,3208,0,0,0,0,0,0,0,0,0⟩ 0 (by decide) (by decide) (by decide) (by decide) (by decide) (by decide)
def repuT22:List (Int×Cap×Int):=insTT 0 (2104,⟨7,3216,0,0,0,0,0,0,0,0,0⟩,0) repuT21
theorem repu_22:RepU ((bE 4).l9 14 (capO 7 3216)) repuT22:=(show RepU _ repuT21 from repu_21).lay 0 2104 ⟨7,3216,0,0,0,0,0,0,0,0,0⟩ 0 (by decide) (by decide) (by decide) (by decide) (by decide) (by decide)
def repuT23:List (Int×Cap×Int):=insTT 0 (2108,⟨1,3584,9,0,0,0,0,0,0,0,0⟩,0) repuT22
theorem repu_23:RepU (((bE 4).l9 14 (capO 7 3216)).l9 15 (capB 1 3584 9)) repuT23:=(show RepU _ repuT22 from repu_22).lay 0 2108 ⟨1,3584,9,0,0,0,0,0,0,0,0⟩ 0 (by decide) (by decide) (by decide) (by decide) (by decide) (by decide)
def repuT24:List (Int×Cap×Int):=insTT 0 (2112,⟨1,4096,10,0,0,0,0,0,0,0,0⟩,0) repuT23
theorem repu_24:RepU ((((bE 4).l9 14 (capO 7 3216)).l9 15 (capB 1 3584 9)).l9 16 (capB 1 4096 10)) repuT24:=(show RepU _ repuT23 from repu_23).lay 0 2112 ⟨1,4096,10,0,0,0,0,0,0,0,0⟩ 0 (by decide) (by decide) (by decide) (by decide) (by decide) (by decide)
def repuT25:List (Int×Cap×Int):=insTT 0 (2116,⟨11,0,0,0,0,0,0,0,0,0,0⟩,0) repuT24
theorem repu_25:RepU (((((bE 4).l9 14 (capO 7 3216)).l9 15 (capB 1 3584 9)).l9 16 (capB 1 4096 10)).l9 17 (capO 11 0)) repuT25:=(show RepU _ repuT24 from repu_24).lay 0 2116 ⟨11,0,0,0,0,0,0,0,0,0,0⟩ 0 (by decide) (by decide) (by decide) (by decide) (by decide) (by decide)
def repuT26:List (Int×Cap×Int):=insTT 0 (2120,⟨13,0,0,0,0,0,0,0,0,0,0⟩,0) repuT25
theorem repu_26:RepU (baseM) repuT26:=(show RepU _ repuT25 from repu_25).lay 0 2120 ⟨13,0,0,0,0,0,0,0,0,0,0⟩ 0 (by decide) (by decide) (by decide) (by decide) (by decide) (by decide)
def buT:List (Int×Cap×Int):=[(2120,⟨13,0,0,0,0,0,0,0,0,0,0⟩,0),(2116,⟨11,0,0,0,0,0,0,0,0,0,0⟩,0),(2112,⟨1,4096,10,0,0,0,0,0,0,0,0⟩,0),(2108,⟨1,3584,9,0,0,0,0,0,0,0,0⟩,0),(2104,⟨7,3216,0,0,0,0,0,0,0,0,0⟩,0),(2100,⟨6,3208,0,0,0,0,0,0,0,0,0⟩,0),(2096,⟨6,3200,0,0,0,0,0,0,0,0,0⟩,0),(2092,⟨6,3192,0,0,0,0,0,0,0,0,0⟩,0),(2088,⟨6,3184,0,0,0,0,0,0,0,0,0⟩,0),(2084,⟨8,3168,0,0,0,0,0,7,0,0,0⟩,0),(2076,⟨5,3144,0,0,0,0,0,7,0,0,0⟩,0),(2080,⟨8,3152,0,0,0,0,0,7,0,0,0⟩,0),(2072,⟨5,3136,0,0,0,0,0,7,0,0,0⟩,0),(2068,⟨4,3128,0,0,0,0,0,7,0,0,0⟩,0),(2064,⟨4,3124,0,0,0,0,0,7,0,0,0⟩,0),(2060,⟨4,3120,0,0,0,0,0,7,0,0,0⟩,0),(2056,⟨2,3104,2,0,1,1,0,0,0,0,0⟩,0),(2052,⟨2,3072,3,0,0,0,0,0,0,0,0⟩,0),(1024,⟨2,2048,8,0,0,24,0,0,0,0,0⟩,0),(1216,⟨2,2048,8,0,0,24,0,0,0,0,0⟩,1),(1152,⟨2,2048,8,0,0,24,0,0,0,0,0⟩,1),(1088,⟨2,2048,8,0,0,24,0,0,0,0,0⟩,1),(44,⟨3,1216,0,0,0,0,0,0,0,0,0⟩,0),(40,⟨3,1152,0,0,0,0,0,0,0,0,0⟩,0),(36,⟨3,1088,0,0,0,0,0,0,0,0,0⟩,0),(32,⟨3,1024,0,0,0,0,0,0,0,0,0⟩,0)]
def buL:List Int:=[2120,2116,2112,2108,2104,2100,2096,2092,2088,2084,2076,2080,2072,2068,2064,2060,2056,2052,1024,1216,1152,1088,44,40,36,32]
theorem bu_is:repuT26=buT:=by rfl
theorem buL_is:buT.map (·.1)=buL:=rfl
theorem repu_base:RepU baseM buT:=by rw [<-bu_is]; exact repu_26
instance (c d:Cap):Decidable (aptP c d):=by unfold aptP; infer_instance
def buD (x:Int):Int:=(capT buT x).2
theorem bu_pc:∀ x,x∈buL->(capT buT x).1.ty=1->3584<=(capT buT x).1.obj/\(capT buT x).1.obj+szN (capT buT x).1<=5120/\(capT buT x).1.mark=0/\under buD buL x=[]:=by decide
theorem bu_apt:∀ x,x∈buL->∀ y,y∈buL->x≠y->y∉under buD buL x->x∉under buD buL y->aptP (capT buT x).1 (capT buT y).1:=by decide
theorem RepU.ut {m:M} (R:RepU m buT):UT m buL:=by
 have hL:=R.ui
 rw [buL_is] at hL
 have hc:∀ x,x∈buL->(m.gV x).cap=(capT buT x).1:=fun x hx=>by rw [<-R.cap x (by rw [buL_is]; exact hx)]
 have hD:∀ x,x∈buL->m.D x=buD x:=fun x hx=>by unfold buD; rw [<-R.cap x (by rw [buL_is]; exact hx)]
 have hu:∀ x,under m.D buL x=under buD buL x:=fun x=>under_congr hD
 refine ⟨hL,fun x hx h1=>?_,fun x hx h1 j j1 j2=>?_,fun x y hx h1 hy=>?_,fun x y hx hy hne n1 n2=>?_⟩
 ·rw [hc x hx] at h1 ⊢
  obtain ⟨q1,q2,_⟩:=bu_pc x hx h1
  exact ⟨q1,q2⟩
 ·rw [hc x hx] at h1 j1
  obtain ⟨q1,_,q3,_⟩:=bu_pc x hx h1
  exact R.zr j (by omega)
 ·rw [hc x hx] at h1
  rw [hu,(bu_pc x hx h1).2.2.2] at hy
  cases hy
 ·rw [hu] at n1 n2
  rw [hc x hx,hc y hy]
  exact bu_apt x hx y hy hne n1 n2

def baseC5:M:=(M.zero 13).lay 0 baseM.w
theorem base_len5:baseM.w.length=8192:=by
 exact repu_base.ui.len
theorem lay_all5 {m:M} {vs:List Int} (hl:vs.length=m.w.length) (hu:∀ v,v∈vs->u64 v):(m.lay 0 vs).w=vs:=by
 have h1:=M.lay_w vs m 0 hu
 have h2:=put_all' (wc vs) (wc m.w) [] (by rw [wc_len,wc_len,hl])
 simp only [List.nil_append,List.length_nil] at h2
 rw [h2] at h1
 have h3:=congrArg unwc h1
 rw [unwc_wc,unwc_wc] at h3
 exact (Option.some.inj h3).symm
theorem base_len25:baseM.w.length=(M.zero 13).w.length:=by
 rw [base_len5,M.zero_len]
 decide
theorem baseC_w5:baseC5.w=baseM.w:=by
 unfold baseC5
 exact lay_all5 base_len25 baseM.u
def basedG5:List V->List Blk->Res
 | [],h=>.ok (.s (.p (.g (h.length+4)) 0)) [] (wH h baseC5 baseM [])
 | _,_=>.bad
theorem wH_tail5 (h:List Blk) (m r:M) (X:List Blk):∃ Y,wH h m r X=h++Y:=by
 rw [wH,memH,memH,List.append_assoc,List.append_assoc]
 exact ⟨_,rfl⟩
theorem cut_wH5 {h:List Blk} {m r:M} {X:List Blk} {v:V} {K:V->List Blk->Prop} (hc:clean h.length h=true) (hv:v.val h.length 0=true) (hK:K v h):Cut h.length K v (wH h m r X):=by
 obtain ⟨Y,e⟩:=wH_tail5 h m r X
 rw [e]
 exact ⟨h,Y,rfl,Nat.le_refl _,hc,hv,hK⟩
def awake12G5:List V->List Blk->Res
 | [],h=>.ok (.s (.b true)) [] h
 | _,_=>.bad
theorem repuC:RepU baseC5 buT:=repu_base.of_w baseC_w5

noncomputable def TVb:Tab:=addT 63 baseG (addT 49 newM (addT 64 load2G (noT)))
theorem TVb_snd:TVb.Snd Tryz.prog:=addT_snd ok63 base_snd (addT_snd ok49 new_snd (addT_snd ok64 load2_snd ((noT_snd _))))
theorem based15_snd:Snd Tryz.prog 17 (FSpec.of basedG5):=snd_run TVb_snd mixed Tryz.func17 dc17 300 fun args h K hc hS=>by
 unfold basedG5 at hS
 split at hS
 ·simp only [spec_ok] at hS
  have hd:decide ((11:Int)<=13)&&decide ((13:Int)<=16)=true:=by decide
  have ht:Int.toNat 13=13:=rfl
  have hbl:=base_len5
  have ha1:∀ X,(memH (memH h baseM) (M.zero 13)++X)[h.length]?=some (MB (h.length+1) baseM):=fun X=>(memH_is1 h baseM (M.zero 13)).app.ha
  have ha1':(memH (memH h baseM) (M.zero 13))[h.length]?=some (MB (h.length+1) baseM):=(memH_is1 h baseM (M.zero 13)).ha
  have hb1':(memH (memH h baseM) (M.zero 13))[h.length+1]?=some (MW baseM):=(memH_is1 h baseM (M.zero 13)).hb
  have hL1:listOf (memH (memH h baseM) (M.zero 13)) (.sl (.g (h.length+1)) 0 baseM.w.length baseM.w.length)=some baseM.w:=listOf_at (st:=.rw) (room:=baseM.w.length) hb1' (fun x=>BK.noConfusion x) rfl
  have hmo:memOf (memH (memH h baseM) (M.zero 13)) (h.length+2)=some (h.length+3,M.zero 13):=memOf_eq (memH_is2 h baseM (M.zero 13))
  have hh:(M.zero 13).has 0 baseM.w.length=true:=M.has_iff.2 (by rw [M.zero_len,base_len5]; decide)
  simp (maxSteps:=999999) only [go_sem,simprocAttr,↓qT,↓qF,df17,TVb,baseG,newM,ht,ha1',MB,load2G,hL1,hmo,M.loadE,M.loadX,hh,memH_len,put,fillP]
  refine ⟨⟨fun e=>?_,baseM.u⟩, ?_⟩
  ·exact absurd e (by omega)
  refine ⟨[0],by simp,rfl, ?_⟩
  simp only [getAll,List.getElem?_cons_zero]
  refine ⟨?_, ?_⟩
  ·simp [S.kept,R.kept]
  ·rw [memH_set2]
   refine cast ?_ hS
   simp [wH,wB,baseC5,V.ren,S.ren,R.prom,Blk.ren,memH_len,List.idxOf,List.findIdx,List.findIdx.go]
 ·exact hS.elim
def pieceV (n:Int):Int:=if n=0\/n=1 then 2048+4*(15+n) else plcV n
def pieceG:List V->List Blk->Res
 | [.s (.i .i64 n)],h=>.ok (.s (.i .i64 (pieceV n))) [] h
 | _,_=>.bad
noncomputable def TVp:Tab:=addT 39 plcG (noT)
theorem TVp_snd:TVp.Snd Tryz.prog:=addT_snd ok39 plc_snd ((noT_snd _))
theorem piece_snd:Snd Tryz.prog 22 (FSpec.of pieceG):=snd_run TVp_snd mixed Tryz.func22 dc22 200 fun args h K hc hS=>by
 unfold pieceG at hS
 split at hS
 ·rename_i n
  simp only [spec_ok,pieceV] at hS
  by_cases h0:n=0
  ·subst h0
   have e:IntKind.i64.wrap (2048+IntKind.i64.wrap (4*IntKind.i64.wrap (15+0)))=2048+4*(15+0):=by decide
   simp only [true_or,if_true] at hS
   simp (maxSteps:=999999) only [go_sem,simprocAttr,↓qT,↓qF,df22,TVp,plcG]
   exact hS
  by_cases h1:n=1
  ·subst h1
   simp only [or_true,if_true] at hS
   simp (maxSteps:=999999) only [go_sem,simprocAttr,↓qT,↓qF,df22,TVp,plcG]
   exact hS
  ·have k0:(n==0)=false:=by simpa using h0
   have k1:(n==1)=false:=by simpa using h1
   rw [if_neg (by omega)] at hS
   simp (maxSteps:=999999) only [go_sem,simprocAttr,↓qT,↓qF,df22,TVp,plcG,k0,k1]
   exact hS
 ·exact hS.elim
def root9M (b:Nat) (m:M) (st:M->List Blk):List V->Res
 | [.s (.i .i64 x)]=>.ob (0<=x/\x<=65536) (.ok (.agg (m.gV x).cap.cl) [] (st (m.gX x)))
 | _=>.bad
noncomputable def root9G:=memF root9M
noncomputable def TVr:Tab:=addT 66 cap9G (noT)
theorem TVr_snd:TVr.Snd Tryz.prog:=addT_snd ok66 rcap9_snd ((noT_snd _))
theorem rroot_snd:Snd Tryz.prog 20 (FSpec.of root9G):=snd_run TVr_snd mixed Tryz.func20 dc20 200 fun args h K hc hS=>by
 obtain ⟨a,b,m,rest,rfl,H,hS1⟩:=memF_spec (f:=root9M) hS
 clear hS
 have hS:=hS1
 clear hS1
 unfold root9M at hS
 split at hS
 ·rename_i x
  simp only [spec_ob,spec_ok] at hS
  obtain ⟨hx,hS⟩:=hS
  have e:IntKind.i64.wrap x=x:=by rw [wrap64]<;>omega
  simp (maxSteps:=999999) only [go_sem,simprocAttr,↓qT,↓qF,df20,TVr,cap9G,cap9M,memF_eq H,e,Int.add_zero,Cap.cl,put,fillP,sub,EVt]
  exact hS
 ·exact hS.elim
end Go.Proofs.YtcdfofeolgbnbaaGreat

