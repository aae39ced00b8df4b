/- Law 15: Retype,of memories in order; by both. -/
import Derived.Test.YtcdfofeolgbnbaaGreatZ31
/- Law 15: objects laid in a piece: what is there then; by both. -/
namespace Go.Proofs.YtcdfofeolgbnbaaGreat
open Go.D
set_option linter.all false
set_option maxRecDepth 100000
set_option maxHeartbeats 4000000

/-! ### new objects -/
theorem kn_1 {k b n:Int} (h:knE k b n=0):knE k b 1=0:=by
 unfold knE at h ⊢
 split at h
 ·cases h
 ·rename_i h0
  rw [if_neg (by omega)]
  exact h
theorem hsz_eq {k b:Int} (h:knE k b 1=0) (a:Int):szN (frC k b a)=hszV k b:=by
 have e:szN (frC k b a)=szN (frC k b 0):=rfl
 rw [e]
 clear e
 unfold knE at h
 split at h
 ·cases h
 rename_i h0
 have hk:k=1\/k=2\/k=3\/k=4\/k=5\/k=6\/k=7\/k=8:=by omega
 rcases hk with rfl|rfl|rfl|rfl|rfl|rfl|rfl|rfl
 ·rw [if_pos rfl] at h
  split at h
  ·rename_i hb
   have:b=4\/b=5\/b=6\/b=7\/b=8\/b=9\/b=10\/b=11\/b=12\/b=13\/b=14\/b=15:=by omega
   rcases this with rfl|rfl|rfl|rfl|rfl|rfl|rfl|rfl|rfl|rfl|rfl|rfl<;>decide
  ·cases h
 ·rw [if_neg (by decide),if_pos rfl] at h
  split at h
  ·rename_i hb
   have:b=1\/b=2\/b=3\/b=4\/b=5\/b=6\/b=7\/b=8:=by omega
   rcases this with rfl|rfl|rfl|rfl|rfl|rfl|rfl|rfl<;>decide
  ·cases h
 all_goals
  have hb:b=0:=by
   rw [if_neg (by decide),if_neg (by decide)] at h
   split at h
   ·assumption
   ·cases h
  subst hb
  decide
theorem fr_right {k b a:Int} (h:knE k b 1=0) (a0:1024<=a) (a1:a<=65535) (al:a%hszV k b=0):rightB (frC k b a)=true:=by
 have hs:=hsz_eq h a
 have hp:=(kn_sz h).1
 have al':a.tmod (hszV k b)=0:=by rw [Int.tmod_eq_emod_of_nonneg (by omega)]; exact al
 have ho:∀ P:Prop,¬ (P/\(a<1024\/65535<a\/¬ a.tmod (hszV k b)=0)):=fun P q=>by omega
 have ho2:¬ (a<1024\/65535<a\/¬ a.tmod (hszV k b)=0):=by omega
 rw [<-hs] at ho ho2
 unfold knE at h
 split at h
 ·cases h
 rename_i h0
 have hk:k=1\/k=2\/k=3\/k=4\/k=5\/k=6\/k=7\/k=8:=by omega
 rcases hk with rfl|rfl|rfl|rfl|rfl|rfl|rfl|rfl
 ·rw [if_pos rfl] at h
  split at h
  ·rename_i hb
   have hu:=uRaw_le hb
   have e:szN (frC 1 b a)=uRaw b:=rfl
   rw [e] at ho
   simp only [rightB,frC,Int.reduceEq,if_false,if_true,true_or,or_false,false_or,and_self,hb,not_true_eq_false,and_true]
   rw [if_neg (ho _)]
   exact inV_iff.2 ⟨by omega,by omega⟩
  ·cases h
 ·rw [if_neg (by decide),if_pos rfl] at h
  split at h
  ·rename_i hb
   have e:szN (frC 2 b a)=nRaw b:=rfl
   rw [e] at ho
   simp only [rightB,frC,Int.reduceEq,if_false,if_true,or_true,or_false,false_or,and_self,nOk_iff,hb,not_true_eq_false,and_true]
   rw [if_neg (ho _)]
   decide
  ·cases h
 all_goals
  have hb:b=0:=by
   rw [if_neg (by decide),if_neg (by decide)] at h
   split at h
   ·assumption
   ·cases h
  subst hb
  simp only [szN,frC,Int.reduceEq,if_false,if_true] at ho2
 ·simp only [rightB,frC,Int.reduceEq,if_false,if_true,or_false,and_self]
  rw [if_neg ho2]
 ·simp only [rightB,frC,Int.reduceEq,if_false,if_true,or_false,and_self,true_or]
  rw [if_neg ho2]; decide
 ·simp only [rightB,frC,Int.reduceEq,if_false,if_true,or_false,and_self,true_or,or_true]
  rw [if_neg ho2]; decide
 ·simp only [rightB,frC,Int.reduceEq,if_false,if_true,or_false,and_self]
  rw [if_neg ho2]; decide
 ·simp only [rightB,frC,Int.reduceEq,if_false,if_true,or_false,and_self]
  rw [if_neg ho2]; decide
 ·simp only [rightB,frC,Int.reduceEq,if_false,if_true,or_false,and_self,or_true]
  rw [if_neg ho2]; decide

/-! ### a new thread's words -/
theorem thX_len (m:M) (x:Int) (t:Th):(m.thX x t).w.length=m.w.length:=by
 unfold M.thX; split
 ·rw [M.wrs_len,M.wrs_len]
 ·rfl
theorem thT_at {m:M} {A:Int} (h0:1024<=A) (h1:A%64=0) (h2:A+64<=m.w.length) (hz:∀ j,A<=j->j<A+64->m.at j=0) {j:Int} (hj:0<=j):(m.thX A thT).at j=if j=A+16 then 10240 else m.at j:=by
 have hB:thT.B=true:=by decide
 have ho:otB m A 64=true:=otB_iff.2 ⟨h0,h1,h2⟩
 have hu:=Th.h_u hB
 have hws:∀ v,v∈[thT.h0,thT.h1,thT.bg,thT.h3]->u64 v:=fun v hv=>by
  simp only [List.mem_cons,List.not_mem_nil,or_false] at hv
  rcases hv with rfl|rfl|rfl|rfl
  ·exact hu.1
  ·exact hu.2.1
  ·exact hu.2.2.1
  ·exact hu.2.2.2
 have e2:thT.rg.length=16:=rfl
 unfold M.thX
 rw [ho,hB]
 simp only [Bool.and_self,if_true]
 rw [M.wrs_at _ _ _ thT_up.2 _ 16 (by rw [e2]; omega) (by rw [M.wrs_len]; omega)]
 by_cases c1:(A+32).toNat<=j.toNat/\j.toNat<(A+32).toNat+16
 ·rw [if_pos c1,if_neg (by omega),hz j (by omega) (by omega)]
  have:∀ i:Nat,nth 0 thT.rg i=0:=fun i=>by
   unfold thT
   exact nth_replicate
  exact this _
 ·rw [if_neg c1,M.wrs_at _ _ _ hws _ 4 (by simp) (by omega)]
  by_cases c2:(A+16).toNat<=j.toNat/\j.toNat<(A+16).toNat+4
  ·rw [if_pos c2]
   have h4:j.toNat-(A+16).toNat=0\/j.toNat-(A+16).toNat=1\/j.toNat-(A+16).toNat=2\/j.toNat-(A+16).toNat=3:=by omega
   rcases h4 with h|h|h|h<;>rw [h]
   ·rw [if_pos (by omega)]; rfl
   ·rw [if_neg (by omega),hz j (by omega) (by omega)]; rfl
   ·rw [if_neg (by omega),hz j (by omega) (by omega)]; rfl
   ·rw [if_neg (by omega),hz j (by omega) (by omega)]; rfl
  ·rw [if_neg c2,if_neg (by omega)]
theorem thT_neg {m:M} {A:Int} (h0:1024<=A) (h1:A%64=0) (h2:A+64<=m.w.length) (hz:∀ j,A<=j->j<A+64->m.at j=0) {j:Int} (hj:¬ j=A+16):(m.thX A thT).at j=m.at j:=by
 by_cases c:0<=j
 ·rw [thT_at h0 h1 h2 hz c,if_neg hj]
 ·have e:j.toNat=(0:Int).toNat:=by omega
  have q:=thT_at (m:=m) h0 h1 h2 hz (j:=0) (by omega)
  rw [if_neg (by omega)] at q
  simp only [M.at,e] at q ⊢
  exact q

/-! ### so many objects -/
theorem under_hd {D:Int->Int} {x a:Int} (h:D x<D a):∀ {L:List Int},x∈L->(under D (insL x a L) x).headD 0=a
 | z::L,hx=>by
  unfold insL
  by_cases e:z=x
  ·rw [if_pos e]
   unfold under
   rw [if_pos e,tw_cons,if_pos h]
   rfl
  ·rw [if_neg e]
   unfold under
   rw [if_neg e]
   exact under_hd h ((List.mem_cons.1 hx).resolve_left fun q=>e q.symm)
structure Mk (m m':M) (L L':List Int) (x k b A T:Int) (n:Nat):Prop where
 ut:UT m' L'
 old:∀ y,y∈L->y∈L'
 new:∀ y,y∈L'->y∈L\/∃ j:Nat,j<n/\y=T+4*j
 cold:∀ y,P15 y->(∀ j:Nat,j<n->y≠T+4*j)->(m'.gV y).cap=(m.gV y).cap
 cnew:∀ j:Nat,j<n->(m'.gV (T+4*j)).cap=frC k b (A+j*hszV k b)
 D:∀ y,y∈L->m'.D y=m.D y
 Dn:∀ j:Nat,j<n->m'.D (T+4*j)=m.D x+1/\T+4*j∈under m'.D L' x
 und:∀ y w,y∈L->w∈L->(y∈under m'.D L' w↔y∈under m.D L w)
 undn:∀ j:Nat,j<n->under m'.D L' (T+4*j)=[]
 undx:∀ (j:Nat) (w:Int),j<n->w∈L->T+4*j∈under m'.D L' w->w=x\/x∈under m.D L w
 at_:∀ j,3120<=j->m'.at j=if k=3/\A<=j/\j<A+n*64/\(j-A)%64=16 then 10240 else m.at j
 zr:n=0->L'=L/\m'=m
 hd:∀ j:Nat,n=j+1->(under m'.D L' x).headD 0=T+4*j
theorem UT.rtL {x k b:Int} (hk:knE k b 1=0):∀ (n:Nat) {m r:M} {L:List Int} {A T:Int},UT m L->r.w=m.w->x∈L->(m.gV x).cap.ty=1 ->
  (∀ j:Nat,j<n->P15 (T+4*j)/\T+4*j∉L)->(m.gV x).cap.obj<=A->A%hszV k b=0->A+n*hszV k b<=(m.gV x).cap.obj+(m.gV x).cap.mark ->
  (∀ y,y∈under m.D L x->(m.gV y).cap.obj+szN (m.gV y).cap<=A)->(∀ j,A<=j->j<A+n*hszV k b->m.at j=0) ->
  (Go.Proofs.YtcdfofeolgbnbaaGreat.rtL M.rlayX k b x n r A T).w=(Go.Proofs.YtcdfofeolgbnbaaGreat.rtL M.layX k b x n m A T).w/\∃ L',Mk m (Go.Proofs.YtcdfofeolgbnbaaGreat.rtL M.layX k b x n m A T) L L' x k b A T n
 | 0,m,r,L,A,T,U,hw,hx,h1,hT,lo,al,hi,hs,hz=>by
  refine ⟨hw,L,U,fun _ h=>h,fun _ h=>.inl h,fun _ _ _=>rfl,fun j h=>absurd h (by omega),fun _ _=>rfl,fun j h=>absurd h (by omega),fun _ _ _ _=>Iff.rfl,fun j h=>absurd h (by omega),fun j _ h=>absurd h (by omega),fun j hj=>?_,fun _=>⟨rfl,rfl⟩,fun j h=>absurd h (by omega)⟩
  rw [if_neg (by omega)]; rfl
 | n+1,m,r,L,A,T,U,hw,hx,h1,hT,lo,al,hi,hs,hz=>by
  have hp:=U.pc x hx h1
  have hpm:=(U.pcn h1).mark
  have hlen:=U.ui.len
  obtain ⟨hs1,hs2,_⟩:=kn_sz hk
  obtain ⟨s,hsv⟩:∃ s,hszV k b=s:=⟨_,rfl⟩
  have ens:((n+1:Nat):Int)*s=n*s+s:=by rw [Int.natCast_add,Int.add_mul,Int.natCast_one,Int.one_mul]
  have hns:0<=(n:Int)*s:=Int.mul_nonneg (by omega) (by omega)
  rw [hsv] at al hi hz hs1 hs2
  rw [ens] at hi hz
  simp only [Go.Proofs.YtcdfofeolgbnbaaGreat.rtL,hsv]
  obtain ⟨hT0,hT0L⟩:=hT 0 (by omega)
  rw [Int.natCast_zero,Int.mul_zero,Int.add_zero] at hT0 hT0L
  -- a thread's words
  obtain ⟨m1,hm1⟩:∃ q,rtK k m A=q:=⟨_,rfl⟩
  have K:UT m1 L/\(∀ y,P15 y->m1.gV y=m.gV y)/\(∀ j,0<=j->m1.at j=if k=3/\j=A+16 then 10240 else m.at j)/\(rtK k r A).w=m1.w:=by
   unfold rtK at hm1 ⊢
   by_cases c:k=3
   ·have e64:s=64:=by
     rw [<-hsv]
     subst c
     unfold hszV
     rw [if_neg (by omega),if_neg (by omega)]
     split
     ·rfl
     ·rename_i h
      unfold knE at hk
      rw [if_neg (by omega),if_neg (by omega),if_neg (by omega)] at hk
      split at hk
      ·rename_i hb; exact absurd ⟨by omega,by omega,hb⟩ h
      ·cases hk
    rw [if_pos c] at hm1 ⊢
    subst e64
    have hz64:∀ j,A<=j->j<A+64->m.at j=0:=fun j j1 j2=>hz j j1 (by omega)
    have hat:=fun j (hj:0<=j)=>thT_at (m:=m) (A:=A) (by omega) al (by omega) hz64 hj
    obtain ⟨q1,q2⟩:=U.touch (m':=m.thX A thT) (thX_len _ _ _) (fun j hj=>thT_neg (by omega) al (by omega) hz64 (by omega)) (fun y hy t1 j j1 j2=>by
     have py:=U.pc y hy t1
     have pm:=(U.pcn t1).mark
     have pl:=(U.pcn t1).lo
     have pxl:=(U.pcn h1).lo
     rw [hat j (by omega),if_neg]
     ·exact U.no y hy t1 j j1 j2
     ·intro hj
      by_cases e:y=x
      ·rw [e] at j1; omega
      ·by_cases u1:y∈under m.D L x
       ·have:=hs y u1; omega
       ·by_cases u2:x∈under m.D L y
        ·have:=U.bel y x hy t1 u2
         omega
        ·have:=U.apt x y hx hy (fun e2=>e e2.symm) u1 u2
         unfold aptP at this
         omega)
    rw [hm1] at q1 q2 hat
    exact ⟨q1,fun y hy=>(q2 y hy).2,fun j hj=>by
     rw [hat j hj]
     by_cases e:j=A+16
     ·rw [if_pos e,if_pos ⟨c,e⟩]
     ·rw [if_neg e,if_neg fun h=>e h.2],by rw [<-hm1]; exact thX_wc hw A thT⟩
   ·rw [if_neg c] at hm1 ⊢
    subst hm1
    exact ⟨U,fun _ _=>rfl,fun j _=>by rw [if_neg fun h=>c h.1],hw⟩
  obtain ⟨U1,hV1,hat1,hw1⟩:=K
  rw [hm1]
  have hP:=U.ui.sub x hx
  have ex:m1.gV x=m.gV x:=hV1 x hP
  have hD1:∀ y,y∈L->m1.D y=m.D y:=fun y hy=>by unfold M.D; rw [hV1 y (U.ui.sub y hy)]
  have hu1:∀ y,under m1.D L y=under m.D L y:=fun y=>under_congr hD1
  -- the cap
  have hc0:(frC k b A).ty≠0:=by
   have:=(kn_sz hk).2.2.2.2.2
   show k≠0
   omega
  have hrt:rightB (frC k b A)=true:=fr_right hk (by omega) (by omega) (by rw [hsv]; exact al)
  have hsz:szN (frC k b A)=s:=by rw [hsz_eq hk,hsv]
  have hr2:slotRB ⟨frC k b A,0,0,0⟩=true:=by
   have ht0:((frC k b A).ty==0)=false:=by simpa using hc0
   simp only [slotRB,ht0,Bool.false_and,Bool.not_false,hrt,Bool.true_and]
   rfl
  have eo:(frC k b A).obj=A:=rfl
  have em:(frC k b A).mark=0:=rfl
  have ety:(frC k b A).ty=k:=rfl
  obtain ⟨U2,hc2,⟨hDT,hD2⟩,hat2,hun,hnew⟩:=U1.lay (x:=x) (a:=T) (c:=frC k b A) hx (by rw [ex]; exact h1) hT0 hT0L hc0 hrt (by omega) (by rw [ex,eo]; exact lo) (by rw [ex,hsz,eo]; omega)
   (fun y hy=>by rw [hu1] at hy; rw [hV1 y (U.ui.sub y (under_sub hy).1),eo]; exact hs y hy)
   (fun hty=>⟨em,fun j j1 j2=>by
    rw [hsz] at j2
    rw [eo] at j1 j2
    rw [ety] at hty
    rw [hat1 j (by omega),if_neg (by omega)]
    exact hz j j1 (by omega)⟩)
  have hwL:=(U1.ui.lay hw1 (p:=x) (.inr hx) hT0 hT0L hc0 hr2).1
  obtain ⟨m2,hm2⟩:∃ q,m1.layX x T (frC k b A)=q:=⟨_,rfl⟩
  rw [hm2] at U2 hc2 hDT hD2 hat2 hun hnew hwL ⊢
  have hxT:x≠T:=fun e=>hT0L (e ▸ hx)
  have cx:(m2.gV x).cap=(m.gV x).cap:=by rw [hc2 x (U.ui.l0 hx),if_neg hxT,ex]
  have cL:∀ y,y∈L->(m2.gV y).cap=(m.gV y).cap:=fun y hy=>by
   rw [hc2 y (U.ui.l0 hy),if_neg (fun e:y=T=>hT0L (e ▸ hy)),hV1 y (U.ui.sub y hy)]
  obtain ⟨f1,L',F⟩:=UT.rtL hk n (m:=m2) (r:=(rtK k r A).rlayX x T (frC k b A)) (L:=insL x T L) (A:=A+s) (T:=T+4) U2 hwL (mem_insL hx) (by rw [cx]; exact h1)
   (fun j hj=>by
    obtain ⟨q1,q2⟩:=hT (j+1) (by omega)
    have e:T+4+4*(j:Int)=T+4*((j+1:Nat):Int):=by omega
    rw [e]
    refine ⟨q1,fun h=>?_⟩
    rcases insL_mem h with h|h
    ·omega
    ·exact q2 h)
   (by rw [cx]; omega) (by rw [hsv,Int.add_emod_right]; exact al) (by rw [cx,hsv]; omega)
   (fun y hy=>by
    rcases (hun y x hxT).1 hy with ⟨q1,q2⟩|⟨q1,_⟩
    ·rw [hu1] at q2
     rw [cL y (under_sub q2).1]
     have:=hs y q2
     omega
    ·rw [q1,hc2 T (U.ui.n0 hT0),if_pos rfl,hsz,eo]
     exact Int.le_refl _)
   (fun j j1 j2=>by
    rw [hsv] at j2
    rw [hat2 j (by omega),hat1 j (by omega),if_neg]
    ·exact hz j (by omega) (by omega)
    ·rintro ⟨c,e⟩
     have:s=64:=by
      rw [<-hsv]
      subst c
      unfold hszV
      rw [if_neg (by omega),if_neg (by omega)]
      split
      ·rfl
      ·rename_i h
       unfold knE at hk
       rw [if_neg (by omega),if_neg (by omega),if_neg (by omega)] at hk
       split at hk
       ·rename_i hb; exact absurd ⟨by omega,by omega,hb⟩ h
       ·cases hk
     omega)
  obtain ⟨m3,hm3⟩:∃ q,Go.Proofs.YtcdfofeolgbnbaaGreat.rtL M.layX k b x n m2 (A+s) (T+4)=q:=⟨_,rfl⟩
  rw [hm3] at f1 F ⊢
  have eT:∀ j:Nat,T+4+4*(j:Int)=T+4*((j+1:Nat):Int):=fun j=>by omega
  have hTn:∀ j:Nat,j<n->T≠T+4+4*(j:Int):=fun j _=>by omega
  have hTm:T∈insL x T L:=a_insL hx
  have hDx:m2.D x=m.D x:=by rw [hD2 x hx,hD1 x hx]
  have hDT2:m2.D T=m.D x+1:=by rw [hDT,hD1 x hx]
  refine ⟨f1,L',F.ut,fun y hy=>F.old y (mem_insL hy),fun y hy=>?_,fun y hP hy=>?_,fun j hj=>?_,fun y hy=>?_,fun j hj=>?_,fun y w hy hw'=>?_,fun j hj=>?_,fun j w hj hw' hy=>?_,fun j hj=>?_,fun h=>absurd h (by omega),fun j hj=>?_⟩
  ·rcases F.new y hy with h|⟨j,h,e⟩
   ·rcases insL_mem h with h|h
    ·exact .inr ⟨0,by omega,by rw [h]; omega⟩
    ·exact .inl h
   ·exact .inr ⟨j+1,by omega,by rw [e,eT]⟩
  ·have h0:=hy 0 (by omega)
   rw [Int.natCast_zero,Int.mul_zero,Int.add_zero] at h0
   rw [F.cold y hP (fun j hj=>by rw [eT]; exact hy (j+1) (by omega)),hc2 y (U.ui.n0 hP),if_neg h0,hV1 y hP]
  ·cases j with
   | zero =>
    rw [Int.natCast_zero,Int.mul_zero,Int.add_zero,Int.zero_mul,Int.add_zero,F.cold T hT0 hTn,hc2 T (U.ui.n0 hT0),if_pos rfl]
   | succ j =>
    have:=F.cnew j (by omega)
    rw [eT,hsv] at this
    rw [this,hsv]
    congr 1
    rw [Int.natCast_add,Int.add_mul,Int.natCast_one,Int.one_mul]
    omega
  ·rw [F.D y (mem_insL hy),hD2 y hy,hD1 y hy]
  ·cases j with
   | zero =>
    rw [Int.natCast_zero,Int.mul_zero,Int.add_zero]
    exact ⟨by rw [F.D T hTm,hDT2],(F.und T x hTm (mem_insL hx)).2 ((hun T x hxT).2 (.inr ⟨rfl, .inl rfl⟩))⟩
   | succ j =>
    have:=F.Dn j (by omega)
    rw [eT,hDx] at this
    exact this
  ·rw [F.und y w (mem_insL hy) (mem_insL hw'),hun y w fun e=>hT0L (e ▸ hw')]
   try rw [hu1]
   try rw [hu1]
   constructor
   ·rintro (⟨_,h⟩|⟨h,_⟩)
    ·exact h
    ·exact absurd hy (h ▸ hT0L)
   ·exact fun h=>.inl ⟨fun e=>hT0L (e ▸ hy),h⟩
  ·cases j with
   | zero =>
    rw [Int.natCast_zero,Int.mul_zero,Int.add_zero]
    refine List.eq_nil_iff_forall_not_mem.2 fun y hy=>?_
    rcases F.new y (under_sub hy).1 with h|⟨j,h,e⟩
    ·have:=(F.und y T h hTm).1 hy
     rw [hnew] at this
     cases this
    ·rw [e] at hy
     rcases F.undx j T h hTm hy with h|h
     ·exact hxT h.symm
     ·rw [hnew] at h
      cases h
   | succ j =>
    have:=F.undn j (by omega)
    rw [eT] at this
    exact this
  ·cases j with
   | zero =>
    rw [Int.natCast_zero,Int.mul_zero,Int.add_zero] at hy
    have hwT:w≠T:=fun e=>hT0L (e ▸ hw')
    have:=(F.und T w hTm (mem_insL hw')).1 hy
    rcases (hun T w hwT).1 this with ⟨h,_⟩|⟨_,h⟩
    ·exact absurd rfl h
    ·rw [hu1] at h; exact h
   | succ j =>
    rw [<-eT] at hy
    have hwT:w≠T:=fun e=>hT0L (e ▸ hw')
    rcases F.undx j w (by omega) (mem_insL hw') hy with h|h
    ·exact .inl h
    ·rcases (hun x w hwT).1 h with ⟨_,h⟩|⟨h,_⟩
     ·rw [hu1] at h; exact .inr h
     ·exact absurd h hxT
  ·rw [F.at_ j hj,hat2 j hj,hat1 j (by omega)]
   by_cases c:k=3
   ·simp only [c,true_and]
    have:s=64:=by
     rw [<-hsv]
     subst c
     unfold hszV
     rw [if_neg (by omega),if_neg (by omega)]
     split
     ·rfl
     ·rename_i h
      unfold knE at hk
      rw [if_neg (by omega),if_neg (by omega),if_neg (by omega)] at hk
      split at hk
      ·rename_i hb; exact absurd ⟨by omega,by omega,hb⟩ h
      ·cases hk
    subst this
    by_cases c1:A+64<=j/\j<A+64+n*64/\(j-(A+64))%64=16
    ·rw [if_pos c1,if_pos (by omega)]
    ·rw [if_neg c1]
     by_cases c2:j=A+16
     ·rw [if_pos c2,if_pos (by omega)]
     ·rw [if_neg c2,if_neg (by omega)]
   ·rw [if_neg fun h=>c h.1,if_neg fun h=>c h.1,if_neg fun h=>c h.1]
  ·cases n with
   | zero =>
    obtain ⟨e1,e2⟩:=F.zr rfl
    have:j=0:=by omega
    rw [this,Int.natCast_zero,Int.mul_zero,Int.add_zero,e1,e2]
    exact under_hd (by rw [hDT2,hDx]; omega) hx
   | succ n =>
    have:=F.hd n rfl
    rw [this,eT,show j=n+1 by omega]

structure NdOk (nd:Cap):Prop where
 r:rightB nd=true
 p:nd.ty=2->∀ j,0<=j->j<slotsN nd->P15 (nd.obj+4*j)
theorem askS_w:∀ (k:Nat) (m:M) (a:Int),(askS k m a).2.w=m.w
 | 0,m,a=>rfl
 | k+1,m,a=>by
  simp only [askS]
  split
  ·rw [askS_w k,gX_w]
  ·exact gX_w _ _
theorem askS_wc:∀ (k:Nat) {m r:M} (a:Int),r.w=m.w->(askS k r a).1=(askS k m a).1
 | 0,m,r,a,hw=>rfl
 | k+1,m,r,a,hw=>by
  simp only [askS,gV_w hw]
  split
  ·exact askS_wc k _ (by rw [gX_w,gX_w]; exact hw)
  ·rfl
theorem askS_0:∀ (k:Nat) {m:M} (a:Int),(askS k m a).1=0->∀ j:Nat,j<k->(m.gV (a+4*j)).cap.ty=0
 | 0,m,a,h,j,hj=>absurd hj (by omega)
 | k+1,m,a,h,j,hj=>by
  simp only [askS] at h
  split at h
  ·rename_i h0
   cases j with
   | zero=>rw [Int.natCast_zero,Int.mul_zero,Int.add_zero]; exact h0
   | succ j =>
    have:=askS_0 k (a+4) h j (by omega)
    rw [gV_w (gX_w _ _)] at this
    rw [show a+4*((j+1:Nat):Int)=a+4+4*(j:Int) by omega]
    exact this
  ·cases h
theorem askV_w (m:M) (c:Cap) (k b:Int) (nd:Cap) (i n:Int):(askV m c k b nd i n).2.w=m.w:=by
 unfold askV
 split
 ·split
  ·split
   ·exact askS_w _ _ _
   ·rfl
  ·rfl
 ·rfl
theorem askV_wc {m r:M} (hw:r.w=m.w) (c:Cap) (k b:Int) (nd:Cap) (i n:Int):(askV r c k b nd i n).1=(askV m c k b nd i n).1:=by
 unfold askV
 split
 ·split
  ·split
   ·exact askS_wc _ _ hw
   ·rfl
  ·rfl
 ·rfl
theorem askV_0 {m:M} {c:Cap} {k b:Int} {nd:Cap} {i n:Int} (h:(askV m c k b nd i n).1=0):∀ j:Nat,j<n.toNat->(m.gV (nd.obj+4*i+4*j)).cap.ty=0:=by
 obtain ⟨h1,h2,h3⟩:=ask_ok h
 unfold askV at h
 rw [if_pos h1,if_pos h2,if_pos h3] at h
 exact askS_0 _ _ h

structure Got (m m':M) (L L':List Int) (x k b A T:Int) (n:Nat):Prop where
 ut:UT m' L'
 old:∀ y,y∈L->y∈L'
 new:∀ y,y∈L'->y∈L\/∃ j:Nat,j<n/\y=T+4*j
 cx:(m'.gV x).cap=(m.gV x).cap.mk' (A+n*hszV k b-(m.gV x).cap.obj)
 cold:∀ y,P15 y->y≠x->(∀ j:Nat,j<n->y≠T+4*j)->(m'.gV y).cap=(m.gV y).cap
 cnew:∀ j:Nat,j<n->(m'.gV (T+4*j)).cap=frC k b (A+j*hszV k b)
 D:∀ y,y∈L->m'.D y=m.D y
 Dn:∀ j:Nat,j<n->m'.D (T+4*j)=m.D x+1/\T+4*j∈under m'.D L' x
 und:∀ y w,y∈L->w∈L->(y∈under m'.D L' w↔y∈under m.D L w)
 undn:∀ j:Nat,j<n->under m'.D L' (T+4*j)=[]
 undx:∀ (j:Nat) (w:Int),j<n->w∈L->T+4*j∈under m'.D L' w->w=x\/x∈under m.D L w
 at_:∀ j,A<=j->j<A+n*hszV k b->m'.at j=if k=3/\(j-A)%64=16 then 10240 else 0
 hd:∀ j:Nat,n=j+1->(under m'.D L' x).headD 0=T+4*j
 fit:(m.gV x).cap.obj+(m.gV x).cap.mark<=A/\A+n*hszV k b<=(m.gV x).cap.obj+szN (m.gV x).cap
theorem hsz3 {k b:Int} (hk:knE k b 1=0) (c:k=3):hszV k b=64:=by
 subst c
 unfold hszV
 rw [if_neg (by omega),if_neg (by omega)]
 split
 ·rfl
 ·rename_i h
  unfold knE at hk
  rw [if_neg (by omega),if_neg (by omega),if_neg (by omega)] at hk
  split at hk
  ·rename_i hb; exact absurd ⟨by omega,by omega,hb⟩ h
  ·cases hk
theorem fits_all {k b:Int}:∀ (n:Nat) (A T:Int),3124<=A->T+4*n<=3120+4->0<=hszV k b->rtF k b n A T=true
 | 0,_,_,_,_,_=>rfl
 | n+1,A,T,hA,hT,hs=>by
  have h1:fitB (frC k b A) T=true:=by
   have e:(frC k b A).obj=A:=rfl
   unfold fitB
   rw [e]
   have:T<A:=by omega
   simp only [this,decide_true,ite_self]
  simp only [rtF,h1,Bool.true_and]
  exact fits_all n _ _ (by omega) (by omega) hs
section
variable {m r:M} {L:List Int}
theorem UT.rtM (U:UT m L) (hw:r.w=m.w) {x k b i n:Int} {nd:Cap} (hx:x∈L) (h1:(m.gV x).cap.ty=1) (N:NdOk nd) (ht:nd.ty=2) (i0:0<=i) (i2:n<=slotsN nd-i) (hk:knE k b n=0)
  (he:∀ j:Nat,j<n.toNat->nd.obj+4*i+4*j∉L) :
  (Go.Proofs.YtcdfofeolgbnbaaGreat.rtM M.rlayX r x k b nd i n (m.gV x).cap).1.w=(Go.Proofs.YtcdfofeolgbnbaaGreat.rtM M.layX m x k b nd i n (m.gV x).cap).1.w/\(Go.Proofs.YtcdfofeolgbnbaaGreat.rtM M.rlayX r x k b nd i n (m.gV x).cap).2=(Go.Proofs.YtcdfofeolgbnbaaGreat.rtM M.layX m x k b nd i n (m.gV x).cap).2 /\
  (((Go.Proofs.YtcdfofeolgbnbaaGreat.rtM M.layX m x k b nd i n (m.gV x).cap).2≠0/\(Go.Proofs.YtcdfofeolgbnbaaGreat.rtM M.layX m x k b nd i n (m.gV x).cap).1=m/\(Go.Proofs.YtcdfofeolgbnbaaGreat.rtM M.layX m x k b nd i n (m.gV x).cap).2=(roV (m.gV x).cap k b n).2) \/
   ((Go.Proofs.YtcdfofeolgbnbaaGreat.rtM M.layX m x k b nd i n (m.gV x).cap).2=0/\∃ L',Got m (Go.Proofs.YtcdfofeolgbnbaaGreat.rtM M.layX m x k b nd i n (m.gV x).cap).1 L L' x k b (upV ((m.gV x).cap.obj+(m.gV x).cap.mark) (hszV k b)) (nd.obj+4*i) n.toNat)):=by
 have hk1:=kn_1 hk
 obtain ⟨s1,s2,_,n1,n2,_,_⟩:=kn_sz hk
 obtain ⟨_,o1,o2,N1,N2,_⟩:=node_b N.r ht
 have hpc:=U.pc x hx h1
 have hpn:=U.pcn h1
 have hpm:=hpn.mark
 have hpl:=hpn.lo
 have hen:(n.toNat:Int)=n:=by omega
 unfold Go.Proofs.YtcdfofeolgbnbaaGreat.rtM
 by_cases hR:(roV (m.gV x).cap k b n).2=0
 rotate_left
 ·rw [if_neg hR,if_neg hR]
  exact ⟨hw,rfl, .inl ⟨hR,rfl,rfl⟩⟩
 obtain ⟨_,_,e,hf⟩:=ro_ok hR
 obtain ⟨a1,a2,a3⟩:=up_is (x:=(m.gV x).cap.obj+(m.gV x).cap.mark) s1
 rw [e]
 obtain ⟨A,hA⟩:∃ A,upV ((m.gV x).cap.obj+(m.gV x).cap.mark) (hszV k b)=A:=⟨_,rfl⟩
 rw [hA] at a1 a2 a3 hf ⊢
 rw [<-hpn.sz] at hf
 have hns:0<=n*hszV k b:=Int.mul_nonneg (by omega) (by omega)
 have hF:rtF k b n.toNat A (nd.obj+4*i)=true:=by
  have:=N.p ht (slotsN nd-1) (by omega) (by omega)
  have:=P15_lt this
  exact fits_all _ _ _ (by omega) (by omega) (by omega)
 rw [if_pos hR,if_pos hR,hF,if_pos rfl,if_pos rfl]
 obtain ⟨Z,hZ⟩:∃ Z,A+n*hszV k b-(m.gV x).cap.obj=Z:=⟨_,rfl⟩
 obtain ⟨U1,hV1,hat1⟩:=U.mark hx h1 (z:=Z) (by omega) (by omega) (.inl (by omega))
 have hw1:(r.scX x ((m.gV x).cap.mk' Z)).w=(m.scX x ((m.gV x).cap.mk' Z)).w:=scX_wc hw _ _
 rw [hZ]
 obtain ⟨m1,hm1⟩:∃ q,m.scX x ((m.gV x).cap.mk' Z)=q:=⟨_,rfl⟩
 rw [hm1] at U1 hV1 hat1 hw1 ⊢
 have x0:=U.ui.l0 hx
 have cx:(m1.gV x).cap=(m.gV x).cap.mk' Z:=by rw [hV1 x x0,if_pos rfl]
 have cy:∀ y,y≠0->y≠x->m1.gV y=m.gV y:=fun y hy hyx=>by rw [hV1 y hy,if_neg hyx]
 have eo:(m1.gV x).cap.obj=(m.gV x).cap.obj:=by rw [cx]; rfl
 have es:∀ y,y∈L->szN (m1.gV y).cap=szN (m.gV y).cap/\(m1.gV y).cap.obj=(m.gV y).cap.obj:=fun y hy=>by
  by_cases c:y=x
  ·rw [c,cx]; exact ⟨rfl,rfl⟩
  ·rw [cy y (U.ui.l0 hy) c]; exact ⟨rfl,rfl⟩
 have hD1:∀ y,y∈L->m1.D y=m.D y:=fun y hy=>by
  unfold M.D
  rw [hV1 y (U.ui.l0 hy)]
  split
  ·rename_i e; rw [e]
  ·rfl
 have hu1:∀ y,under m1.D L y=under m.D L y:=fun y=>under_congr hD1
 obtain ⟨g1,L',G⟩:=UT.rtL hk1 n.toNat (m:=m1) (r:=r.scX x ((m.gV x).cap.mk' Z)) (L:=L) (A:=A) (T:=nd.obj+4*i) U1 hw1 hx (by rw [cx]; exact h1)
  (fun j hj=>⟨by rw [show nd.obj+4*i+4*(j:Int)=nd.obj+4*(i+j) by omega]; exact N.p ht _ (by omega) (by omega),he j hj⟩)
  (by rw [eo]; omega) a3 (by rw [eo,cx,hen]; show _<=_+Z; omega)
  (fun y hy=>by
   rw [hu1] at hy
   obtain ⟨q1,q2⟩:=es y (under_sub hy).1
   rw [q1,q2]
   have:=U.bel x y hx h1 hy
   omega)
  (fun j j1 j2=>by
   rw [hen] at j2
   rw [hat1 j (by omega)]
   exact U.no x hx h1 j (by omega) (by omega))
 refine ⟨g1,rfl, .inr ⟨rfl,L',G.ut,G.old,G.new, ?_,fun y hP hyx hy=>?_,G.cnew,fun y hy=>?_,fun j hj=>?_,fun y w hy hw'=>?_,G.undn,fun j w hj hw' hy=>?_,fun j j1 j2=>?_,G.hd,a1,by rw [hen]; exact by omega⟩⟩
 ·have hP:=U.ui.sub x hx
  rw [G.cold x hP (fun j hj e=>he j hj (e ▸ hx)),cx,hen,hZ]
 ·rw [G.cold y hP hy,cy y (U.ui.n0 hP) hyx]
 ·rw [G.D y hy,hD1 y hy]
 ·obtain ⟨q1,q2⟩:=G.Dn j hj
  exact ⟨by rw [q1,hD1 x hx],q2⟩
 ·rw [G.und y w hy hw',hu1]
 ·have:=G.undx j w hj hw' hy
  rwa [hu1] at this
 ·rw [hen] at j2
  rw [G.at_ j (by omega),hat1 j (by omega),U.no x hx h1 j (by omega) (by omega),hen]
  by_cases c:k=3
  ·have:=hsz3 hk1 c
   rw [this] at j2
   by_cases c2:(j-A)%64=16
   ·rw [if_pos ⟨c,j1,j2,c2⟩,if_pos ⟨c,c2⟩]
   ·rw [if_neg fun h=>c2 h.2.2.2,if_neg fun h=>c2 h.2]
  ·rw [if_neg fun h=>c h.1,if_neg fun h=>c h.1]
theorem UT.rt (U:UT m L) (hw:r.w=m.w) {x k b i n:Int} {nd:Cap} (hP:P15 x) (N:NdOk nd) (u:Option Int) :
  (rtV M.rlayX r x k b nd i n u).1.w=(rtV M.layX m x k b nd i n u).1.w/\(rtV M.rlayX r x k b nd i n u).2=(rtV M.layX m x k b nd i n u).2 /\
  (((rtV M.layX m x k b nd i n u).2.2≠0/\((rtV M.layX m x k b nd i n u).1.w=m.w\/(x∈L/\(m.gV x).cap.ty=1/\under m.D L x=[]/\∃ z,Rst m (rtV M.layX m x k b nd i n u).1 L x z))) \/
   ((rtV M.layX m x k b nd i n u).2.2=0/\x∈L/\(m.gV x).cap.ty=1/\knE k b n=0/\nd.ty=2/\0<=i/\n<=slotsN nd-i/\(∀ j:Nat,j<n.toNat->nd.obj+4*i+4*j∉L) /\
    ∃ m0 z L',Rst m m0 L x z/\(under m.D L x=[]->z=0)/\(under m.D L x≠[]->z=(m.gV x).cap.mark)/\0<=z/\z<=(m.gV x).cap.mark /\
     Got m0 (rtV M.layX m x k b nd i n u).1 L L' x k b (upV ((m.gV x).cap.obj+z) (hszV k b)) (nd.obj+4*i) n.toNat)):=by
 have wg:(r.gX x).w=(m.gX x).w:=by rw [gX_w,gX_w]; exact hw
 unfold rtV
 simp only
 rw [gV_w hw,askV_wc wg]
 obtain ⟨q,hq⟩:∃ q,askV (m.gX x) (m.gV x).cap k b nd i n=q:=⟨_,rfl⟩
 obtain ⟨q',hq'⟩:∃ q,askV (r.gX x) (m.gV x).cap k b nd i n=q:=⟨_,rfl⟩
 have w1:q.2.w=m.w:=by rw [<-hq,askV_w,gX_w]
 have w2:q'.2.w=m.w:=by rw [<-hq',askV_w,gX_w]; exact hw
 rw [hq,hq']
 by_cases h0:q.1=0
 rotate_left
 ·rw [if_neg h0,if_neg h0]
  exact ⟨w2.trans w1.symm,rfl, .inl ⟨h0, .inl w1⟩⟩
 rw [if_pos h0,if_pos h0]
 rw [<-hq] at h0
 obtain ⟨h1,hk,ht,i0,_,i2⟩:=ask_ok h0
 have hem:=askV_0 h0
 obtain ⟨_,_,_,n1,n2,_,_⟩:=kn_sz hk
 have hx:x∈L:=Decidable.not_not.1 fun h=>by have:=(U.ui.em hP).2 h; omega
 have he:∀ j:Nat,j<n.toNat->nd.obj+4*i+4*j∉L:=fun j hj=>by
  have hPj:P15 (nd.obj+4*i+4*j):=by
   rw [show nd.obj+4*i+4*(j:Int)=nd.obj+4*(i+j) by omega]
   exact N.p ht _ (by omega) (by omega)
  rw [<-U.ui.em hPj]
  have:=hem j hj
  rwa [gV_w (gX_w _ _)] at this
 have e1:q.2.nxV x=m.nxV x:=nxV_w w1 x
 have e2:q'.2.nxV x=m.nxV x:=nxV_w w2 x
 rw [e1,e2]
 have hnx:=U.ui.nx hP
 by_cases hz:m.nxV x=0
 ·rw [if_pos hz,if_pos hz]
  have hu:under m.D L x=[]:=by
   rw [hnx] at hz
   cases hh:under m.D L x with
   | nil=>rfl
   | cons y Y =>
    rw [hh] at hz
    have:y∈L:=(under_sub (D:=m.D) (x:=x) (by rw [hh]; exact List.mem_cons_self)).1
    exact absurd hz (U.ui.l0 this)
  have w3:(q.2.nxX x).w=m.w:=by rw [nxX_w]; exact w1
  have w4:(q'.2.nxX x).w=(q.2.nxX x).w:=by rw [w3,nxX_w]; exact w2
  have U3:=U.of_w w3
  obtain ⟨c1,c2⟩:=rstV_wc w4 x u
  have R:=U3.rst hP u
  rw [c2]
  obtain ⟨s,hs⟩:∃ s,rstV (q.2.nxX x) x u=s:=⟨_,rfl⟩
  obtain ⟨s',hs'⟩:∃ s,rstV (q'.2.nxX x) x u=s:=⟨_,rfl⟩
  rw [hs] at R c1 c2 ⊢
  rw [hs'] at c1 c2 ⊢
  by_cases hs0:s.2.2=0
  rotate_left
  ·rw [if_neg hs0,if_neg hs0]
   refine ⟨c1,c2, .inl ⟨hs0, ?_⟩⟩
   rcases R with ⟨_,R⟩|⟨_,_,_,z,_,_,R,_⟩
   ·exact .inl (R.trans w3)
   ·refine .inr ⟨hx,h1,hu,z,R.ut,fun y hy=>?_,fun j hj=>?_⟩
    ·rw [R.V y hy,gV_w w3,gV_w w3]
    ·rw [R.at_ j hj,gV_w w3,at_w w3]
  ·rw [if_pos hs0,if_pos hs0]
   rcases R with ⟨R,_⟩|⟨_,_,_,z,z0,z1,R,hz0,_⟩
   ·exact absurd hs0 R
   ·have hz0:=hz0 hs0
    subst hz0
    have hVx:=R.V x hP
    rw [if_pos rfl,gV_w w3] at hVx
    have w5:(s.1.gX x).w=s.1.w:=gX_w _ _
    have w6:(s'.1.gX x).w=(s.1.gX x).w:=by rw [gX_w,gX_w]; exact c1
    have ev:s'.1.gV x=s.1.gV x:=gV_w c1 x
    rw [ev]
    have U5:UT (s.1.gX x) L:=R.ut.of_w w5
    have e5:(s.1.gX x).gV x=s.1.gV x:=gV_w w5 x
    obtain ⟨f1,f2,f3⟩:=U5.rtM w6 (x:=x) (k:=k) (b:=b) (i:=i) (n:=n) (nd:=nd) hx (by rw [e5,hVx]; exact h1) N ht i0 i2 hk he
    rw [e5] at f1 f2 f3
    refine ⟨f1,by simp only; rw [f2], ?_⟩
    have R5:Rst m (s.1.gX x) L x 0:=⟨U5,fun y hy=>by rw [gV_w w5,R.V y hy,gV_w w3,gV_w w3],fun j hj=>by rw [at_w w5,R.at_ j hj,gV_w w3,at_w w3]⟩
    rcases f3 with ⟨g1,g2,_⟩|⟨g1,L',g2⟩
    ·exact .inl ⟨g1, .inr ⟨hx,h1,hu,0,by simp only; rw [g2]; exact R5⟩⟩
    ·refine .inr ⟨g1,hx,h1,hk,ht,i0,i2,he,s.1.gX x,0,L',R5,fun _=>rfl,fun h=>absurd hu h,Int.le_refl _,(U.pcn h1).mark.1, ?_⟩
     ·have ec:(s.1.gV x).cap=(m.gV x).cap.mk' 0:=by rw [hVx]
      rw [ec] at g2
      have:((m.gV x).cap.mk' 0).obj+((m.gV x).cap.mk' 0).mark=(m.gV x).cap.obj+0:=rfl
      rw [this] at g2
      rw [ec]
      exact g2
 ·rw [if_neg hz,if_neg hz]
  have hu:under m.D L x≠[]:=fun h=>hz (by rw [hnx,h]; rfl)
  have w3:(q.2.nxX x).w=m.w:=by rw [nxX_w]; exact w1
  have w4:(q'.2.nxX x).w=(q.2.nxX x).w:=by rw [w3,nxX_w]; exact w2
  have U3:=U.of_w w3
  have e3:(q.2.nxX x).gV x=m.gV x:=gV_w w3 x
  obtain ⟨f1,f2,f3⟩:=U3.rtM w4 (x:=x) (k:=k) (b:=b) (i:=i) (n:=n) (nd:=nd) hx (by rw [e3]; exact h1) N ht i0 i2 hk he
  rw [e3] at f1 f2 f3
  refine ⟨f1,by simp only; rw [f2], ?_⟩
  rcases f3 with ⟨g1,g2,_⟩|⟨g1,L',g2⟩
  ·exact .inl ⟨g1, .inl (by simp only; rw [g2]; exact w3)⟩
  ·exact .inr ⟨g1,hx,h1,hk,ht,i0,i2,he,q.2.nxX x,(m.gV x).cap.mark,L',Rst.same U w3,fun h=>absurd h hu,fun _=>rfl,(U.pcn h1).mark.1,Int.le_refl _,g2⟩
end
end Go.Proofs.YtcdfofeolgbnbaaGreat

