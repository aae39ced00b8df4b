/- Law 15: objects laid in a piece: what is there then; by both. -/
import Derived.Test.YtcdfofeolgbnbaaGreatZ27
/- Law 15: where objects lie: each in what it was made of,all others apart; noughts above the mark. -/
namespace Go.Proofs.YtcdfofeolgbnbaaGreat
open Go.D
set_option linter.all false
set_option maxRecDepth 100000
set_option maxHeartbeats 4000000

structure PcN (c:Cap):Prop where
 bits:4<=c.bits/\c.bits<=15
 sz:szN c=2^c.bits.toNat
 lo:16<=szN c/\szN c<=32768
 obj:1024<=c.obj/\c.obj<=65535
 al:c.obj%szN c=0
 mark:0<=c.mark/\c.mark<=szN c
 rest:c.guard=0/\c.gbits=0/\c.badge=0/\c.rights=0/\c.asid=0/\c.vaddr=0/\c.line=0
theorem pcn_of {c:Cap} (h:rightB c=true) (h1:c.ty=1):PcN c:=by
 have hs:szN c=uRaw c.bits:=by unfold szN; rw [if_pos h1]
 unfold rightB at h
 rw [if_neg (by omega),if_pos h1] at h
 split at h
 ·cases h
 rename_i n1
 split at h
 ·cases h
 rename_i n2
 simp only [not_or,Decidable.not_not] at n1
 obtain ⟨b1,b2⟩:=n1
 have hp:=uRaw_le b1
 have ho:1024<=c.obj/\c.obj<=65535/\c.obj.tmod (uRaw c.bits)=0:=by
  simp only [not_and,not_or,Decidable.not_not] at n2
  obtain ⟨q1,q2,q3⟩:=n2 (by omega)
  exact ⟨by omega,by omega,q3⟩
 rw [Int.tmod_eq_emod_of_nonneg (by omega)] at ho
 exact ⟨b1,by rw [hs,uRaw_eq b1],by rw [hs]; exact hp,⟨ho.1,ho.2.1⟩,by rw [hs]; exact ho.2.2,by rw [hs]; exact inV_iff.1 h,b2⟩
theorem pcn_right {c:Cap} (h:PcN c) (h1:c.ty=1) {z:Int} (h0:0<=z) (hz:z<=szN c):rightB (c.mk' z)=true:=by
 have hs:szN c=uRaw c.bits:=by unfold szN; rw [if_pos h1]
 obtain ⟨b1,_,lo,o1,al,_,rst⟩:=h
 rw [hs] at lo al hz
 unfold rightB Cap.mk'
 simp only
 rw [if_neg (by omega),if_pos h1,if_neg (by simp only [not_or,Decidable.not_not]; exact ⟨b1,rst⟩),if_neg]
 ·exact inV_iff.2 ⟨h0,hz⟩
 ·rintro ⟨_,h⟩
  rw [Int.tmod_eq_emod_of_nonneg (by omega)] at h
  omega
def aptP (c d:Cap):Prop:=szN c=0\/szN d=0\/c.obj+szN c<=d.obj\/d.obj+szN d<=c.obj\/(c.ty=2/\d.ty=2/\c.obj=d.obj)
theorem aptP.comm {c d:Cap} (h:aptP c d):aptP d c:=by
 unfold aptP at *
 omega
structure UT (m:M) (L:List Int):Prop where
 ui:UI m L
 pc:∀ x,x∈L->(m.gV x).cap.ty=1->3584<=(m.gV x).cap.obj/\(m.gV x).cap.obj+szN (m.gV x).cap<=5120
 no:∀ x,x∈L->(m.gV x).cap.ty=1->∀ j,(m.gV x).cap.obj+(m.gV x).cap.mark<=j->j<(m.gV x).cap.obj+szN (m.gV x).cap->m.at j=0
 bel:∀ x y,x∈L->(m.gV x).cap.ty=1->y∈under m.D L x->0<szN (m.gV y).cap/\(m.gV x).cap.obj<=(m.gV y).cap.obj/\(m.gV y).cap.obj+szN (m.gV y).cap<=(m.gV x).cap.obj+(m.gV x).cap.mark
 apt:∀ x y,x∈L->y∈L->x≠y->y∉under m.D L x->x∉under m.D L y->aptP (m.gV x).cap (m.gV y).cap
section
variable {m r:M} {L:List Int}
theorem UT.pcn (U:UT m L) {x:Int} (h1:(m.gV x).cap.ty=1):PcN (m.gV x).cap:=pcn_of (U.ui.right x) h1
theorem UT.of_w {m':M} (U:UT m L) (e:m'.w=m.w):UT m' L :=
 ⟨U.ui.of_w e,by rw [gV_fun e]; exact U.pc,by rw [gV_fun e]; simp only [at_w e]; exact U.no,by rw [gV_fun e,D_w e]; exact U.bel,by rw [gV_fun e,D_w e]; exact U.apt⟩
theorem UT.touch {m':M} (U:UT m L) (hl:m'.w.length=m.w.length) (hlow:∀ j,j<3584->m'.at j=m.at j) (hz:∀ x,x∈L->(m.gV x).cap.ty=1->∀ j,(m.gV x).cap.obj+(m.gV x).cap.mark<=j->j<(m.gV x).cap.obj+szN (m.gV x).cap->m'.at j=0) :
  UT m' L/\∀ x,P15 x->m'.gE x=m.gE x/\m'.gV x=m.gV x:=by
 obtain ⟨D,key⟩:=U.ui.touch hl (hlow 2 (by omega)) fun x hx k h0 h3=>hlow _ (by have:=P15_lt hx; omega)
 have hV:∀ x,x∈L->m'.gV x=m.gV x:=fun x hx=>(key x (U.ui.sub x hx)).2
 have hD:∀ x,x∈L->m'.D x=m.D x:=fun x hx=>by unfold M.D; rw [hV x hx]
 have hu:∀ x,under m'.D L x=under m.D L x:=fun x=>under_congr hD
 refine ⟨⟨D,fun x hx=>?_,fun x hx=>?_,fun x y hx=>?_,fun x y hx hy=>?_⟩,key⟩
 ·rw [hV x hx]; exact U.pc x hx
 ·rw [hV x hx]; exact hz x hx
 ·rw [hV x hx,hu]
  intro h1 h2
  rw [hV y (under_sub h2).1]
  exact U.bel x y hx h1 h2
 ·rw [hV x hx,hV y hy,hu,hu]
  exact U.apt x y hx hy
theorem zeroX_at {m:M} {x k:Int} (h:m.has x k=true) {j:Int} (hj:0<=j):(zeroX m x k).at j=if x<=j/\j<x+k then 0 else m.at j:=by
 obtain ⟨h1,h2,h3,h4⟩:=M.has_iff.1 h
 unfold zeroX
 rw [if_pos h,M.at_tick,M.fill_at _ _ _ _ _ (by omega)]
 by_cases c:x<=j/\j<x+k
 ·rw [if_pos c,if_pos (by omega)]; rfl
 ·rw [if_neg c,if_neg (by omega)]
theorem zeroX_len (m:M) (x k:Int):(zeroX m x k).w.length=m.w.length:=by
 unfold zeroX; split
 ·exact M.fill_len _ _ _ _
 ·rfl
theorem UT.zero (U:UT m L) {o k:Int} (h0:3584<=o) (hk:0<=k) (h1:o+k<=5120):UT (zeroX m o k) L/\(∀ x,P15 x->(zeroX m o k).gE x=m.gE x/\(zeroX m o k).gV x=m.gV x)/\∀ j,0<=j->(zeroX m o k).at j=if o<=j/\j<o+k then 0 else m.at j:=by
 have hl:=U.ui.len
 have hh:m.has o k=true:=M.has_iff.2 (by omega)
 have hat:=fun j (hj:0<=j)=>zeroX_at hh hj
 have hneg:∀ j:Int,j<0->(zeroX m o k).at j=m.at j:=fun j hj=>by
  have e:j.toNat=(0:Int).toNat:=by omega
  have q:=hat 0 (by omega)
  rw [if_neg (by omega)] at q
  simp only [M.at,e] at q ⊢
  exact q
 obtain ⟨a1,a2⟩:=U.touch (m':=zeroX m o k) (zeroX_len _ _ _) (fun j hj=>by
  by_cases h:j<0
  ·exact hneg j h
  ·rw [hat j (by omega),if_neg (by omega)]) (fun x hx h1 j h2 h3=>by
  have hp:=U.pcn h1
  have:=hp.mark; have:=hp.obj
  rw [hat j (by omega)]
  split
  ·rfl
  ·exact U.no x hx h1 j h2 h3)
 exact ⟨a1,a2,hat⟩
theorem UT.mark (U:UT m L) {x:Int} (hx:x∈L) (h1:(m.gV x).cap.ty=1) {z:Int} (z0:0<=z) (z1:z<=szN (m.gV x).cap)
  (hz:(m.gV x).cap.mark<=z\/(under m.D L x=[]/\∀ j,(m.gV x).cap.obj+z<=j->j<(m.gV x).cap.obj+(m.gV x).cap.mark->m.at j=0)) :
  UT (m.scX x ((m.gV x).cap.mk' z)) L/\(∀ y,y≠0->(m.scX x ((m.gV x).cap.mk' z)).gV y=if y=x then ⟨(m.gV x).cap.mk' z,(m.gV x).prev,(m.gV x).next,(m.gV x).depth⟩ else m.gV y)/\∀ j,3120<=j->(m.scX x ((m.gV x).cap.mk' z)).at j=m.at j:=by
 have hp:=U.pcn h1
 have hty:((m.gV x).cap.mk' z).ty≠0:=by show (m.gV x).cap.ty≠0; omega
 have hr:slotRB ⟨(m.gV x).cap.mk' z,(m.gV x).prev,(m.gV x).next,(m.gV x).depth⟩=true:=by
  obtain ⟨_,hk⟩:True/\slotRB (m.gV x)=true:=⟨trivial,m.gV_u x⟩
  have q:=pcn_right hp h1 z0 z1
  have ht0:(((m.gV x).cap.mk' z).ty==0)=false:=by simpa using hty
  unfold slotRB at hk ⊢
  simp only [Bool.and_eq_true] at hk
  simp only [ht0,Bool.false_and,Bool.not_false,q,Bool.true_and,hk.2.2]
 obtain ⟨D,T⟩:=U.ui.scX hx hty hr
 have hat:=fun j (hj:3120<=j)=>U.ui.scX_at hx hty hr hj
 obtain ⟨m',hm⟩:∃ q,m.scX x ((m.gV x).cap.mk' z)=q:=⟨_,rfl⟩
 rw [hm] at D T hat ⊢
 have hV:∀ y,y≠0->m'.gV y=if y=x then ⟨(m.gV x).cap.mk' z,(m.gV x).prev,(m.gV x).next,(m.gV x).depth⟩ else m.gV y:=T.V
 have hc:∀ y,y∈L->(m'.gV y).cap=if y=x then (m.gV x).cap.mk' z else (m.gV y).cap:=fun y hy=>by
  rw [hV y (U.ui.l0 hy)]; split<;>rfl
 have hty2:∀ y,y∈L->(m'.gV y).cap.ty=(m.gV y).cap.ty:=fun y hy=>by
  rw [hc y hy]; split
  ·rename_i e; rw [e]; rfl
  ·rfl
 have ho:∀ y,y∈L->(m'.gV y).cap.obj=(m.gV y).cap.obj:=fun y hy=>by
  rw [hc y hy]; split
  ·rename_i e; rw [e]; rfl
  ·rfl
 have hs:∀ y,y∈L->szN (m'.gV y).cap=szN (m.gV y).cap:=fun y hy=>by
  rw [hc y hy]; split
  ·rename_i e; rw [e]; rfl
  ·rfl
 have hmk:∀ y,y∈L->(m'.gV y).cap.mark=if y=x then z else (m.gV y).cap.mark:=fun y hy=>by
  rw [hc y hy]; split<;>rfl
 have hD:∀ y,y∈L->m'.D y=m.D y:=fun y hy=>by
  unfold M.D
  rw [hV y (U.ui.l0 hy)]
  split
  ·rename_i e; rw [e]
  ·rfl
 have hu:∀ y,under m'.D L y=under m.D L y:=fun y=>under_congr hD
 refine ⟨⟨D,fun y hy=>?_,fun y hy=>?_,fun y w hy=>?_,fun y w hy hw=>?_⟩,hV,hat⟩
 ·rw [hty2 y hy,ho y hy,hs y hy]; exact U.pc y hy
 ·rw [hty2 y hy,ho y hy,hs y hy,hmk y hy]
  intro t1 j
  have hpy:=(U.pc y hy t1).1
  by_cases e:y=x
  ·subst e
   rw [if_pos rfl]
   intro j1 j2
   rw [hat j (by omega)]
   rcases hz with h|⟨_,h⟩
   ·exact U.no y hy t1 j (by omega) j2
   ·by_cases c:j<(m.gV y).cap.obj+(m.gV y).cap.mark
    ·exact h j j1 c
    ·exact U.no y hy t1 j (by omega) j2
  ·rw [if_neg e]
   intro j1 j2
   have:=(U.pcn t1).mark
   rw [hat j (by omega)]
   exact U.no y hy t1 j j1 j2
 ·rw [hty2 y hy,hu]
  intro t1 hw
  have hwL:=(under_sub hw).1
  rw [ho y hy,ho w hwL,hs w hwL,hmk y hy]
  have q:=U.bel y w hy t1 hw
  by_cases e:y=x
  ·rw [if_pos e]
   rcases hz with h|⟨h,_⟩
   ·rw [e] at q ⊢
    exact ⟨q.1,q.2.1,by omega⟩
   ·rw [e,h] at hw; cases hw
  ·rw [if_neg e]; exact q
 ·rw [hu,hu]
  intro hne n1 n2
  have:=U.apt y w hy hw hne n1 n2
  unfold aptP at this ⊢
  rw [hs y hy,hs w hw,ho y hy,ho w hw,hty2 y hy,hty2 w hw]
  exact this
theorem UT.lay (U:UT m L) {x a:Int} (hx:x∈L) (h1:(m.gV x).cap.ty=1) (haP:P15 a) (haL:a∉L) {c:Cap} (hc:c.ty≠0) (hr:rightB c=true) (cs:0<szN c) (lo:(m.gV x).cap.obj<=c.obj) (hi:c.obj+szN c<=(m.gV x).cap.obj+(m.gV x).cap.mark)
  (hs:∀ y,y∈under m.D L x->(m.gV y).cap.obj+szN (m.gV y).cap<=c.obj) (hz:c.ty=1->c.mark=0/\∀ j,c.obj<=j->j<c.obj+szN c->m.at j=0) :
  UT (m.layX x a c) (insL x a L)/\(∀ y,y≠0->((m.layX x a c).gV y).cap=if y=a then c else (m.gV y).cap)/\((m.layX x a c).D a=m.D x+1/\∀ y,y∈L->(m.layX x a c).D y=m.D y)/\(∀ j,3120<=j->(m.layX x a c).at j=m.at j) /\
  (∀ y w,w≠a->(y∈under (m.layX x a c).D (insL x a L) w↔(y≠a/\y∈under m.D L w)\/(y=a/\(w=x\/x∈under m.D L w))))/\under (m.layX x a c).D (insL x a L) a=[]:=by
 have x0:=U.ui.l0 hx
 have a0:=U.ui.n0 haP
 have hxa:x≠a:=fun e=>haL (e ▸ hx)
 have hr2:slotRB ⟨c,0,0,0⟩=true:=by
  have ht0:(c.ty==0)=false:=by simpa using hc
  simp only [slotRB,ht0,Bool.false_and,Bool.not_false,hr,Bool.true_and]
  rfl
 obtain ⟨_,D,_,_,hV,_⟩:=U.ui.lay (r:=m) rfl (p:=x) (.inr hx) haP haL hc hr2
 have hat:=fun j (hj:3120<=j)=>U.ui.lay_at (p:=x) (.inr hx) haP haL hc hr2 hj
 have eL:insLL x a L=insL x a L:=if_neg x0
 rw [eL] at D
 obtain ⟨m',hm⟩:∃ q,m.layX x a c=q:=⟨_,rfl⟩
 rw [hm] at D hV hat ⊢
 have hcap:∀ y,y≠0->(m'.gV y).cap=if y=a then c else (m.gV y).cap:=fun y hy=>by
  rw [hV y hy,jnV_cap]; split<;>rfl
 have hdep:∀ y,y≠0->m'.D y=if y=a then m.D x+1 else m.D y:=fun y hy=>by
  unfold M.D
  rw [hV y hy,jnV_depth]
  by_cases e:y=a
  ·simp only [if_pos e,if_neg x0]
  ·simp only [if_neg e]
 have hDa:m'.D a=m.D x+1:=by rw [hdep a a0,if_pos rfl]
 have hDL:∀ y,y∈L->m'.D y=m.D y:=fun y hy=>by rw [hdep y (U.ui.l0 hy),if_neg (fun e:y=a=>haL (e ▸ hy))]
 have hun:∀ y w,w≠a->(y∈under m'.D (insL x a L) w↔(y≠a/\y∈under m.D L w)\/(y=a/\(w=x\/x∈under m.D L w))):=fun y w hw=>by
  rw [under_ins hDa hw U.ui.inv.nd haL hDL]
  refine or_congr Iff.rfl (and_congr Iff.rfl (or_congr ⟨And.left,fun e=>⟨e,hx⟩⟩ Iff.rfl))
 have hnew:under m'.D (insL x a L) a=[]:=under_new hDa haL hDL U.ui.dep
 have hmem:∀ y,y∈insL x a L->y=a\/y∈L:=fun y hy=>insL_mem hy
 have hcL:∀ y,y∈L->(m'.gV y).cap=(m.gV y).cap:=fun y hy=>by rw [hcap y (U.ui.l0 hy),if_neg (fun e:y=a=>haL (e ▸ hy))]
 have hca:(m'.gV a).cap=c:=by rw [hcap a a0,if_pos rfl]
 have hpx:=U.pc x hx h1
 have hpm:=(U.pcn h1).mark
 have hps:=(U.pcn h1).lo
 -- those that are no part of the piece's way
 have far:∀ y,y∈L->y≠x->x∉under m.D L y->aptP c (m.gV y).cap:=fun y hy hyx hn=>by
  by_cases hyu:y∈under m.D L x
  ·have q1:=U.bel x y hx h1 hyu
   have q2:=hs y hyu
   unfold aptP; omega
  ·have:=U.apt x y hx hy (Ne.symm hyx) hyu hn
   unfold aptP at this ⊢
   omega
 refine ⟨⟨D,fun y hy=>?_,fun y hy=>?_,fun y w hy=>?_,fun y w hy hw=>?_⟩,hcap,⟨hDa,hDL⟩,hat,hun,hnew⟩
 ·rcases hmem y hy with e|h
  ·rw [e,hca]
   intro _
   omega
  ·rw [hcL y h]; exact U.pc y h
 ·rcases hmem y hy with e|h
  ·rw [e,hca]
   intro t1 j j1 j2
   obtain ⟨k1,k2⟩:=hz t1
   rw [hat j (by omega)]
   exact k2 j (by omega) j2
  ·rw [hcL y h]
   intro t1 j j1 j2
   have:=(U.pcn t1).mark
   have:=U.pc y h t1
   rw [hat j (by omega)]
   exact U.no y h t1 j j1 j2
 ·rcases hmem y hy with e|h
  ·intro _ hw
   rw [e,hnew] at hw
   cases hw
  ·have hya:y≠a:=fun e=>haL (e ▸ h)
   rw [hcL y h]
   intro t1 hw
   rcases (hun w y hya).1 hw with ⟨q1,q2⟩|⟨q1,q2⟩
   ·rw [hcL w (under_sub q2).1]
    exact U.bel y w h t1 q2
   ·rw [q1,hca]
    rcases q2 with q2|q2
    ·rw [q2]; exact ⟨cs,lo,hi⟩
    ·have:=U.bel y x h t1 q2
     omega
 ·intro hne n1 n2
  rcases hmem y hy with e|h
  ·rcases hmem w hw with e2|h2
   ·exact absurd (e.trans e2.symm) hne
   ·have hwa:w≠a:=fun e=>haL (e ▸ h2)
    rw [e,hca,hcL w h2]
    rw [e] at n2
    have k:¬ (w=x\/x∈under m.D L w):=fun q=>n2 ((hun a w hwa).2 (.inr ⟨rfl,q⟩))
    simp only [not_or] at k
    exact far w h2 k.1 k.2
  ·have hya:y≠a:=fun e=>haL (e ▸ h)
   rcases hmem w hw with e2|h2
   ·rw [e2,hca,hcL y h]
    rw [e2] at n1
    have k:¬ (y=x\/x∈under m.D L y):=fun q=>n1 ((hun a y hya).2 (.inr ⟨rfl,q⟩))
    simp only [not_or] at k
    exact (far y h k.1 k.2).comm
   ·have hwa:w≠a:=fun e=>haL (e ▸ h2)
    rw [hcL y h,hcL w h2]
    exact U.apt y w h h2 hne (fun q=>n1 ((hun w y hya).2 (.inl ⟨hwa,q⟩))) (fun q=>n2 ((hun y w hwa).2 (.inl ⟨hya,q⟩)))
end

/-! ### the same words of the same words -/
section
variable {m r:M} (hw:r.w=m.w)
include hw
theorem put_wc (i:Nat) (x:Int):(r.put i x).w=(m.put i x).w:=by
 show r.w.set i (uw x)=m.w.set i (uw x)
 rw [hw]
theorem has_wc (a k:Int):r.has a k=m.has a k:=by simp only [M.has,hw]
theorem fill_wc (a:Nat) (x:Int):∀ k,(r.fill a x k).w=(m.fill a x k).w
 | 0=>hw
 | k+1=>put_wc (fill_wc a x k) _ _
theorem zeroX_wc (a k:Int):(zeroX r a k).w=(zeroX m a k).w:=by
 unfold zeroX
 rw [has_wc hw]
 split
 ·exact fill_wc hw _ _ _
 ·exact hw
theorem putS_wc (a:Int) (s:Slot):(r.putS a s).w=(m.putS a s).w:=put_wc (put_wc (put_wc (put_wc hw _ _) _ _) _ _) _ _
theorem pX_wc (a:Int) (s:Slot):(r.pX a s).w=(m.pX a s).w:=by
 unfold M.pX
 rw [there_w hw]
 split
 ·exact putS_wc hw _ _
 ·exact hw
theorem scX_wc (a:Int) (c:Cap):(r.scX a c).w=(m.scX a c).w:=by
 unfold M.scX
 rw [gV_w hw]
 exact pX_wc (by rw [gX_w,gX_w]; exact hw) _ _
theorem wrs_wc (o:Nat) (ws:List Int):∀ k,(r.wrs o ws k).w=(m.wrs o ws k).w
 | 0=>hw
 | k+1=>put_wc (wrs_wc o ws k) _ _
theorem thX_wc (x:Int) (t:Th):(r.thX x t).w=(m.thX x t).w:=by
 unfold M.thX
 have:otB r x 64=otB m x 64:=by simp only [otB,hw]
 rw [this]
 split
 ·exact wrs_wc (wrs_wc hw _ _ _) _ _ _
 ·exact hw
theorem rsS_wc (x:Int) (c:Cap):(rsS x r c).w=(rsS x m c).w:=scX_wc (zeroX_wc hw _ _) _ _
end
theorem rsW_wc (x:Int):∀ (k:Nat) {m r:M} (c:Cap) (u:Option Int),r.w=m.w->(rsW x k r c u).1.w=(rsW x k m c u).1.w/\(rsW x k r c u).2=(rsW x k m c u).2
 | 0,m,r,c,u,hw=>⟨hw,rfl⟩
 | k+1,m,r,c,u,hw=>by
  simp only [rsW]
  split
  ·exact ⟨hw,rfl⟩
  ·cases u with
   | none=>exact rsW_wc x k _ none (rsS_wc hw x c)
   | some v =>
    simp only
    split
    ·exact ⟨hw,rfl⟩
    ·exact rsW_wc x k _ _ (rsS_wc hw x c)
theorem rstV_wc {m r:M} (hw:r.w=m.w) (x:Int) (u:Option Int):(rstV r x u).1.w=(rstV m x u).1.w/\(rstV r x u).2=(rstV m x u).2:=by
 unfold rstV
 have e1:(r.gX x).nxV x=(m.gX x).nxV x:=nxV_w (by rw [gX_w,gX_w]; exact hw) x
 rw [gV_w hw,e1]
 split
 ·split
  ·exact rsW_wc x _ _ _ (by rw [nxX_w,nxX_w,gX_w,gX_w]; exact hw)
  ·exact ⟨by simp only [nxX_w,gX_w]; exact hw,rfl⟩
 ·exact ⟨by simp only [gX_w]; exact hw,rfl⟩

structure Rst (m m':M) (L:List Int) (x z:Int):Prop where
 ut:UT m' L
 V:∀ y,P15 y->m'.gV y=if y=x then ⟨(m.gV x).cap.mk' z,(m.gV x).prev,(m.gV x).next,(m.gV x).depth⟩ else m.gV y
 at_:∀ j,3120<=j->m'.at j=if (m.gV x).cap.obj+z<=j/\j<(m.gV x).cap.obj+(m.gV x).cap.mark then 0 else m.at j
theorem Rst.D {m m':M} {L:List Int} {x z:Int} (R:Rst m m' L x z) {y:Int} (hy:y∈L):m'.D y=m.D y:=by
 unfold M.D
 rw [R.V y (R.ut.ui.sub y hy)]
 split
 ·rename_i e; rw [e]
 ·rfl
theorem Rst.same {m m':M} {L:List Int} {x:Int} (U:UT m L) (e:m'.w=m.w):Rst m m' L x (m.gV x).cap.mark :=
 ⟨U.of_w e,fun y hy=>by
  rw [gV_w e]
  split
  ·rename_i e; rw [e]; rfl
  ·rfl,fun j hj=>by rw [at_w e,if_neg (by omega)]⟩
theorem Rst.trans {m m1 m2:M} {L:List Int} {x z1 z2:Int} (hx:x∈L) (R1:Rst m m1 L x z1) (R2:Rst m1 m2 L x z2) (h1:z2<=z1) (h2:z1<=(m.gV x).cap.mark):Rst m m2 L x z2:=by
 have e:=R1.V x (R1.ut.ui.sub x hx)
 rw [if_pos rfl] at e
 refine ⟨R2.ut,fun y hy=>?_,fun j hj=>?_⟩
 ·rw [R2.V y hy]
  by_cases c:y=x
  ·rw [if_pos c,if_pos c,e]; rfl
  ·rw [if_neg c,if_neg c,R1.V y hy,if_neg c]
 ·rw [R2.at_ j hj,e,R1.at_ j hj]
  show (if (m.gV x).cap.obj+z2<=j/\j<(m.gV x).cap.obj+z1 then 0 else _)=_
  by_cases c1:(m.gV x).cap.obj+z2<=j/\j<(m.gV x).cap.obj+z1
  ·rw [if_pos c1,if_pos (by omega)]
  ·rw [if_neg c1]
   by_cases c2:(m.gV x).cap.obj+z1<=j/\j<(m.gV x).cap.obj+(m.gV x).cap.mark
   ·rw [if_pos c2,if_pos (by omega)]
   ·rw [if_neg c2,if_neg (by omega)]
section
variable {m:M} {L:List Int}
theorem UT.rsS (U:UT m L) {x:Int} (hx:x∈L) (h1:(m.gV x).cap.ty=1) (hu:under m.D L x=[]) (h0:0<(m.gV x).cap.mark):Rst m (rsS x m (m.gV x).cap) L x (((m.gV x).cap.mark-1)/64*64):=by
 have hp:=U.pcn h1
 have hpc:=U.pc x hx h1
 have hmk:=hp.mark
 obtain ⟨z,hz⟩:∃ z,((m.gV x).cap.mark-1)/64*64=z:=⟨_,rfl⟩
 have z0:0<=z/\z<(m.gV x).cap.mark:=by omega
 have eN:rsN (m.gV x).cap=(m.gV x).cap.mk' z:=by unfold rsN Cap.mk'; rw [hz]
 unfold Go.Proofs.YtcdfofeolgbnbaaGreat.rsS
 rw [hz,eN]
 obtain ⟨U1,key,hat⟩:=U.zero (o:=(m.gV x).cap.obj+z) (k:=(m.gV x).cap.mark-z) (by omega) (by omega) (by omega)
 obtain ⟨m1,hm1⟩:∃ q,zeroX m ((m.gV x).cap.obj+z) ((m.gV x).cap.mark-z)=q:=⟨_,rfl⟩
 rw [hm1] at U1 key hat ⊢
 have hP:=U.ui.sub x hx
 have e:m1.gV x=m.gV x:=(key x hP).2
 have hu1:under m1.D L x=[]:=by
  rw [under_congr (fun y hy=>by unfold M.D; rw [(key y (U.ui.sub y hy)).2])]; exact hu
 rw [<-e] at h1 z0 hpc hmk ⊢
 obtain ⟨k1,k2,k3⟩:=U1.mark hx h1 (z:=z) (by omega) (by omega) (.inr ⟨hu1,fun j j1 j2=>by
  rw [hat j (by omega),<-e,if_pos (by omega)]⟩)
 refine ⟨k1,fun y hy=>?_,fun j hj=>?_⟩
 ·rw [k2 y (U.ui.n0 hy),e]
  by_cases c:y=x
  ·rw [if_pos c,if_pos c]
  ·rw [if_neg c,if_neg c]
   exact (key y hy).2
 ·rw [k3 j hj,hat j (by omega)]
  first|rw [e]|skip
  by_cases c:(m.gV x).cap.obj+z<=j/\j<(m.gV x).cap.obj+(m.gV x).cap.mark
  ·rw [if_pos (by omega),if_pos c]
  ·rw [if_neg (by omega),if_neg c]
theorem UT.rsW {x:Int} (hP:P15 x):∀ (k:Nat) {m:M} (u:Option Int),UT m L->x∈L->(m.gV x).cap.ty=1->under m.D L x=[]->(m.gV x).cap.mark<=k ->
  ∃ z,0<=z/\z<=(m.gV x).cap.mark/\Rst m (rsW x k m (m.gV x).cap u).1 L x z/\((rsW x k m (m.gV x).cap u).2.2=0->z=0)/\(u=none->(rsW x k m (m.gV x).cap u).2.2=0)
 | 0,m,u,U,hx,h1,hu,hk=>by
  have:=(U.pcn h1).mark
  exact ⟨(m.gV x).cap.mark,by omega,Int.le_refl _,Rst.same U rfl,fun _=>by omega,fun _=>rfl⟩
 | k+1,m,u,U,hx,h1,hu,hk=>by
  have hm:=(U.pcn h1).mark
  simp only [Go.Proofs.YtcdfofeolgbnbaaGreat.rsW]
  by_cases h0:(m.gV x).cap.mark<=0
  ·rw [if_pos h0]
   exact ⟨(m.gV x).cap.mark,by omega,Int.le_refl _,Rst.same U rfl,fun _=>by omega,fun _=>rfl⟩
  ·rw [if_neg h0]
   have R:=U.rsS hx h1 hu (by omega)
   have e:=R.V x hP
   rw [if_pos rfl] at e
   have ec:((Go.Proofs.YtcdfofeolgbnbaaGreat.rsS x m (m.gV x).cap).gV x).cap=rsN (m.gV x).cap:=by rw [e]; rfl
   have em:(rsN (m.gV x).cap).mark=((m.gV x).cap.mark-1)/64*64:=rfl
   have key:=fun u'=>UT.rsW hP k u' R.ut hx (by rw [ec]; exact h1) (by rw [under_congr fun y hy=>R.D hy]; exact hu) (by rw [ec,em]; omega)
   rw [ec,em] at key
   have fin:∀ u',∃ z,0<=z/\z<=(m.gV x).cap.mark/\Rst m (Go.Proofs.YtcdfofeolgbnbaaGreat.rsW x k (Go.Proofs.YtcdfofeolgbnbaaGreat.rsS x m (m.gV x).cap) (rsN (m.gV x).cap) u').1 L x z/\((Go.Proofs.YtcdfofeolgbnbaaGreat.rsW x k (Go.Proofs.YtcdfofeolgbnbaaGreat.rsS x m (m.gV x).cap) (rsN (m.gV x).cap) u').2.2=0->z=0)/\(u'=none->(Go.Proofs.YtcdfofeolgbnbaaGreat.rsW x k (Go.Proofs.YtcdfofeolgbnbaaGreat.rsS x m (m.gV x).cap) (rsN (m.gV x).cap) u').2.2=0):=fun u'=>by
    obtain ⟨z,q1,q2,q3,q4,q5⟩:=key u'
    exact ⟨z,q1,by omega,R.trans hx q3 q2 (by omega),q4,q5⟩
   cases u with
   | none=>exact fin none
   | some v =>
    simp only
    split
    ·exact ⟨(m.gV x).cap.mark,by omega,Int.le_refl _,Rst.same U rfl,fun h=>absurd (show (3:Int)=0 from h) (by decide),fun h=>absurd h (by simp)⟩
    ·obtain ⟨z,q1,q2,q3,q4,_⟩:=fin (some (v-1))
     exact ⟨z,q1,q2,q3,q4,fun h=>absurd h (by simp)⟩
theorem UT.rst (U:UT m L) {x:Int} (hP:P15 x) (u:Option Int) :
  ((rstV m x u).2.2≠0/\(rstV m x u).1.w=m.w)\/(x∈L/\(m.gV x).cap.ty=1/\under m.D L x=[]/\∃ z,0<=z/\z<=(m.gV x).cap.mark/\Rst m (rstV m x u).1 L x z/\((rstV m x u).2.2=0->z=0)/\(u=none->(rstV m x u).2.2=0)):=by
 unfold rstV
 by_cases h1:(m.gV x).cap.ty=1
 ·rw [if_pos h1]
  have hx:x∈L:=Decidable.not_not.1 fun h=>by have:=(U.ui.em hP).2 h; omega
  have e0:(m.gX x).nxV x=m.nxV x:=nxV_w (gX_w _ _) x
  by_cases h2:(m.gX x).nxV x=0
  ·rw [if_pos h2]
   have hu:under m.D L x=[]:=by
    rw [e0,U.ui.nx hP] at h2
    cases hh:under m.D L x with
    | nil=>rfl
    | cons y Y =>
     rw [hh] at h2
     have:y∈L:=(under_sub (D:=m.D) (x:=x) (by rw [hh]; exact List.mem_cons_self)).1
     exact absurd h2 (U.ui.l0 this)
   have ew:((m.gX x).nxX x).w=m.w:=by rw [nxX_w,gX_w]
   have U':=U.of_w ew
   obtain ⟨z,q1,q2,q3,q4,q5⟩:=UT.rsW hP (m.gV x).cap.mark.toNat (m:=(m.gX x).nxX x) u U' hx (by rw [gV_w ew]; exact h1) (by rw [D_w ew]; exact hu) (by rw [gV_w ew]; omega)
   rw [gV_w ew] at q2 q3 q4 q5
   refine .inr ⟨hx,h1,hu,z,q1,q2,⟨q3.ut,fun y hy=>?_,fun j hj=>?_⟩,q4,q5⟩
   ·rw [q3.V y hy,gV_w ew,gV_w ew]
   ·rw [q3.at_ j hj,gV_w ew,at_w ew]
  ·rw [if_neg h2]
   exact .inl ⟨show (152:Int)≠0 by decide,by rw [nxX_w,gX_w]⟩
 ·rw [if_neg h1]
  exact .inl ⟨show (60:Int)≠0 by decide,gX_w _ _⟩
end

/-! ### new objects -/
theorem kn_1 {k b n:Int} (h:knE k b n=0):knE k b 1=0:=by
 unfold knE at h ⊢
 split at h
 ·cases h
 ·rename_i h0
  rw [if_neg (by omega)]
  exact h
theorem hsz_eq {k b:Int} (h:knE k b 1=0) (a:Int):szN (frC k b a)=hszV k b:=by
 have e:szN (frC k b a)=szN (frC k b 0):=rfl
 rw [e]
 clear e
 unfold knE at h
 split at h
 ·cases h
 rename_i h0
 have hk:k=1\/k=2\/k=3\/k=4\/k=5\/k=6\/k=7\/k=8:=by omega
 rcases hk with rfl|rfl|rfl|rfl|rfl|rfl|rfl|rfl
 ·rw [if_pos rfl] at h
  split at h
  ·rename_i hb
   have:b=4\/b=5\/b=6\/b=7\/b=8\/b=9\/b=10\/b=11\/b=12\/b=13\/b=14\/b=15:=by omega
   rcases this with rfl|rfl|rfl|rfl|rfl|rfl|rfl|rfl|rfl|rfl|rfl|rfl<;>decide
  ·cases h
 ·rw [if_neg (by decide),if_pos rfl] at h
  split at h
  ·rename_i hb
   have:b=1\/b=2\/b=3\/b=4\/b=5\/b=6\/b=7\/b=8:=by omega
   rcases this with rfl|rfl|rfl|rfl|rfl|rfl|rfl|rfl<;>decide
  ·cases h
 all_goals
  have hb:b=0:=by
   rw [if_neg (by decide),if_neg (by decide)] at h
   split at h
   ·assumption
   ·cases h
  subst hb
  decide
theorem fr_right {k b a:Int} (h:knE k b 1=0) (a0:1024<=a) (a1:a<=65535) (al:a%hszV k b=0):rightB (frC k b a)=true:=by
 have hs:=hsz_eq h a
 have hp:=(kn_sz h).1
 have al':a.tmod (hszV k b)=0:=by rw [Int.tmod_eq_emod_of_nonneg (by omega)]; exact al
 have ho:∀ P:Prop,¬ (P/\(a<1024\/65535<a\/¬ a.tmod (hszV k b)=0)):=fun P q=>by omega
 have ho2:¬ (a<1024\/65535<a\/¬ a.tmod (hszV k b)=0):=by omega
 rw [<-hs] at ho ho2
 unfold knE at h
 split at h
 ·cases h
 rename_i h0
 have hk:k=1\/k=2\/k=3\/k=4\/k=5\/k=6\/k=7\/k=8:=by omega
 rcases hk with rfl|rfl|rfl|rfl|rfl|rfl|rfl|rfl
 ·rw [if_pos rfl] at h
  split at h
  ·rename_i hb
   have hu:=uRaw_le hb
   have e:szN (frC 1 b a)=uRaw b:=rfl
   rw [e] at ho
   simp only [rightB,frC,Int.reduceEq,if_false,if_true,true_or,or_false,false_or,and_self,hb,not_true_eq_false,and_true]
   rw [if_neg (ho _)]
   exact inV_iff.2 ⟨by omega,by omega⟩
  ·cases h
 ·rw [if_neg (by decide),if_pos rfl] at h
  split at h
  ·rename_i hb
   have e:szN (frC 2 b a)=nRaw b:=rfl
   rw [e] at ho
   simp only [rightB,frC,Int.reduceEq,if_false,if_true,or_true,or_false,false_or,and_self,nOk_iff,hb,not_true_eq_false,and_true]
   rw [if_neg (ho _)]
   decide
  ·cases h
 all_goals
  have hb:b=0:=by
   rw [if_neg (by decide),if_neg (by decide)] at h
   split at h
   ·assumption
   ·cases h
  subst hb
  simp only [szN,frC,Int.reduceEq,if_false,if_true] at ho2
 ·simp only [rightB,frC,Int.reduceEq,if_false,if_true,or_false,and_self]
  rw [if_neg ho2]
 ·simp only [rightB,frC,Int.reduceEq,if_false,if_true,or_false,and_self,true_or]
  rw [if_neg ho2]; decide
 ·simp only [rightB,frC,Int.reduceEq,if_false,if_true,or_false,and_self,true_or,or_true]
  rw [if_neg ho2]; decide
 ·simp only [rightB,frC,Int.reduceEq,if_false,if_true,or_false,and_self]
  rw [if_neg ho2]; decide
 ·simp only [rightB,frC,Int.reduceEq,if_false,if_true,or_false,and_self]
  rw [if_neg ho2]; decide
 ·simp only [rightB,frC,Int.reduceEq,if_false,if_true,or_false,and_self,or_true]
  rw [if_neg ho2]; decide

/-! ### a new thread's words -/
theorem thX_len (m:M) (x:Int) (t:Th):(m.thX x t).w.length=m.w.length:=by
 unfold M.thX; split
 ·rw [M.wrs_len,M.wrs_len]
 ·rfl
theorem thT_at {m:M} {A:Int} (h0:1024<=A) (h1:A%64=0) (h2:A+64<=m.w.length) (hz:∀ j,A<=j->j<A+64->m.at j=0) {j:Int} (hj:0<=j):(m.thX A thT).at j=if j=A+16 then 10240 else m.at j:=by
 have hB:thT.B=true:=by decide
 have ho:otB m A 64=true:=otB_iff.2 ⟨h0,h1,h2⟩
 have hu:=Th.h_u hB
 have hws:∀ v,v∈[thT.h0,thT.h1,thT.bg,thT.h3]->u64 v:=fun v hv=>by
  simp only [List.mem_cons,List.not_mem_nil,or_false] at hv
  rcases hv with rfl|rfl|rfl|rfl
  ·exact hu.1
  ·exact hu.2.1
  ·exact hu.2.2.1
  ·exact hu.2.2.2
 have e2:thT.rg.length=16:=rfl
 unfold M.thX
 rw [ho,hB]
 simp only [Bool.and_self,if_true]
 rw [M.wrs_at _ _ _ thT_up.2 _ 16 (by rw [e2]; omega) (by rw [M.wrs_len]; omega)]
 by_cases c1:(A+32).toNat<=j.toNat/\j.toNat<(A+32).toNat+16
 ·rw [if_pos c1,if_neg (by omega),hz j (by omega) (by omega)]
  have:∀ i:Nat,nth 0 thT.rg i=0:=fun i=>by
   unfold thT
   exact nth_replicate
  exact this _
 ·rw [if_neg c1,M.wrs_at _ _ _ hws _ 4 (by simp) (by omega)]
  by_cases c2:(A+16).toNat<=j.toNat/\j.toNat<(A+16).toNat+4
  ·rw [if_pos c2]
   have h4:j.toNat-(A+16).toNat=0\/j.toNat-(A+16).toNat=1\/j.toNat-(A+16).toNat=2\/j.toNat-(A+16).toNat=3:=by omega
   rcases h4 with h|h|h|h<;>rw [h]
   ·rw [if_pos (by omega)]; rfl
   ·rw [if_neg (by omega),hz j (by omega) (by omega)]; rfl
   ·rw [if_neg (by omega),hz j (by omega) (by omega)]; rfl
   ·rw [if_neg (by omega),hz j (by omega) (by omega)]; rfl
  ·rw [if_neg c2,if_neg (by omega)]
theorem thT_neg {m:M} {A:Int} (h0:1024<=A) (h1:A%64=0) (h2:A+64<=m.w.length) (hz:∀ j,A<=j->j<A+64->m.at j=0) {j:Int} (hj:¬ j=A+16):(m.thX A thT).at j=m.at j:=by
 by_cases c:0<=j
 ·rw [thT_at h0 h1 h2 hz c,if_neg hj]
 ·have e:j.toNat=(0:Int).toNat:=by omega
  have q:=thT_at (m:=m) h0 h1 h2 hz (j:=0) (by omega)
  rw [if_neg (by omega)] at q
  simp only [M.at,e] at q ⊢
  exact q

/-! ### so many objects -/
theorem under_hd {D:Int->Int} {x a:Int} (h:D x<D a):∀ {L:List Int},x∈L->(under D (insL x a L) x).headD 0=a
 | z::L,hx=>by
  unfold insL
  by_cases e:z=x
  ·rw [if_pos e]
   unfold under
   rw [if_pos e,tw_cons,if_pos h]
   rfl
  ·rw [if_neg e]
   unfold under
   rw [if_neg e]
   exact under_hd h ((List.mem_cons.1 hx).resolve_left fun q=>e q.symm)
structure Mk (m m':M) (L L':List Int) (x k b A T:Int) (n:Nat):Prop where
 ut:UT m' L'
 old:∀ y,y∈L->y∈L'
 new:∀ y,y∈L'->y∈L\/∃ j:Nat,j<n/\y=T+4*j
 cold:∀ y,P15 y->(∀ j:Nat,j<n->y≠T+4*j)->(m'.gV y).cap=(m.gV y).cap
 cnew:∀ j:Nat,j<n->(m'.gV (T+4*j)).cap=frC k b (A+j*hszV k b)
 D:∀ y,y∈L->m'.D y=m.D y
 Dn:∀ j:Nat,j<n->m'.D (T+4*j)=m.D x+1/\T+4*j∈under m'.D L' x
 und:∀ y w,y∈L->w∈L->(y∈under m'.D L' w↔y∈under m.D L w)
 undn:∀ j:Nat,j<n->under m'.D L' (T+4*j)=[]
 undx:∀ (j:Nat) (w:Int),j<n->w∈L->T+4*j∈under m'.D L' w->w=x\/x∈under m.D L w
 at_:∀ j,3120<=j->m'.at j=if k=3/\A<=j/\j<A+n*64/\(j-A)%64=16 then 10240 else m.at j
 zr:n=0->L'=L/\m'=m
 hd:∀ j:Nat,n=j+1->(under m'.D L' x).headD 0=T+4*j
theorem UT.rtL {x k b:Int} (hk:knE k b 1=0):∀ (n:Nat) {m r:M} {L:List Int} {A T:Int},UT m L->r.w=m.w->x∈L->(m.gV x).cap.ty=1 ->
  (∀ j:Nat,j<n->P15 (T+4*j)/\T+4*j∉L)->(m.gV x).cap.obj<=A->A%hszV k b=0->A+n*hszV k b<=(m.gV x).cap.obj+(m.gV x).cap.mark ->
  (∀ y,y∈under m.D L x->(m.gV y).cap.obj+szN (m.gV y).cap<=A)->(∀ j,A<=j->j<A+n*hszV k b->m.at j=0) ->
  (Go.Proofs.YtcdfofeolgbnbaaGreat.rtL M.rlayX k b x n r A T).w=(Go.Proofs.YtcdfofeolgbnbaaGreat.rtL M.layX k b x n m A T).w/\∃ L',Mk m (Go.Proofs.YtcdfofeolgbnbaaGreat.rtL M.layX k b x n m A T) L L' x k b A T n
 | 0,m,r,L,A,T,U,hw,hx,h1,hT,lo,al,hi,hs,hz=>by
  refine ⟨hw,L,U,fun _ h=>h,fun _ h=>.inl h,fun _ _ _=>rfl,fun j h=>absurd h (by omega),fun _ _=>rfl,fun j h=>absurd h (by omega),fun _ _ _ _=>Iff.rfl,fun j h=>absurd h (by omega),fun j _ h=>absurd h (by omega),fun j hj=>?_,fun _=>⟨rfl,rfl⟩,fun j h=>absurd h (by omega)⟩
  rw [if_neg (by omega)]; rfl
 | n+1,m,r,L,A,T,U,hw,hx,h1,hT,lo,al,hi,hs,hz=>by
  have hp:=U.pc x hx h1
  have hpm:=(U.pcn h1).mark
  have hlen:=U.ui.len
  obtain ⟨hs1,hs2,_⟩:=kn_sz hk
  obtain ⟨s,hsv⟩:∃ s,hszV k b=s:=⟨_,rfl⟩
  have ens:((n+1:Nat):Int)*s=n*s+s:=by rw [Int.natCast_add,Int.add_mul,Int.natCast_one,Int.one_mul]
  have hns:0<=(n:Int)*s:=Int.mul_nonneg (by omega) (by omega)
  rw [hsv] at al hi hz hs1 hs2
  rw [ens] at hi hz
  simp only [Go.Proofs.YtcdfofeolgbnbaaGreat.rtL,hsv]
  obtain ⟨hT0,hT0L⟩:=hT 0 (by omega)
  rw [Int.natCast_zero,Int.mul_zero,Int.add_zero] at hT0 hT0L
  -- a thread's words
  obtain ⟨m1,hm1⟩:∃ q,rtK k m A=q:=⟨_,rfl⟩
  have K:UT m1 L/\(∀ y,P15 y->m1.gV y=m.gV y)/\(∀ j,0<=j->m1.at j=if k=3/\j=A+16 then 10240 else m.at j)/\(rtK k r A).w=m1.w:=by
   unfold rtK at hm1 ⊢
   by_cases c:k=3
   ·have e64:s=64:=by
     rw [<-hsv]
     subst c
     unfold hszV
     rw [if_neg (by omega),if_neg (by omega)]
     split
     ·rfl
     ·rename_i h
      unfold knE at hk
      rw [if_neg (by omega),if_neg (by omega),if_neg (by omega)] at hk
      split at hk
      ·rename_i hb; exact absurd ⟨by omega,by omega,hb⟩ h
      ·cases hk
    rw [if_pos c] at hm1 ⊢
    subst e64
    have hz64:∀ j,A<=j->j<A+64->m.at j=0:=fun j j1 j2=>hz j j1 (by omega)
    have hat:=fun j (hj:0<=j)=>thT_at (m:=m) (A:=A) (by omega) al (by omega) hz64 hj
    obtain ⟨q1,q2⟩:=U.touch (m':=m.thX A thT) (thX_len _ _ _) (fun j hj=>thT_neg (by omega) al (by omega) hz64 (by omega)) (fun y hy t1 j j1 j2=>by
     have py:=U.pc y hy t1
     have pm:=(U.pcn t1).mark
     have pl:=(U.pcn t1).lo
     have pxl:=(U.pcn h1).lo
     rw [hat j (by omega),if_neg]
     ·exact U.no y hy t1 j j1 j2
     ·intro hj
      by_cases e:y=x
      ·rw [e] at j1; omega
      ·by_cases u1:y∈under m.D L x
       ·have:=hs y u1; omega
       ·by_cases u2:x∈under m.D L y
        ·have:=U.bel y x hy t1 u2
         omega
        ·have:=U.apt x y hx hy (fun e2=>e e2.symm) u1 u2
         unfold aptP at this
         omega)
    rw [hm1] at q1 q2 hat
    exact ⟨q1,fun y hy=>(q2 y hy).2,fun j hj=>by
     rw [hat j hj]
     by_cases e:j=A+16
     ·rw [if_pos e,if_pos ⟨c,e⟩]
     ·rw [if_neg e,if_neg fun h=>e h.2],by rw [<-hm1]; exact thX_wc hw A thT⟩
   ·rw [if_neg c] at hm1 ⊢
    subst hm1
    exact ⟨U,fun _ _=>rfl,fun j _=>by rw [if_neg fun h=>c h.1],hw⟩
  obtain ⟨U1,hV1,hat1,hw1⟩:=K
  rw [hm1]
  have hP:=U.ui.sub x hx
  have ex:m1.gV x=m.gV x:=hV1 x hP
  have hD1:∀ y,y∈L->m1.D y=m.D y:=fun y hy=>by unfold M.D; rw [hV1 y (U.ui.sub y hy)]
  have hu1:∀ y,under m1.D L y=under m.D L y:=fun y=>under_congr hD1
  -- the cap
  have hc0:(frC k b A).ty≠0:=by
   have:=(kn_sz hk).2.2.2.2.2
   show k≠0
   omega
  have hrt:rightB (frC k b A)=true:=fr_right hk (by omega) (by omega) (by rw [hsv]; exact al)
  have hsz:szN (frC k b A)=s:=by rw [hsz_eq hk,hsv]
  have hr2:slotRB ⟨frC k b A,0,0,0⟩=true:=by
   have ht0:((frC k b A).ty==0)=false:=by simpa using hc0
   simp only [slotRB,ht0,Bool.false_and,Bool.not_false,hrt,Bool.true_and]
   rfl
  have eo:(frC k b A).obj=A:=rfl
  have em:(frC k b A).mark=0:=rfl
  have ety:(frC k b A).ty=k:=rfl
  obtain ⟨U2,hc2,⟨hDT,hD2⟩,hat2,hun,hnew⟩:=U1.lay (x:=x) (a:=T) (c:=frC k b A) hx (by rw [ex]; exact h1) hT0 hT0L hc0 hrt (by omega) (by rw [ex,eo]; exact lo) (by rw [ex,hsz,eo]; omega)
   (fun y hy=>by rw [hu1] at hy; rw [hV1 y (U.ui.sub y (under_sub hy).1),eo]; exact hs y hy)
   (fun hty=>⟨em,fun j j1 j2=>by
    rw [hsz] at j2
    rw [eo] at j1 j2
    rw [ety] at hty
    rw [hat1 j (by omega),if_neg (by omega)]
    exact hz j j1 (by omega)⟩)
  have hwL:=(U1.ui.lay hw1 (p:=x) (.inr hx) hT0 hT0L hc0 hr2).1
  obtain ⟨m2,hm2⟩:∃ q,m1.layX x T (frC k b A)=q:=⟨_,rfl⟩
  rw [hm2] at U2 hc2 hDT hD2 hat2 hun hnew hwL ⊢
  have hxT:x≠T:=fun e=>hT0L (e ▸ hx)
  have cx:(m2.gV x).cap=(m.gV x).cap:=by rw [hc2 x (U.ui.l0 hx),if_neg hxT,ex]
  have cL:∀ y,y∈L->(m2.gV y).cap=(m.gV y).cap:=fun y hy=>by
   rw [hc2 y (U.ui.l0 hy),if_neg (fun e:y=T=>hT0L (e ▸ hy)),hV1 y (U.ui.sub y hy)]
  obtain ⟨f1,L',F⟩:=UT.rtL hk n (m:=m2) (r:=(rtK k r A).rlayX x T (frC k b A)) (L:=insL x T L) (A:=A+s) (T:=T+4) U2 hwL (mem_insL hx) (by rw [cx]; exact h1)
   (fun j hj=>by
    obtain ⟨q1,q2⟩:=hT (j+1) (by omega)
    have e:T+4+4*(j:Int)=T+4*((j+1:Nat):Int):=by omega
    rw [e]
    refine ⟨q1,fun h=>?_⟩
    rcases insL_mem h with h|h
    ·omega
    ·exact q2 h)
   (by rw [cx]; omega) (by rw [hsv,Int.add_emod_right]; exact al) (by rw [cx,hsv]; omega)
   (fun y hy=>by
    rcases (hun y x hxT).1 hy with ⟨q1,q2⟩|⟨q1,_⟩
    ·rw [hu1] at q2
     rw [cL y (under_sub q2).1]
     have:=hs y q2
     omega
    ·rw [q1,hc2 T (U.ui.n0 hT0),if_pos rfl,hsz,eo]
     exact Int.le_refl _)
   (fun j j1 j2=>by
    rw [hsv] at j2
    rw [hat2 j (by omega),hat1 j (by omega),if_neg]
    ·exact hz j (by omega) (by omega)
    ·rintro ⟨c,e⟩
     have:s=64:=by
      rw [<-hsv]
      subst c
      unfold hszV
      rw [if_neg (by omega),if_neg (by omega)]
      split
      ·rfl
      ·rename_i h
       unfold knE at hk
       rw [if_neg (by omega),if_neg (by omega),if_neg (by omega)] at hk
       split at hk
       ·rename_i hb; exact absurd ⟨by omega,by omega,hb⟩ h
       ·cases hk
     omega)
  obtain ⟨m3,hm3⟩:∃ q,Go.Proofs.YtcdfofeolgbnbaaGreat.rtL M.layX k b x n m2 (A+s) (T+4)=q:=⟨_,rfl⟩
  rw [hm3] at f1 F ⊢
  have eT:∀ j:Nat,T+4+4*(j:Int)=T+4*((j+1:Nat):Int):=fun j=>by omega
  have hTn:∀ j:Nat,j<n->T≠T+4+4*(j:Int):=fun j _=>by omega
  have hTm:T∈insL x T L:=a_insL hx
  have hDx:m2.D x=m.D x:=by rw [hD2 x hx,hD1 x hx]
  have hDT2:m2.D T=m.D x+1:=by rw [hDT,hD1 x hx]
  refine ⟨f1,L',F.ut,fun y hy=>F.old y (mem_insL hy),fun y hy=>?_,fun y hP hy=>?_,fun j hj=>?_,fun y hy=>?_,fun j hj=>?_,fun y w hy hw'=>?_,fun j hj=>?_,fun j w hj hw' hy=>?_,fun j hj=>?_,fun h=>absurd h (by omega),fun j hj=>?_⟩
  ·rcases F.new y hy with h|⟨j,h,e⟩
   ·rcases insL_mem h with h|h
    ·exact .inr ⟨0,by omega,by rw [h]; omega⟩
    ·exact .inl h
   ·exact .inr ⟨j+1,by omega,by rw [e,eT]⟩
  ·have h0:=hy 0 (by omega)
   rw [Int.natCast_zero,Int.mul_zero,Int.add_zero] at h0
   rw [F.cold y hP (fun j hj=>by rw [eT]; exact hy (j+1) (by omega)),hc2 y (U.ui.n0 hP),if_neg h0,hV1 y hP]
  ·cases j with
   | zero =>
    rw [Int.natCast_zero,Int.mul_zero,Int.add_zero,Int.zero_mul,Int.add_zero,F.cold T hT0 hTn,hc2 T (U.ui.n0 hT0),if_pos rfl]
   | succ j =>
    have:=F.cnew j (by omega)
    rw [eT,hsv] at this
    rw [this,hsv]
    congr 1
    rw [Int.natCast_add,Int.add_mul,Int.natCast_one,Int.one_mul]
    omega
  ·rw [F.D y (mem_insL hy),hD2 y hy,hD1 y hy]
  ·cases j with
   | zero =>
    rw [Int.natCast_zero,Int.mul_zero,Int.add_zero]
    exact ⟨by rw [F.D T hTm,hDT2],(F.und T x hTm (mem_insL hx)).2 ((hun T x hxT).2 (.inr ⟨rfl, .inl rfl⟩))⟩
   | succ j =>
    have:=F.Dn j (by omega)
    rw [eT,hDx] at this
    exact this
  ·rw [F.und y w (mem_insL hy) (mem_insL hw'),hun y w fun e=>hT0L (e ▸ hw')]
   try rw [hu1]
   try rw [hu1]
   constructor
   ·rintro (⟨_,h⟩|⟨h,_⟩)
    ·exact h
    ·exact absurd hy (h ▸ hT0L)
   ·exact fun h=>.inl ⟨fun e=>hT0L (e ▸ hy),h⟩
  ·cases j with
   | zero =>
    rw [Int.natCast_zero,Int.mul_zero,Int.add_zero]
    refine List.eq_nil_iff_forall_not_mem.2 fun y hy=>?_
    rcases F.new y (under_sub hy).1 with h|⟨j,h,e⟩
    ·have:=(F.und y T h hTm).1 hy
     rw [hnew] at this
     cases this
    ·rw [e] at hy
     rcases F.undx j T h hTm hy with h|h
     ·exact hxT h.symm
     ·rw [hnew] at h
      cases h
   | succ j =>
    have:=F.undn j (by omega)
    rw [eT] at this
    exact this
  ·cases j with
   | zero =>
    rw [Int.natCast_zero,Int.mul_zero,Int.add_zero] at hy
    have hwT:w≠T:=fun e=>hT0L (e ▸ hw')
    have:=(F.und T w hTm (mem_insL hw')).1 hy
    rcases (hun T w hwT).1 this with ⟨h,_⟩|⟨_,h⟩
    ·exact absurd rfl h
    ·rw [hu1] at h; exact h
   | succ j =>
    rw [<-eT] at hy
    have hwT:w≠T:=fun e=>hT0L (e ▸ hw')
    rcases F.undx j w (by omega) (mem_insL hw') hy with h|h
    ·exact .inl h
    ·rcases (hun x w hwT).1 h with ⟨_,h⟩|⟨h,_⟩
     ·rw [hu1] at h; exact .inr h
     ·exact absurd h hxT
  ·rw [F.at_ j hj,hat2 j hj,hat1 j (by omega)]
   by_cases c:k=3
   ·simp only [c,true_and]
    have:s=64:=by
     rw [<-hsv]
     subst c
     unfold hszV
     rw [if_neg (by omega),if_neg (by omega)]
     split
     ·rfl
     ·rename_i h
      unfold knE at hk
      rw [if_neg (by omega),if_neg (by omega),if_neg (by omega)] at hk
      split at hk
      ·rename_i hb; exact absurd ⟨by omega,by omega,hb⟩ h
      ·cases hk
    subst this
    by_cases c1:A+64<=j/\j<A+64+n*64/\(j-(A+64))%64=16
    ·rw [if_pos c1,if_pos (by omega)]
    ·rw [if_neg c1]
     by_cases c2:j=A+16
     ·rw [if_pos c2,if_pos (by omega)]
     ·rw [if_neg c2,if_neg (by omega)]
   ·rw [if_neg fun h=>c h.1,if_neg fun h=>c h.1,if_neg fun h=>c h.1]
  ·cases n with
   | zero =>
    obtain ⟨e1,e2⟩:=F.zr rfl
    have:j=0:=by omega
    rw [this,Int.natCast_zero,Int.mul_zero,Int.add_zero,e1,e2]
    exact under_hd (by rw [hDT2,hDx]; omega) hx
   | succ n =>
    have:=F.hd n rfl
    rw [this,eT,show j=n+1 by omega]
end Go.Proofs.YtcdfofeolgbnbaaGreat

