/- Law 15: Reset,of memories in order; the same words of the same words. -/
import Derived.Test.YtcdfofeolgbnbaaGreatZ23
import Derived.Test.YtcdfofeolgbnbaaGreatZ27
import Derived.Test.YtcdfofeolgbnbaaGreatZ30
/- Law 15: the memories that acts make of the plan's: a list that is a forest,of places that stay; each act by both. -/
namespace Go.Proofs.YtcdfofeolgbnbaaGreat
open Go.D
set_option linter.all false
set_option maxRecDepth 100000
set_option maxHeartbeats 4000000

def P15 (x:Int):Prop:=x=32\/x=36\/x=40\/x=44\/x=1024\/x=1088\/x=1152\/x=1216\/(2048<=x/\x<3120/\x%4=0)
instance (x:Int):Decidable (P15 x):=by unfold P15; infer_instance
structure UI (m:M) (L:List Int):Prop where
 inv:m.Inv P15 L
 sub:∀ x,x∈L->P15 x
 z:∀ x,P15 x->x∉L->m.gV x=slotZ
 dep:dep m.D (-1) L
 len:m.w.length=8192
theorem dep_le {D:Int->Int}:∀ {L:List Int} {d:Int} {x:Int},dep D d L->x∈L->D x<=d+L.length
 | y::L,d,x,⟨h1,h2⟩,h=>by
  simp only [List.length_cons]
  rcases List.mem_cons.1 h with rfl|h
  ·omega
  ·have:=dep_le h2 h
   omega
section
variable {m r:M} {L:List Int}
theorem UI.of_w {m':M} (D:UI m L) (e:m'.w=m.w):UI m' L :=
 ⟨D.inv.of_w e,D.sub,fun x h1 h2=>by rw [gV_w e]; exact D.z x h1 h2,by rw [D_w e]; exact D.dep,by rw [e]; exact D.len⟩
theorem UI.dep_lt (D:UI m L) {x:Int} (h:x∈L):(m.gV x).depth≠65535:=by
 have h1:=dep_le D.dep h
 have h2:=D.inv.llen
 rw [D.len] at h2
 unfold M.D at h1
 omega
theorem UI.gE (D:UI m L) {x:Int} (h:P15 x):m.gE x=0:=(D.inv.out x h).1
theorem UI.em (D:UI m L) {x:Int} (h:P15 x):(m.gV x).cap.ty=0↔x∉L:=by
 constructor
 ·intro e hx
  exact (D.inv.gE hx).2 e
 ·intro hx
  rw [D.z x h hx]; rfl
theorem UI.n0 (D:UI m L) {x:Int} (h:P15 x):x≠0:=there_ne0 (gE_there (D.gE h)).1
theorem UI.l0 (D:UI m L) {x:Int} (h:x∈L):x≠0:=fun e=>D.inv.no0 (e ▸ h)
theorem UI.lay {m r:M} {L:List Int} (D:UI m L) (hw:r.w=m.w) {p a:Int} (hp:p=0\/p∈L) (haP:P15 a) (haL:a∉L) {c:Cap} (hc:c.ty≠0) (hr:slotRB ⟨c,0,0,0⟩=true) :
  (r.rlayX p a c).w=(m.layX p a c).w/\UI (m.layX p a c) (insLL p a L)/\(∀ x,(m.layX p a c).gE x=m.gE x)/\(m.layX p a c).fst=m.insF p a /\
  (∀ x,x≠0->(m.layX p a c).gV x=jnV (fun x=>if x=a then ⟨c,p,m.nx p,if p=0 then 0 else (m.gV p).depth+1⟩ else m.gV x) p a (m.nx p) x)/\M.Fr m (m.layX p a c):=by
 have hga:=D.gE haP
 have hta:=(gE_there hga).1
 have a0:=D.n0 haP
 have key:∀ m':M,m'.w=m.w->m.To (m'.pX a ⟨c,0,0,0⟩) (fun x=>if x=a then ⟨c,0,0,0⟩ else m.gV x) m.fst:=fun m' hw'=>((M.To.refl m).of_w hw').pX hga hr
 have hI:∀ m':M,m'.w=m.w->(m'.pX a ⟨c,0,0,0⟩).Inv P15 L:=fun m' hw'=>by
  refine D.inv.to (key m' hw') D.inv.nd (fun x hx=>?_) (chain_congr (fun x hx=>?_) D.inv.ch) D.inv.fst fun x hx hn=>?_
  ·have:x≠a:=fun e=>haL (e ▸ hx)
   simp only [if_neg this]
   exact D.inv.gE hx
  ·have:x≠a:=fun e=>haL (e ▸ hx)
   simp only [if_neg this,and_self]
  ·by_cases e:x=a
   ·simp only [e,if_true,and_self]
   ·simp only [if_neg e]
    rw [D.z x hx hn]
    exact ⟨rfl,rfl,rfl⟩
 have hV:∀ m':M,m'.w=m.w->∀ x,x≠0->(m'.pX a ⟨c,0,0,0⟩).gV x=if x=a then ⟨c,0,0,0⟩ else m.gV x:=fun m' hw' x hx=>(key m' hw').V x hx
 have hfE:∀ m':M,m'.w=m.w->(m'.pX a ⟨c,0,0,0⟩).fE a=0:=fun m' hw'=>(key m' hw').full hga (by simp only [if_true]; exact hc)
 have hp2:∀ m':M,m'.w=m.w->p=0\/(p∈L/\((m'.pX a ⟨c,0,0,0⟩).gV p).depth≠65535):=fun m' hw'=>hp.imp id fun h=>by
  have h1:p≠a:=fun e=>haL (e ▸ h)
  have h0:p≠0:=fun e=>D.inv.no0 (e ▸ h)
  rw [hV m' hw' p h0,if_neg h1]
  exact ⟨h,D.dep_lt h⟩
 obtain ⟨_,T1⟩:=(hI m rfl).ins_to haP (hfE m rfl) haL (hp2 m rfl)
 obtain ⟨_,T2⟩:=(hI r hw).rins_to haP (hfE r hw) haL (hp2 r hw)
 have ewa:(r.pX a ⟨c,0,0,0⟩).w=(m.pX a ⟨c,0,0,0⟩).w:=((key m rfl).det (key r hw) rfl (fun _ _=>rfl) rfl D.inv.len.2 D.inv.two).symm
 have hnx:(m.pX a ⟨c,0,0,0⟩).nx p=m.nx p:=by
  unfold M.nx
  by_cases h0:p=0
  ·rw [if_pos h0,if_pos h0,(key m rfl).F]
  ·have h1:p≠a:=fun e=>haL (e ▸ hp.resolve_left h0)
   rw [if_neg h0,if_neg h0,hV m rfl p h0,if_neg h1]
 have hVV:∀ x,x≠0->(m.layX p a c).gV x=jnV (fun x=>if x=a then ⟨c,p,m.nx p,if p=0 then 0 else (m.gV p).depth+1⟩ else m.gV x) p a (m.nx p) x:=fun x hx=>by
  unfold M.layX
  rw [T1.V x hx]
  have e:∀ y,y≠0->(fun x=>if x=a then (m.pX a ⟨c,0,0,0⟩).insS p a else (m.pX a ⟨c,0,0,0⟩).gV x) y=(fun x=>if x=a then ⟨c,p,m.nx p,if p=0 then 0 else (m.gV p).depth+1⟩ else m.gV x) y:=fun y hy=>by
   by_cases e:y=a
   ·simp only [e,if_true,M.insS]
    rw [hV m rfl a a0,if_pos rfl,hnx]
    by_cases h0:p=0
    ·simp only [h0,if_true]
    ·have h1:p≠a:=fun e=>haL (e ▸ hp.resolve_left h0)
     rw [hV m rfl p h0,if_neg h1]
   ·simp only [if_neg e]
    rw [hV m rfl y hy,if_neg e]
  unfold M.insV
  rw [hnx]
  unfold jnV
  by_cases c1:x=p
  ·rw [if_pos c1,if_pos c1,e p (c1 ▸ hx)]
  ·rw [if_neg c1,if_neg c1]
   by_cases c2:x=m.nx p
   ·rw [if_pos c2,if_pos c2,e _ (c2 ▸ hx)]
   ·rw [if_neg c2,if_neg c2,e x hx]
 have hJ:=(hI m rfl).ins_inv haP (hfE m rfl) haL hp T1
 have hlen:(m.layX p a c).w.length=8192:=by unfold M.layX; exact T1.fr.len.trans ((key m rfl).fr.len.trans D.len)
 have hd:∀ x,x≠0->((m.layX p a c).gV x).depth=if x=a then (if p=0 then 0 else (m.gV p).depth+1) else (m.gV x).depth:=fun x hx=>by
  rw [hVV x hx,jnV_depth]
  by_cases e:x=a
  ·simp only [if_pos e]
  ·simp only [if_neg e]
 have hmem:∀ x,x∈insLL p a L->x=a\/x∈L:=fun x hx=>by
  unfold insLL at hx
  split at hx
  ·exact List.mem_cons.1 hx
  ·exact insL_mem hx
 have hmem2:∀ x,x∈L->x∈insLL p a L:=fun x hx=>by
  unfold insLL; split
  ·exact List.mem_cons_of_mem _ hx
  ·exact mem_insL hx
 have ham:a∈insLL p a L:=by
  unfold insLL; split
  ·exact List.mem_cons_self
  ·rename_i h0; exact a_insL (hp.resolve_left h0)
 refine ⟨?_,⟨hJ,fun x hx=>?_,fun x hx hn=>?_, ?_,hlen⟩,fun x=>?_, ?_,hVV,by unfold M.layX; exact ((key m rfl).trans T1).fr⟩
 ·unfold M.rlayX M.layX
  refine (T1.det T2 ewa (fun x _=>?_) ?_ (hI m rfl).len.2 (hI m rfl).two).symm
  ·simp only [M.insV,M.insS,M.nx,gV_fun ewa,fst_w ewa]
  ·simp only [M.insF,fst_w ewa]
 ·rcases hmem x hx with e|h
  ·rw [e]; exact haP
  ·exact D.sub x h
 ·have x0:=D.n0 hx
  have hxa:x≠a:=fun e=>hn (e ▸ ham)
  have hxL:x∉L:=fun h=>hn (hmem2 x h)
  obtain ⟨k1,k2,k3⟩:=(hJ.out x hx).2 hn
  refine Slot.ext4 ?_ k1 k2 k3
  have:=hVV x x0
  unfold M.layX at this
  have h2:=congrArg Slot.cap this
  rw [jnV_cap] at h2
  simp only [if_neg hxa,D.z x hx hxL] at h2
  exact h2
 ·have hD:∀ y,y∈L->(m.layX p a c).D y=m.D y:=fun y hy=>by
   have hya:¬ y=a:=fun e=>haL (by rw [<-e]; exact hy)
   have:=hd y (fun e=>D.inv.no0 (e ▸ hy))
   rw [if_neg hya] at this
   exact this
  have hDa:=hd a a0
  rw [if_pos rfl] at hDa
  change (m.layX p a c).D a=_ at hDa
  unfold insLL
  by_cases c0:p=0
  ·rw [if_pos c0] at hDa ⊢
   exact ⟨by omega,dep_mono (by omega) (dep_congr hD D.dep)⟩
  ·rw [if_neg c0] at hDa ⊢
   have hb:=hp.resolve_left c0
   obtain ⟨L1,L2,e⟩:=List.append_of_mem hb
   have hn:=D.inv.nd
   have hd2:=dep_congr hD D.dep
   have hbD:=hD _ hb
   change _=(m.gV p).depth at hbD
   rw [e] at hn hd2 ⊢
   have hb1:p∉L1:=fun h=>(List.nodup_append.1 hn).2.2 _ h _ List.mem_cons_self rfl
   rw [insL_app hb1]
   obtain ⟨d1,d2⟩:=dep_app.1 hd2
   obtain ⟨d3,d4⟩:=d2
   exact dep_app.2 ⟨d1,d3,by omega,dep_mono (by omega) d4⟩
 ·unfold M.layX
  exact (T1.E x).trans ((key m rfl).E x)
 ·unfold M.layX
  rw [T1.F]
  simp only [M.insF,(key m rfl).F]
theorem UI.rem (D:UI m L) (hw:r.w=m.w) {a:Int} {L1 L2:List Int} (e:L=L1++a::L2) :
  (m.rem a).1=0/\(r.rrem a).1=0/\(r.rrem a).2.w=(m.rem a).2.w/\UI (m.rem a).2 (L1++L2)/\m.To (m.rem a).2 (m.remV a (deep m.gV (m.gV a).depth L2)) (m.remF a):=by
 obtain ⟨⟨k1,T⟩,_⟩:=D.inv.rem_to e
 obtain ⟨_,j1,j2⟩:=(D.inv.of_w hw).rem_to e
 have eV:∀ Ds,r.remV a Ds=m.remV a Ds:=fun Ds=>by unfold M.remV; rw [gV_fun hw]
 have eF:r.remF a=m.remF a:=by unfold M.remF; rw [fst_w hw,gV_fun hw]
 rw [eV,eF,gV_fun hw] at j2
 have hI:=D.inv.rem_inv e T (fun y hy=>(D.inv.rem_facts e y hy).1)
 refine ⟨k1,j1,(T.det j2 hw (fun _ _=>rfl) rfl D.inv.len.2 D.inv.two).symm,⟨hI,fun x hx=>?_,fun x hx hn=>?_, ?_,T.fr.len.trans D.len⟩,T⟩
 ·refine D.sub x ?_
  rw [e]
  rcases List.mem_append.1 hx with h|h
  ·exact List.mem_append_left _ h
  ·exact List.mem_append_right _ (List.mem_cons_of_mem _ h)
 ·have x0:=D.n0 hx
  obtain ⟨q1,q2,q3⟩:=(hI.out x hx).2 hn
  refine Slot.ext4 ?_ q1 q2 q3
  rw [T.V x x0]
  unfold M.remV
  by_cases c:x=a
  ·rw [if_pos c]
  ·rw [if_neg c]
   have:x∉L:=fun h=>by
    rw [e] at h
    rcases List.mem_append.1 h with h|h
    ·exact hn (List.mem_append_left _ h)
    ·rcases List.mem_cons.1 h with h|h
     ·exact c h
     ·exact hn (List.mem_append_right _ h)
   simp only [D.z x hx this]
 ·have hn:=D.inv.nd
  have hd:=D.dep
  have hno:∀ y,y∈L->y≠0:=fun y hy=>D.l0 hy
  rw [e] at hn hd hno
  obtain ⟨n1,n2,n3⟩:=List.nodup_append.1 hn
  obtain ⟨n4,n5⟩:=List.nodup_cons.1 n2
  obtain ⟨E,s1,s2,s3⟩:=deep_split m.gV (m.gV a).depth L2
  obtain ⟨Ds,hDs⟩:∃ Ds,deep m.gV (m.gV a).depth L2=Ds:=⟨_,rfl⟩
  rw [hDs] at s1 s3 T
  obtain ⟨d1,d2⟩:=dep_app.1 hd
  obtain ⟨d3,d4⟩:=d2
  have hne:∀ y,y∈L1++L2->y≠0/\y≠a:=fun y hy=>by
   rcases List.mem_append.1 hy with h|h
   ·exact ⟨hno y (List.mem_append_left _ h),n3 y h _ List.mem_cons_self⟩
   ·exact ⟨hno y (List.mem_append_right _ (List.mem_cons_of_mem _ h)),fun e=>n4 (e ▸ h)⟩
  have hD:∀ y,y∈L1++L2->(m.rem a).2.D y=if y∈Ds then m.D y-1 else m.D y:=fun y hy=>rem_D T (hne y hy).1 (hne y hy).2
  have hD1:∀ y,y∈L1->(m.rem a).2.D y=m.D y:=fun y hy=>by
   rw [hD y (List.mem_append_left _ hy),if_neg]
   intro h
   exact n3 y hy y (List.mem_cons_of_mem _ (by rw [s1]; exact List.mem_append_left _ h)) rfl
  refine dep_app.2 ⟨dep_congr hD1 d1, ?_⟩
  rw [lastD_congr hD1]
  rw [s1] at d4 n5 hD ⊢
  refine dep_rem (da:=m.D a) d4 (Int.le_refl _) d3 (fun y hy=>⟨s3 y hy, ?_⟩) (fun y hy=>?_) s2
  ·rw [hD y (List.mem_append_right _ (List.mem_append_left _ hy)),if_pos hy]
  ·rw [hD y (List.mem_append_right _ (List.mem_append_right _ hy)),if_neg]
   intro h
   exact (List.nodup_append.1 n5).2.2 y h y hy rfl
theorem UI.scX (D:UI m L) {a:Int} (ha:a∈L) {c:Cap} (hc:c.ty≠0) (hr:slotRB ⟨c,(m.gV a).prev,(m.gV a).next,(m.gV a).depth⟩=true) :
  UI (m.scX a c) L/\m.To (m.scX a c) (fun x=>if x=a then ⟨c,(m.gV a).prev,(m.gV a).next,(m.gV a).depth⟩ else m.gV x) m.fst:=by
 have hga:=(D.inv.gE ha).1
 have a0:a≠0:=D.l0 ha
 have T1:m.To (m.scX a c) (fun x=>if x=a then ⟨c,(m.gV a).prev,(m.gV a).next,(m.gV a).depth⟩ else m.gV x) m.fst:=((M.To.refl m).gX a).pX hga hr
 have hI:=D.inv.to T1 D.inv.nd (fun x hx=>by
   by_cases e:x=a
   ·simp only [if_pos e]; exact ⟨e ▸ hga,hc⟩
   ·simp only [if_neg e]; exact D.inv.gE hx) (chain_congr (fun x hx=>by
   by_cases e:x=a
   ·simp only [e,if_true,and_self]
   ·simp only [if_neg e,and_self]) D.inv.ch) D.inv.fst (fun x hx hn=>by
   have e:x≠a:=fun e=>hn (e ▸ ha)
   simp only [if_neg e]
   rw [D.z x hx hn]; exact ⟨rfl,rfl,rfl⟩)
 refine ⟨⟨hI,D.sub,fun x hx hn=>?_,dep_congr (fun x hx=>?_) D.dep,T1.fr.len.trans D.len⟩,T1⟩
 ·have e:x≠a:=fun e=>hn (e ▸ ha)
  rw [T1.V x (D.n0 hx)]
  simp only [if_neg e]
  exact D.z x hx hn
 ·unfold M.D
  rw [T1.V x (D.l0 hx)]
  by_cases e:x=a
  ·simp only [e,if_true]
  ·simp only [if_neg e]
theorem UI.touch {m':M} (D:UI m L) (hl:m'.w.length=m.w.length) (h2:m'.at 2=m.at 2) (ha:∀ x,P15 x->∀ k:Int,0<=k->k<=3->m'.at (x+k)=m.at (x+k)):UI m' L/\∀ x,P15 x->m'.gE x=m.gE x/\m'.gV x=m.gV x:=by
 have ht:∀ x,thereB m' x=thereB m x:=fun x=>by simp only [thereB,hl]
 have key:∀ x,P15 x->m'.gE x=m.gE x/\m'.gV x=m.gV x:=fun x hx=>by
  have a0:=ha x hx 0 (by omega) (by omega)
  rw [Int.add_zero] at a0
  have a1:=ha x hx 1 (by omega) (by omega)
  have a2:=ha x hx 2 (by omega) (by omega)
  have a3:=ha x hx 3 (by omega) (by omega)
  exact ⟨by simp only [M.gE,M.slotB,ht,a0,a1,a2,a3]; rfl,by simp only [M.gV,M.slotB,M.slotC,ht,a0,a1,a2,a3]; rfl⟩
 have hf:m'.fst=m.fst:=by simp only [M.fst,keptV,keptB,M.has,h2,hl]; rfl
 have hfE:∀ x,P15 x->m'.fE x=m.fE x:=fun x hx=>by simp only [M.fE,(key x hx).1,(key x hx).2]
 refine ⟨⟨⟨by rw [hl]; exact D.inv.len,by rw [h2,hf]; exact D.inv.two,D.inv.nd,fun x hx=>by rw [hfE x (D.sub x hx)]; exact D.inv.full x hx,chain_congr (fun x hx=>by rw [(key x (D.sub x hx)).2]; exact ⟨rfl,rfl⟩) D.inv.ch,by rw [hf]; exact D.inv.fst,fun x hx=>by rw [(key x hx).1,(key x hx).2]; exact D.inv.out x hx⟩,D.sub,fun x h1 h2=>by rw [(key x h1).2]; exact D.z x h1 h2,dep_congr (fun x hx=>by unfold M.D; rw [(key x (D.sub x hx)).2]) D.dep,hl.trans D.len⟩,key⟩
theorem UI.li (D:UI m L):m.lis.1=some L/\m.lis.2.w=m.w:=by
 obtain ⟨m2,q1,q2⟩:=D.inv.lis (fstX_w m)
 unfold M.lis
 rw [q1]
 exact ⟨rfl,q2⟩
theorem UI.split (D:UI m L) {x:Int} {L1 L2:List Int} (e:L=L1++x::L2):under m.D L x=tw m.D (m.D x) L2:=by
 have hn:=D.inv.nd
 rw [e] at hn
 have hx1:x∉L1:=fun h=>(List.nodup_append.1 hn).2.2 x h x List.mem_cons_self rfl
 rw [e]; exact under_split hx1
theorem UI.nx (D:UI m L) {x:Int} (hP:P15 x):m.nxV x=(under m.D L x).headD 0:=by
 unfold M.nxV
 by_cases hx:x∈L
 ·rw [if_pos (D.inv.full x hx)]
  obtain ⟨L1,L2,e⟩:=List.append_of_mem hx
  have hc:=D.inv.ch
  have hfl:∀ y,y∈L2->m.fE y=0/\y≠0:=fun y hy=>by
   have:y∈L:=by rw [e]; exact List.mem_append_right _ (List.mem_cons_of_mem _ hy)
   exact ⟨D.inv.full y this,D.l0 this⟩
  have hu:=D.split e
  rw [e] at hc
  obtain ⟨_,_,h2,_⟩:=chain_app.1 hc
  rw [hu,h2]
  cases L2 with
  | nil=>rfl
  | cons y L2 =>
   obtain ⟨q1,q2⟩:=hfl y List.mem_cons_self
   rw [List.headD_cons,if_neg q2,if_pos q1,tw_cons]
   by_cases c:m.D x<m.D y
   ·rw [if_pos c,if_neg (by unfold M.D at c; omega)]; rfl
   ·rw [if_neg c,if_pos (by unfold M.D at c; omega)]; rfl
 ·have h1:¬ m.fE x=0:=fun h=>(fE_zero.1 h).2 ((D.em hP).2 hx)
  rw [if_neg h1,under_none hx]; rfl
theorem UI.ds (D:UI m L) {x:Int} (hP:P15 x):m.dsL x=under m.D L x/\(m.dsO x).2.w=m.w:=by
 by_cases hx:x∈L
 ·obtain ⟨L1,L2,e⟩:=List.append_of_mem hx
  have hu:=D.split e
  obtain ⟨m2,q1,q2⟩:=D.inv.dsc e (gX_w m x)
  have h1:m.dsO x=(some (tw m.D (m.D x) L2),m2):=by unfold M.dsO; rw [if_pos (D.inv.full x hx),q1]; rfl
  unfold M.dsL
  rw [h1,hu]
  exact ⟨rfl,q2⟩
 ·have h0:¬ m.fE x=0:=fun h=>(fE_zero.1 h).2 ((D.em hP).2 hx)
  have h1:m.dsO x=(none,m.gX x):=by unfold M.dsO; rw [if_neg h0]
  unfold M.dsL
  rw [h1,under_none hx]
  exact ⟨rfl,gX_w m x⟩
end
end Go.Proofs.YtcdfofeolgbnbaaGreat

/- Package untyped: Retype: numbers at its loops. -/
namespace Go.Proofs.YtcdfofeolgbnbaaGreat
open Go.D
set_option linter.all false
set_option maxRecDepth 100000
set_option maxHeartbeats 400000

structure RtB (c nd:Cap) (k b i n A s N:Int):Prop where
 hn:1<=n/\n<=16
 hs:1<=s/\s<=32768
 hA:0<=A/\A+n*s<=200000
 hi:0<=i/\i+n<=N
 hN:N<=256
 ho:0<=nd.obj/\nd.obj<=65535
end Go.Proofs.YtcdfofeolgbnbaaGreat

/- Law 15: where objects lie: each in what it was made of,all others apart; noughts above the mark. -/
namespace Go.Proofs.YtcdfofeolgbnbaaGreat
open Go.D
set_option linter.all false
set_option maxRecDepth 100000
set_option maxHeartbeats 4000000

theorem M.To.at {m m':M} {V:Int->Slot} {F:Int} (T:m.To m' V F) {x:Int} (hx:thereB m x=true) (hV:V x=m.gV x) {k:Int} (h0:0<=k) (h3:k<=3):m'.at (x+k)=m.at (x+k):=by
 have x0:=there_ne0 hx
 by_cases e:m.gE x=0
 ·obtain ⟨p0,p1,p2,p3⟩:=slot_words e
  obtain ⟨q0,q1,q2,q3⟩:=slot_words ((T.E x).trans e)
  rw [T.V x x0,hV] at q0 q1 q2
  have:k=0\/k=1\/k=2\/k=3:=by omega
  rcases this with h|h|h|h<;>subst h
  ·rw [Int.add_zero,q0,p0]
  ·rw [q1,p1]
  ·rw [q2,p2]
  ·rw [q3,p3]
 ·exact (T.fr.slot x hx).resolve_left (by rw [T.E]; exact e) k h0 h3
theorem M.To.above {m m':M} {V:Int->Slot} {F:Int} (T:m.To m' V F) (hl:m.w.length=8192) (hV:∀ x,3120<=x->V x=m.gV x) {j:Int} (hj:3120<=j):m'.at j=m.at j:=by
 by_cases hb:j<8192
 ·have h1:thereB m (j-j%4)=true:=there_iff.2 ⟨by omega,by rw [Int.tmod_eq_emod_of_nonneg (by omega)]; omega,by rw [hl]; omega⟩
  have:=T.at h1 (hV _ (by omega)) (k:=j%4) (by omega) (by omega)
  rwa [show j-j%4+j%4=j by omega] at this
 ·have e1:m.w.length<=j.toNat:=by rw [hl]; omega
  have e2:m'.w.length<=j.toNat:=by rw [T.fr.len,hl]; omega
  unfold M.at
  rw [nth_out e1,nth_out e2]
theorem P15_lt {x:Int} (h:P15 x):x<3120/\32<=x:=by unfold P15 at h; omega
section
variable {m r:M} {L:List Int}
theorem UI.lt (D:UI m L) {x:Int} (h:x∈L):x<3120:=(P15_lt (D.sub x h)).1
theorem UI.nx_lt (D:UI m L) {p:Int} (hp:p=0\/p∈L):m.nx p<3120:=by
 rcases D.inv.nx_mem hp with h|h
 ·omega
 ·exact D.lt h
theorem UI.right (D:UI m L) (x:Int):rightB (m.gV x).cap=true:=(slotRB_iff (m.gV_u x)).1
theorem UI.scX_at (D:UI m L) {a:Int} (ha:a∈L) {c:Cap} (hc:c.ty≠0) (hr:slotRB ⟨c,(m.gV a).prev,(m.gV a).next,(m.gV a).depth⟩=true) {j:Int} (hj:3120<=j):(m.scX a c).at j=m.at j :=
 (D.scX ha hc hr).2.above D.len (fun x hx=>if_neg fun e=>by have:=D.lt ha; omega) hj
theorem UI.rem_at (D:UI m L) {a:Int} {L1 L2:List Int} (e:L=L1++a::L2) {j:Int} (hj:3120<=j):(m.rem a).2.at j=m.at j:=by
 obtain ⟨_,_,_,_,T⟩:=D.rem (r:=m) rfl e
 have ha:a∈L:=by rw [e]; simp
 have l1:=D.lt ha
 have l2:(m.gV a).prev<3120:=by
  rcases D.inv.prev ha with h|h
  ·omega
  ·exact D.lt h
 have l3:(m.gV a).next<3120:=by
  rcases D.inv.next ha with h|h
  ·omega
  ·exact D.lt h
 refine T.above D.len (fun x hx=>?_) hj
 unfold M.remV
 rw [if_neg (by omega),if_neg (by omega),if_neg (by omega),decV_out]
 intro h
 have:=D.lt (D.inv.rem_facts e x h).1
 omega
theorem UI.lay_at (D:UI m L) {p a:Int} (hp:p=0\/p∈L) (haP:P15 a) (haL:a∉L) {c:Cap} (hc:c.ty≠0) (hr:slotRB ⟨c,0,0,0⟩=true) {j:Int} (hj:3120<=j):(m.layX p a c).at j=m.at j:=by
 obtain ⟨_,_,k3,k4,k5,k6⟩:=D.lay (r:=m) rfl hp haP haL hc hr
 have l1:=(P15_lt haP).1
 have l2:=D.nx_lt hp
 have l3:p<3120:=by
  rcases hp with h|h
  ·omega
  ·exact D.lt h
 have T:m.To (m.layX p a c) (m.layX p a c).gV (m.layX p a c).fst:=⟨k6,k3,fun _ _=>rfl,rfl⟩
 refine T.above D.len (fun x hx=>?_) hj
 rw [k5 x (by omega)]
 unfold jnV
 rw [if_neg (by omega),if_neg (by omega)]
 show (if x=a then _ else _)=_
 rw [if_neg (by omega)]
end

structure PcN (c:Cap):Prop where
 bits:4<=c.bits/\c.bits<=15
 sz:szN c=2^c.bits.toNat
 lo:16<=szN c/\szN c<=32768
 obj:1024<=c.obj/\c.obj<=65535
 al:c.obj%szN c=0
 mark:0<=c.mark/\c.mark<=szN c
 rest:c.guard=0/\c.gbits=0/\c.badge=0/\c.rights=0/\c.asid=0/\c.vaddr=0/\c.line=0
theorem pcn_of {c:Cap} (h:rightB c=true) (h1:c.ty=1):PcN c:=by
 have hs:szN c=uRaw c.bits:=by unfold szN; rw [if_pos h1]
 unfold rightB at h
 rw [if_neg (by omega),if_pos h1] at h
 split at h
 ·cases h
 rename_i n1
 split at h
 ·cases h
 rename_i n2
 simp only [not_or,Decidable.not_not] at n1
 obtain ⟨b1,b2⟩:=n1
 have hp:=uRaw_le b1
 have ho:1024<=c.obj/\c.obj<=65535/\c.obj.tmod (uRaw c.bits)=0:=by
  simp only [not_and,not_or,Decidable.not_not] at n2
  obtain ⟨q1,q2,q3⟩:=n2 (by omega)
  exact ⟨by omega,by omega,q3⟩
 rw [Int.tmod_eq_emod_of_nonneg (by omega)] at ho
 exact ⟨b1,by rw [hs,uRaw_eq b1],by rw [hs]; exact hp,⟨ho.1,ho.2.1⟩,by rw [hs]; exact ho.2.2,by rw [hs]; exact inV_iff.1 h,b2⟩
theorem pcn_right {c:Cap} (h:PcN c) (h1:c.ty=1) {z:Int} (h0:0<=z) (hz:z<=szN c):rightB (c.mk' z)=true:=by
 have hs:szN c=uRaw c.bits:=by unfold szN; rw [if_pos h1]
 obtain ⟨b1,_,lo,o1,al,_,rst⟩:=h
 rw [hs] at lo al hz
 unfold rightB Cap.mk'
 simp only
 rw [if_neg (by omega),if_pos h1,if_neg (by simp only [not_or,Decidable.not_not]; exact ⟨b1,rst⟩),if_neg]
 ·exact inV_iff.2 ⟨h0,hz⟩
 ·rintro ⟨_,h⟩
  rw [Int.tmod_eq_emod_of_nonneg (by omega)] at h
  omega
def aptP (c d:Cap):Prop:=szN c=0\/szN d=0\/c.obj+szN c<=d.obj\/d.obj+szN d<=c.obj\/(c.ty=2/\d.ty=2/\c.obj=d.obj)
theorem aptP.comm {c d:Cap} (h:aptP c d):aptP d c:=by
 unfold aptP at *
 omega
structure UT (m:M) (L:List Int):Prop where
 ui:UI m L
 pc:∀ x,x∈L->(m.gV x).cap.ty=1->3584<=(m.gV x).cap.obj/\(m.gV x).cap.obj+szN (m.gV x).cap<=5120
 no:∀ x,x∈L->(m.gV x).cap.ty=1->∀ j,(m.gV x).cap.obj+(m.gV x).cap.mark<=j->j<(m.gV x).cap.obj+szN (m.gV x).cap->m.at j=0
 bel:∀ x y,x∈L->(m.gV x).cap.ty=1->y∈under m.D L x->0<szN (m.gV y).cap/\(m.gV x).cap.obj<=(m.gV y).cap.obj/\(m.gV y).cap.obj+szN (m.gV y).cap<=(m.gV x).cap.obj+(m.gV x).cap.mark
 apt:∀ x y,x∈L->y∈L->x≠y->y∉under m.D L x->x∉under m.D L y->aptP (m.gV x).cap (m.gV y).cap
section
variable {m r:M} {L:List Int}
theorem UT.pcn (U:UT m L) {x:Int} (h1:(m.gV x).cap.ty=1):PcN (m.gV x).cap:=pcn_of (U.ui.right x) h1
theorem UT.of_w {m':M} (U:UT m L) (e:m'.w=m.w):UT m' L :=
 ⟨U.ui.of_w e,by rw [gV_fun e]; exact U.pc,by rw [gV_fun e]; simp only [at_w e]; exact U.no,by rw [gV_fun e,D_w e]; exact U.bel,by rw [gV_fun e,D_w e]; exact U.apt⟩
theorem UT.touch {m':M} (U:UT m L) (hl:m'.w.length=m.w.length) (hlow:∀ j,j<3584->m'.at j=m.at j) (hz:∀ x,x∈L->(m.gV x).cap.ty=1->∀ j,(m.gV x).cap.obj+(m.gV x).cap.mark<=j->j<(m.gV x).cap.obj+szN (m.gV x).cap->m'.at j=0) :
  UT m' L/\∀ x,P15 x->m'.gE x=m.gE x/\m'.gV x=m.gV x:=by
 obtain ⟨D,key⟩:=U.ui.touch hl (hlow 2 (by omega)) fun x hx k h0 h3=>hlow _ (by have:=P15_lt hx; omega)
 have hV:∀ x,x∈L->m'.gV x=m.gV x:=fun x hx=>(key x (U.ui.sub x hx)).2
 have hD:∀ x,x∈L->m'.D x=m.D x:=fun x hx=>by unfold M.D; rw [hV x hx]
 have hu:∀ x,under m'.D L x=under m.D L x:=fun x=>under_congr hD
 refine ⟨⟨D,fun x hx=>?_,fun x hx=>?_,fun x y hx=>?_,fun x y hx hy=>?_⟩,key⟩
 ·rw [hV x hx]; exact U.pc x hx
 ·rw [hV x hx]; exact hz x hx
 ·rw [hV x hx,hu]
  intro h1 h2
  rw [hV y (under_sub h2).1]
  exact U.bel x y hx h1 h2
 ·rw [hV x hx,hV y hy,hu,hu]
  exact U.apt x y hx hy
theorem zeroX_at {m:M} {x k:Int} (h:m.has x k=true) {j:Int} (hj:0<=j):(zeroX m x k).at j=if x<=j/\j<x+k then 0 else m.at j:=by
 obtain ⟨h1,h2,h3,h4⟩:=M.has_iff.1 h
 unfold zeroX
 rw [if_pos h,M.at_tick,M.fill_at _ _ _ _ _ (by omega)]
 by_cases c:x<=j/\j<x+k
 ·rw [if_pos c,if_pos (by omega)]; rfl
 ·rw [if_neg c,if_neg (by omega)]
theorem zeroX_len (m:M) (x k:Int):(zeroX m x k).w.length=m.w.length:=by
 unfold zeroX; split
 ·exact M.fill_len _ _ _ _
 ·rfl
theorem UT.zero (U:UT m L) {o k:Int} (h0:3584<=o) (hk:0<=k) (h1:o+k<=5120):UT (zeroX m o k) L/\(∀ x,P15 x->(zeroX m o k).gE x=m.gE x/\(zeroX m o k).gV x=m.gV x)/\∀ j,0<=j->(zeroX m o k).at j=if o<=j/\j<o+k then 0 else m.at j:=by
 have hl:=U.ui.len
 have hh:m.has o k=true:=M.has_iff.2 (by omega)
 have hat:=fun j (hj:0<=j)=>zeroX_at hh hj
 have hneg:∀ j:Int,j<0->(zeroX m o k).at j=m.at j:=fun j hj=>by
  have e:j.toNat=(0:Int).toNat:=by omega
  have q:=hat 0 (by omega)
  rw [if_neg (by omega)] at q
  simp only [M.at,e] at q ⊢
  exact q
 obtain ⟨a1,a2⟩:=U.touch (m':=zeroX m o k) (zeroX_len _ _ _) (fun j hj=>by
  by_cases h:j<0
  ·exact hneg j h
  ·rw [hat j (by omega),if_neg (by omega)]) (fun x hx h1 j h2 h3=>by
  have hp:=U.pcn h1
  have:=hp.mark; have:=hp.obj
  rw [hat j (by omega)]
  split
  ·rfl
  ·exact U.no x hx h1 j h2 h3)
 exact ⟨a1,a2,hat⟩
theorem UT.mark (U:UT m L) {x:Int} (hx:x∈L) (h1:(m.gV x).cap.ty=1) {z:Int} (z0:0<=z) (z1:z<=szN (m.gV x).cap)
  (hz:(m.gV x).cap.mark<=z\/(under m.D L x=[]/\∀ j,(m.gV x).cap.obj+z<=j->j<(m.gV x).cap.obj+(m.gV x).cap.mark->m.at j=0)) :
  UT (m.scX x ((m.gV x).cap.mk' z)) L/\(∀ y,y≠0->(m.scX x ((m.gV x).cap.mk' z)).gV y=if y=x then ⟨(m.gV x).cap.mk' z,(m.gV x).prev,(m.gV x).next,(m.gV x).depth⟩ else m.gV y)/\∀ j,3120<=j->(m.scX x ((m.gV x).cap.mk' z)).at j=m.at j:=by
 have hp:=U.pcn h1
 have hty:((m.gV x).cap.mk' z).ty≠0:=by show (m.gV x).cap.ty≠0; omega
 have hr:slotRB ⟨(m.gV x).cap.mk' z,(m.gV x).prev,(m.gV x).next,(m.gV x).depth⟩=true:=by
  obtain ⟨_,hk⟩:True/\slotRB (m.gV x)=true:=⟨trivial,m.gV_u x⟩
  have q:=pcn_right hp h1 z0 z1
  have ht0:(((m.gV x).cap.mk' z).ty==0)=false:=by simpa using hty
  unfold slotRB at hk ⊢
  simp only [Bool.and_eq_true] at hk
  simp only [ht0,Bool.false_and,Bool.not_false,q,Bool.true_and,hk.2.2]
 obtain ⟨D,T⟩:=U.ui.scX hx hty hr
 have hat:=fun j (hj:3120<=j)=>U.ui.scX_at hx hty hr hj
 obtain ⟨m',hm⟩:∃ q,m.scX x ((m.gV x).cap.mk' z)=q:=⟨_,rfl⟩
 rw [hm] at D T hat ⊢
 have hV:∀ y,y≠0->m'.gV y=if y=x then ⟨(m.gV x).cap.mk' z,(m.gV x).prev,(m.gV x).next,(m.gV x).depth⟩ else m.gV y:=T.V
 have hc:∀ y,y∈L->(m'.gV y).cap=if y=x then (m.gV x).cap.mk' z else (m.gV y).cap:=fun y hy=>by
  rw [hV y (U.ui.l0 hy)]; split<;>rfl
 have hty2:∀ y,y∈L->(m'.gV y).cap.ty=(m.gV y).cap.ty:=fun y hy=>by
  rw [hc y hy]; split
  ·rename_i e; rw [e]; rfl
  ·rfl
 have ho:∀ y,y∈L->(m'.gV y).cap.obj=(m.gV y).cap.obj:=fun y hy=>by
  rw [hc y hy]; split
  ·rename_i e; rw [e]; rfl
  ·rfl
 have hs:∀ y,y∈L->szN (m'.gV y).cap=szN (m.gV y).cap:=fun y hy=>by
  rw [hc y hy]; split
  ·rename_i e; rw [e]; rfl
  ·rfl
 have hmk:∀ y,y∈L->(m'.gV y).cap.mark=if y=x then z else (m.gV y).cap.mark:=fun y hy=>by
  rw [hc y hy]; split<;>rfl
 have hD:∀ y,y∈L->m'.D y=m.D y:=fun y hy=>by
  unfold M.D
  rw [hV y (U.ui.l0 hy)]
  split
  ·rename_i e; rw [e]
  ·rfl
 have hu:∀ y,under m'.D L y=under m.D L y:=fun y=>under_congr hD
 refine ⟨⟨D,fun y hy=>?_,fun y hy=>?_,fun y w hy=>?_,fun y w hy hw=>?_⟩,hV,hat⟩
 ·rw [hty2 y hy,ho y hy,hs y hy]; exact U.pc y hy
 ·rw [hty2 y hy,ho y hy,hs y hy,hmk y hy]
  intro t1 j
  have hpy:=(U.pc y hy t1).1
  by_cases e:y=x
  ·subst e
   rw [if_pos rfl]
   intro j1 j2
   rw [hat j (by omega)]
   rcases hz with h|⟨_,h⟩
   ·exact U.no y hy t1 j (by omega) j2
   ·by_cases c:j<(m.gV y).cap.obj+(m.gV y).cap.mark
    ·exact h j j1 c
    ·exact U.no y hy t1 j (by omega) j2
  ·rw [if_neg e]
   intro j1 j2
   have:=(U.pcn t1).mark
   rw [hat j (by omega)]
   exact U.no y hy t1 j j1 j2
 ·rw [hty2 y hy,hu]
  intro t1 hw
  have hwL:=(under_sub hw).1
  rw [ho y hy,ho w hwL,hs w hwL,hmk y hy]
  have q:=U.bel y w hy t1 hw
  by_cases e:y=x
  ·rw [if_pos e]
   rcases hz with h|⟨h,_⟩
   ·rw [e] at q ⊢
    exact ⟨q.1,q.2.1,by omega⟩
   ·rw [e,h] at hw; cases hw
  ·rw [if_neg e]; exact q
 ·rw [hu,hu]
  intro hne n1 n2
  have:=U.apt y w hy hw hne n1 n2
  unfold aptP at this ⊢
  rw [hs y hy,hs w hw,ho y hy,ho w hw,hty2 y hy,hty2 w hw]
  exact this
theorem UT.lay (U:UT m L) {x a:Int} (hx:x∈L) (h1:(m.gV x).cap.ty=1) (haP:P15 a) (haL:a∉L) {c:Cap} (hc:c.ty≠0) (hr:rightB c=true) (cs:0<szN c) (lo:(m.gV x).cap.obj<=c.obj) (hi:c.obj+szN c<=(m.gV x).cap.obj+(m.gV x).cap.mark)
  (hs:∀ y,y∈under m.D L x->(m.gV y).cap.obj+szN (m.gV y).cap<=c.obj) (hz:c.ty=1->c.mark=0/\∀ j,c.obj<=j->j<c.obj+szN c->m.at j=0) :
  UT (m.layX x a c) (insL x a L)/\(∀ y,y≠0->((m.layX x a c).gV y).cap=if y=a then c else (m.gV y).cap)/\((m.layX x a c).D a=m.D x+1/\∀ y,y∈L->(m.layX x a c).D y=m.D y)/\(∀ j,3120<=j->(m.layX x a c).at j=m.at j) /\
  (∀ y w,w≠a->(y∈under (m.layX x a c).D (insL x a L) w↔(y≠a/\y∈under m.D L w)\/(y=a/\(w=x\/x∈under m.D L w))))/\under (m.layX x a c).D (insL x a L) a=[]:=by
 have x0:=U.ui.l0 hx
 have a0:=U.ui.n0 haP
 have hxa:x≠a:=fun e=>haL (e ▸ hx)
 have hr2:slotRB ⟨c,0,0,0⟩=true:=by
  have ht0:(c.ty==0)=false:=by simpa using hc
  simp only [slotRB,ht0,Bool.false_and,Bool.not_false,hr,Bool.true_and]
  rfl
 obtain ⟨_,D,_,_,hV,_⟩:=U.ui.lay (r:=m) rfl (p:=x) (.inr hx) haP haL hc hr2
 have hat:=fun j (hj:3120<=j)=>U.ui.lay_at (p:=x) (.inr hx) haP haL hc hr2 hj
 have eL:insLL x a L=insL x a L:=if_neg x0
 rw [eL] at D
 obtain ⟨m',hm⟩:∃ q,m.layX x a c=q:=⟨_,rfl⟩
 rw [hm] at D hV hat ⊢
 have hcap:∀ y,y≠0->(m'.gV y).cap=if y=a then c else (m.gV y).cap:=fun y hy=>by
  rw [hV y hy,jnV_cap]; split<;>rfl
 have hdep:∀ y,y≠0->m'.D y=if y=a then m.D x+1 else m.D y:=fun y hy=>by
  unfold M.D
  rw [hV y hy,jnV_depth]
  by_cases e:y=a
  ·simp only [if_pos e,if_neg x0]
  ·simp only [if_neg e]
 have hDa:m'.D a=m.D x+1:=by rw [hdep a a0,if_pos rfl]
 have hDL:∀ y,y∈L->m'.D y=m.D y:=fun y hy=>by rw [hdep y (U.ui.l0 hy),if_neg (fun e:y=a=>haL (e ▸ hy))]
 have hun:∀ y w,w≠a->(y∈under m'.D (insL x a L) w↔(y≠a/\y∈under m.D L w)\/(y=a/\(w=x\/x∈under m.D L w))):=fun y w hw=>by
  rw [under_ins hDa hw U.ui.inv.nd haL hDL]
  refine or_congr Iff.rfl (and_congr Iff.rfl (or_congr ⟨And.left,fun e=>⟨e,hx⟩⟩ Iff.rfl))
 have hnew:under m'.D (insL x a L) a=[]:=under_new hDa haL hDL U.ui.dep
 have hmem:∀ y,y∈insL x a L->y=a\/y∈L:=fun y hy=>insL_mem hy
 have hcL:∀ y,y∈L->(m'.gV y).cap=(m.gV y).cap:=fun y hy=>by rw [hcap y (U.ui.l0 hy),if_neg (fun e:y=a=>haL (e ▸ hy))]
 have hca:(m'.gV a).cap=c:=by rw [hcap a a0,if_pos rfl]
 have hpx:=U.pc x hx h1
 have hpm:=(U.pcn h1).mark
 have hps:=(U.pcn h1).lo
 -- those that are no part of the piece's way
 have far:∀ y,y∈L->y≠x->x∉under m.D L y->aptP c (m.gV y).cap:=fun y hy hyx hn=>by
  by_cases hyu:y∈under m.D L x
  ·have q1:=U.bel x y hx h1 hyu
   have q2:=hs y hyu
   unfold aptP; omega
  ·have:=U.apt x y hx hy (Ne.symm hyx) hyu hn
   unfold aptP at this ⊢
   omega
 refine ⟨⟨D,fun y hy=>?_,fun y hy=>?_,fun y w hy=>?_,fun y w hy hw=>?_⟩,hcap,⟨hDa,hDL⟩,hat,hun,hnew⟩
 ·rcases hmem y hy with e|h
  ·rw [e,hca]
   intro _
   omega
  ·rw [hcL y h]; exact U.pc y h
 ·rcases hmem y hy with e|h
  ·rw [e,hca]
   intro t1 j j1 j2
   obtain ⟨k1,k2⟩:=hz t1
   rw [hat j (by omega)]
   exact k2 j (by omega) j2
  ·rw [hcL y h]
   intro t1 j j1 j2
   have:=(U.pcn t1).mark
   have:=U.pc y h t1
   rw [hat j (by omega)]
   exact U.no y h t1 j j1 j2
 ·rcases hmem y hy with e|h
  ·intro _ hw
   rw [e,hnew] at hw
   cases hw
  ·have hya:y≠a:=fun e=>haL (e ▸ h)
   rw [hcL y h]
   intro t1 hw
   rcases (hun w y hya).1 hw with ⟨q1,q2⟩|⟨q1,q2⟩
   ·rw [hcL w (under_sub q2).1]
    exact U.bel y w h t1 q2
   ·rw [q1,hca]
    rcases q2 with q2|q2
    ·rw [q2]; exact ⟨cs,lo,hi⟩
    ·have:=U.bel y x h t1 q2
     omega
 ·intro hne n1 n2
  rcases hmem y hy with e|h
  ·rcases hmem w hw with e2|h2
   ·exact absurd (e.trans e2.symm) hne
   ·have hwa:w≠a:=fun e=>haL (e ▸ h2)
    rw [e,hca,hcL w h2]
    rw [e] at n2
    have k:¬ (w=x\/x∈under m.D L w):=fun q=>n2 ((hun a w hwa).2 (.inr ⟨rfl,q⟩))
    simp only [not_or] at k
    exact far w h2 k.1 k.2
  ·have hya:y≠a:=fun e=>haL (e ▸ h)
   rcases hmem w hw with e2|h2
   ·rw [e2,hca,hcL y h]
    rw [e2] at n1
    have k:¬ (y=x\/x∈under m.D L y):=fun q=>n1 ((hun a y hya).2 (.inr ⟨rfl,q⟩))
    simp only [not_or] at k
    exact (far y h k.1 k.2).comm
   ·have hwa:w≠a:=fun e=>haL (e ▸ h2)
    rw [hcL y h,hcL w h2]
    exact U.apt y w h h2 hne (fun q=>n1 ((hun w y hya).2 (.inl ⟨hwa,q⟩))) (fun q=>n2 ((hun y w hwa).2 (.inl ⟨hya,q⟩)))
end

/-! ### the same words of the same words -/
section
variable {m r:M} (hw:r.w=m.w)
include hw
theorem put_wc (i:Nat) (x:Int):(r.put i x).w=(m.put i x).w:=by
 show r.w.set i (uw x)=m.w.set i (uw x)
 rw [hw]
theorem has_wc (a k:Int):r.has a k=m.has a k:=by simp only [M.has,hw]
theorem fill_wc (a:Nat) (x:Int):∀ k,(r.fill a x k).w=(m.fill a x k).w
 | 0=>hw
 | k+1=>put_wc (fill_wc a x k) _ _
theorem zeroX_wc (a k:Int):(zeroX r a k).w=(zeroX m a k).w:=by
 unfold zeroX
 rw [has_wc hw]
 split
 ·exact fill_wc hw _ _ _
 ·exact hw
theorem putS_wc (a:Int) (s:Slot):(r.putS a s).w=(m.putS a s).w:=put_wc (put_wc (put_wc (put_wc hw _ _) _ _) _ _) _ _
theorem pX_wc (a:Int) (s:Slot):(r.pX a s).w=(m.pX a s).w:=by
 unfold M.pX
 rw [there_w hw]
 split
 ·exact putS_wc hw _ _
 ·exact hw
theorem scX_wc (a:Int) (c:Cap):(r.scX a c).w=(m.scX a c).w:=by
 unfold M.scX
 rw [gV_w hw]
 exact pX_wc (by rw [gX_w,gX_w]; exact hw) _ _
theorem wrs_wc (o:Nat) (ws:List Int):∀ k,(r.wrs o ws k).w=(m.wrs o ws k).w
 | 0=>hw
 | k+1=>put_wc (wrs_wc o ws k) _ _
theorem thX_wc (x:Int) (t:Th):(r.thX x t).w=(m.thX x t).w:=by
 unfold M.thX
 have:otB r x 64=otB m x 64:=by simp only [otB,hw]
 rw [this]
 split
 ·exact wrs_wc (wrs_wc hw _ _ _) _ _ _
 ·exact hw
theorem rsS_wc (x:Int) (c:Cap):(rsS x r c).w=(rsS x m c).w:=scX_wc (zeroX_wc hw _ _) _ _
end
theorem rsW_wc (x:Int):∀ (k:Nat) {m r:M} (c:Cap) (u:Option Int),r.w=m.w->(rsW x k r c u).1.w=(rsW x k m c u).1.w/\(rsW x k r c u).2=(rsW x k m c u).2
 | 0,m,r,c,u,hw=>⟨hw,rfl⟩
 | k+1,m,r,c,u,hw=>by
  simp only [rsW]
  split
  ·exact ⟨hw,rfl⟩
  ·cases u with
   | none=>exact rsW_wc x k _ none (rsS_wc hw x c)
   | some v =>
    simp only
    split
    ·exact ⟨hw,rfl⟩
    ·exact rsW_wc x k _ _ (rsS_wc hw x c)
theorem rstV_wc {m r:M} (hw:r.w=m.w) (x:Int) (u:Option Int):(rstV r x u).1.w=(rstV m x u).1.w/\(rstV r x u).2=(rstV m x u).2:=by
 unfold rstV
 have e1:(r.gX x).nxV x=(m.gX x).nxV x:=nxV_w (by rw [gX_w,gX_w]; exact hw) x
 rw [gV_w hw,e1]
 split
 ·split
  ·exact rsW_wc x _ _ _ (by rw [nxX_w,nxX_w,gX_w,gX_w]; exact hw)
  ·exact ⟨by simp only [nxX_w,gX_w]; exact hw,rfl⟩
 ·exact ⟨by simp only [gX_w]; exact hw,rfl⟩

structure Rst (m m':M) (L:List Int) (x z:Int):Prop where
 ut:UT m' L
 V:∀ y,P15 y->m'.gV y=if y=x then ⟨(m.gV x).cap.mk' z,(m.gV x).prev,(m.gV x).next,(m.gV x).depth⟩ else m.gV y
 at_:∀ j,3120<=j->m'.at j=if (m.gV x).cap.obj+z<=j/\j<(m.gV x).cap.obj+(m.gV x).cap.mark then 0 else m.at j
theorem Rst.D {m m':M} {L:List Int} {x z:Int} (R:Rst m m' L x z) {y:Int} (hy:y∈L):m'.D y=m.D y:=by
 unfold M.D
 rw [R.V y (R.ut.ui.sub y hy)]
 split
 ·rename_i e; rw [e]
 ·rfl
theorem Rst.same {m m':M} {L:List Int} {x:Int} (U:UT m L) (e:m'.w=m.w):Rst m m' L x (m.gV x).cap.mark :=
 ⟨U.of_w e,fun y hy=>by
  rw [gV_w e]
  split
  ·rename_i e; rw [e]; rfl
  ·rfl,fun j hj=>by rw [at_w e,if_neg (by omega)]⟩
theorem Rst.trans {m m1 m2:M} {L:List Int} {x z1 z2:Int} (hx:x∈L) (R1:Rst m m1 L x z1) (R2:Rst m1 m2 L x z2) (h1:z2<=z1) (h2:z1<=(m.gV x).cap.mark):Rst m m2 L x z2:=by
 have e:=R1.V x (R1.ut.ui.sub x hx)
 rw [if_pos rfl] at e
 refine ⟨R2.ut,fun y hy=>?_,fun j hj=>?_⟩
 ·rw [R2.V y hy]
  by_cases c:y=x
  ·rw [if_pos c,if_pos c,e]; rfl
  ·rw [if_neg c,if_neg c,R1.V y hy,if_neg c]
 ·rw [R2.at_ j hj,e,R1.at_ j hj]
  show (if (m.gV x).cap.obj+z2<=j/\j<(m.gV x).cap.obj+z1 then 0 else _)=_
  by_cases c1:(m.gV x).cap.obj+z2<=j/\j<(m.gV x).cap.obj+z1
  ·rw [if_pos c1,if_pos (by omega)]
  ·rw [if_neg c1]
   by_cases c2:(m.gV x).cap.obj+z1<=j/\j<(m.gV x).cap.obj+(m.gV x).cap.mark
   ·rw [if_pos c2,if_pos (by omega)]
   ·rw [if_neg c2,if_neg (by omega)]
section
variable {m:M} {L:List Int}
theorem UT.rsS (U:UT m L) {x:Int} (hx:x∈L) (h1:(m.gV x).cap.ty=1) (hu:under m.D L x=[]) (h0:0<(m.gV x).cap.mark):Rst m (rsS x m (m.gV x).cap) L x (((m.gV x).cap.mark-1)/64*64):=by
 have hp:=U.pcn h1
 have hpc:=U.pc x hx h1
 have hmk:=hp.mark
 obtain ⟨z,hz⟩:∃ z,((m.gV x).cap.mark-1)/64*64=z:=⟨_,rfl⟩
 have z0:0<=z/\z<(m.gV x).cap.mark:=by omega
 have eN:rsN (m.gV x).cap=(m.gV x).cap.mk' z:=by unfold rsN Cap.mk'; rw [hz]
 unfold Go.Proofs.YtcdfofeolgbnbaaGreat.rsS
 rw [hz,eN]
 obtain ⟨U1,key,hat⟩:=U.zero (o:=(m.gV x).cap.obj+z) (k:=(m.gV x).cap.mark-z) (by omega) (by omega) (by omega)
 obtain ⟨m1,hm1⟩:∃ q,zeroX m ((m.gV x).cap.obj+z) ((m.gV x).cap.mark-z)=q:=⟨_,rfl⟩
 rw [hm1] at U1 key hat ⊢
 have hP:=U.ui.sub x hx
 have e:m1.gV x=m.gV x:=(key x hP).2
 have hu1:under m1.D L x=[]:=by
  rw [under_congr (fun y hy=>by unfold M.D; rw [(key y (U.ui.sub y hy)).2])]; exact hu
 rw [<-e] at h1 z0 hpc hmk ⊢
 obtain ⟨k1,k2,k3⟩:=U1.mark hx h1 (z:=z) (by omega) (by omega) (.inr ⟨hu1,fun j j1 j2=>by
  rw [hat j (by omega),<-e,if_pos (by omega)]⟩)
 refine ⟨k1,fun y hy=>?_,fun j hj=>?_⟩
 ·rw [k2 y (U.ui.n0 hy),e]
  by_cases c:y=x
  ·rw [if_pos c,if_pos c]
  ·rw [if_neg c,if_neg c]
   exact (key y hy).2
 ·rw [k3 j hj,hat j (by omega)]
  first|rw [e]|skip
  by_cases c:(m.gV x).cap.obj+z<=j/\j<(m.gV x).cap.obj+(m.gV x).cap.mark
  ·rw [if_pos (by omega),if_pos c]
  ·rw [if_neg (by omega),if_neg c]
theorem UT.rsW {x:Int} (hP:P15 x):∀ (k:Nat) {m:M} (u:Option Int),UT m L->x∈L->(m.gV x).cap.ty=1->under m.D L x=[]->(m.gV x).cap.mark<=k ->
  ∃ z,0<=z/\z<=(m.gV x).cap.mark/\Rst m (rsW x k m (m.gV x).cap u).1 L x z/\((rsW x k m (m.gV x).cap u).2.2=0->z=0)/\(u=none->(rsW x k m (m.gV x).cap u).2.2=0)
 | 0,m,u,U,hx,h1,hu,hk=>by
  have:=(U.pcn h1).mark
  exact ⟨(m.gV x).cap.mark,by omega,Int.le_refl _,Rst.same U rfl,fun _=>by omega,fun _=>rfl⟩
 | k+1,m,u,U,hx,h1,hu,hk=>by
  have hm:=(U.pcn h1).mark
  simp only [Go.Proofs.YtcdfofeolgbnbaaGreat.rsW]
  by_cases h0:(m.gV x).cap.mark<=0
  ·rw [if_pos h0]
   exact ⟨(m.gV x).cap.mark,by omega,Int.le_refl _,Rst.same U rfl,fun _=>by omega,fun _=>rfl⟩
  ·rw [if_neg h0]
   have R:=U.rsS hx h1 hu (by omega)
   have e:=R.V x hP
   rw [if_pos rfl] at e
   have ec:((Go.Proofs.YtcdfofeolgbnbaaGreat.rsS x m (m.gV x).cap).gV x).cap=rsN (m.gV x).cap:=by rw [e]; rfl
   have em:(rsN (m.gV x).cap).mark=((m.gV x).cap.mark-1)/64*64:=rfl
   have key:=fun u'=>UT.rsW hP k u' R.ut hx (by rw [ec]; exact h1) (by rw [under_congr fun y hy=>R.D hy]; exact hu) (by rw [ec,em]; omega)
   rw [ec,em] at key
   have fin:∀ u',∃ z,0<=z/\z<=(m.gV x).cap.mark/\Rst m (Go.Proofs.YtcdfofeolgbnbaaGreat.rsW x k (Go.Proofs.YtcdfofeolgbnbaaGreat.rsS x m (m.gV x).cap) (rsN (m.gV x).cap) u').1 L x z/\((Go.Proofs.YtcdfofeolgbnbaaGreat.rsW x k (Go.Proofs.YtcdfofeolgbnbaaGreat.rsS x m (m.gV x).cap) (rsN (m.gV x).cap) u').2.2=0->z=0)/\(u'=none->(Go.Proofs.YtcdfofeolgbnbaaGreat.rsW x k (Go.Proofs.YtcdfofeolgbnbaaGreat.rsS x m (m.gV x).cap) (rsN (m.gV x).cap) u').2.2=0):=fun u'=>by
    obtain ⟨z,q1,q2,q3,q4,q5⟩:=key u'
    exact ⟨z,q1,by omega,R.trans hx q3 q2 (by omega),q4,q5⟩
   cases u with
   | none=>exact fin none
   | some v =>
    simp only
    split
    ·exact ⟨(m.gV x).cap.mark,by omega,Int.le_refl _,Rst.same U rfl,fun h=>absurd (show (3:Int)=0 from h) (by decide),fun h=>absurd h (by simp)⟩
    ·obtain ⟨z,q1,q2,q3,q4,_⟩:=fin (some (v-1))
     exact ⟨z,q1,q2,q3,q4,fun h=>absurd h (by simp)⟩
theorem UT.rst (U:UT m L) {x:Int} (hP:P15 x) (u:Option Int) :
  ((rstV m x u).2.2≠0/\(rstV m x u).1.w=m.w)\/(x∈L/\(m.gV x).cap.ty=1/\under m.D L x=[]/\∃ z,0<=z/\z<=(m.gV x).cap.mark/\Rst m (rstV m x u).1 L x z/\((rstV m x u).2.2=0->z=0)/\(u=none->(rstV m x u).2.2=0)):=by
 unfold rstV
 by_cases h1:(m.gV x).cap.ty=1
 ·rw [if_pos h1]
  have hx:x∈L:=Decidable.not_not.1 fun h=>by have:=(U.ui.em hP).2 h; omega
  have e0:(m.gX x).nxV x=m.nxV x:=nxV_w (gX_w _ _) x
  by_cases h2:(m.gX x).nxV x=0
  ·rw [if_pos h2]
   have hu:under m.D L x=[]:=by
    rw [e0,U.ui.nx hP] at h2
    cases hh:under m.D L x with
    | nil=>rfl
    | cons y Y =>
     rw [hh] at h2
     have:y∈L:=(under_sub (D:=m.D) (x:=x) (by rw [hh]; exact List.mem_cons_self)).1
     exact absurd h2 (U.ui.l0 this)
   have ew:((m.gX x).nxX x).w=m.w:=by rw [nxX_w,gX_w]
   have U':=U.of_w ew
   obtain ⟨z,q1,q2,q3,q4,q5⟩:=UT.rsW hP (m.gV x).cap.mark.toNat (m:=(m.gX x).nxX x) u U' hx (by rw [gV_w ew]; exact h1) (by rw [D_w ew]; exact hu) (by rw [gV_w ew]; omega)
   rw [gV_w ew] at q2 q3 q4 q5
   refine .inr ⟨hx,h1,hu,z,q1,q2,⟨q3.ut,fun y hy=>?_,fun j hj=>?_⟩,q4,q5⟩
   ·rw [q3.V y hy,gV_w ew,gV_w ew]
   ·rw [q3.at_ j hj,gV_w ew,at_w ew]
  ·rw [if_neg h2]
   exact .inl ⟨show (152:Int)≠0 by decide,by rw [nxX_w,gX_w]⟩
 ·rw [if_neg h1]
  exact .inl ⟨show (60:Int)≠0 by decide,gX_w _ _⟩
end
end Go.Proofs.YtcdfofeolgbnbaaGreat

