/- Law 12: the memories that acts make of the plan's: in order,whatever is done; code and document make the same words. -/
import Derived.Test.YtcdfofeolgbnbaaGreatZ20
import Derived.Test.YtcdfofeolgbnbaaGreatZ11
import Derived.Test.YtcdfofeolgbnbaaGreatZ19
/- Lists whose links agree. -/
namespace Go.Proofs.YtcdfofeolgbnbaaGreat
open Go.D
set_option linter.all false
set_option maxRecDepth 100000
set_option maxHeartbeats 4000000

def chain (V:Int->Slot) (nx:Int):Int->List Int->Prop
 | _,[]=>True
 | pr,x::L=>(V x).prev=pr/\(V x).next=L.headD nx/\chain V nx x L
theorem headD_app {α:Type} (L1 L2:List α) (d:α):(L1++L2).headD d=L1.headD (L2.headD d):=by cases L1<;>rfl
theorem getLastD_cons' {α:Type} (x d:α) (L:List α):(x::L).getLastD d=L.getLastD x:=by cases L<;>rfl
theorem chain_app {V:Int->Slot} {nx:Int}:∀ {L1:List Int} {pr:Int} {L2:List Int},chain V nx pr (L1++L2)↔chain V (L2.headD nx) pr L1/\chain V nx (L1.getLastD pr) L2
 | [],pr,L2=>by simp [chain]
 | x::L1,pr,L2=>by
  rw [getLastD_cons']
  simp only [List.cons_append,chain,chain_app (L1:=L1),headD_app]
  constructor
  ·rintro ⟨h1,h2,h3,h4⟩; exact ⟨⟨h1,h2,h3⟩,h4⟩
  ·rintro ⟨⟨h1,h2,h3⟩,h4⟩; exact ⟨h1,h2,h3,h4⟩
theorem chain_congr {V V':Int->Slot} {nx:Int}:∀ {L:List Int} {pr:Int},(∀ x,x∈L->(V' x).prev=(V x).prev/\(V' x).next=(V x).next)->chain V nx pr L->chain V' nx pr L
 | [],_,_,_=>trivial
 | x::L,pr,h,⟨h1,h2,h3⟩=>⟨(h x List.mem_cons_self).1.trans h1,(h x List.mem_cons_self).2.trans h2,chain_congr (fun y hy=>h y (List.mem_cons_of_mem _ hy)) h3⟩
theorem chain_at {V:Int->Slot} {nx:Int}:∀ {L:List Int} {pr:Int},chain V nx pr L->∀ (i:Nat) (x:Int),L[i]?=some x->(V x).prev=(if i=0 then pr else L.getD (i-1) 0)/\(V x).next=L.getD (i+1) nx
 | [],_,_,i,x,h=>by simp at h
 | y::L,pr,⟨h1,h2,h3⟩,0,x,h=>by
  simp only [List.getElem?_cons_zero,Option.some.injEq] at h
  subst h
  refine ⟨h1,h2.trans ?_⟩
  cases L<;>rfl
 | y::L,pr,⟨h1,h2,h3⟩,i+1,x,h=>by
  simp only [List.getElem?_cons_succ] at h
  obtain ⟨k1,k2⟩:=chain_at h3 i x h
  refine ⟨k1.trans ?_,k2.trans ?_⟩
  ·cases i with
   | zero=>rfl
   | succ i=>simp
  ·simp
theorem nodup_at {L:List Int} (hn:L.Nodup) {i j:Nat} {x:Int} (h1:L[i]?=some x) (h2:L[j]?=some x):i=j:=by
 obtain ⟨a1,a2⟩:=List.getElem?_eq_some_iff.1 h1
 obtain ⟨b1,b2⟩:=List.getElem?_eq_some_iff.1 h2
 exact (List.getElem_inj hn).1 (a2.trans b2.symm)
theorem chain_two {V:Int->Slot} {L:List Int} (hc:chain V 0 0 L) (hn:L.Nodup) (h0:(0:Int)∉L) {x y:Int} (hx:x∈L) (hy:y∈L):(V x).next=y↔(V y).prev=x:=by
 obtain ⟨i,hi⟩:=List.getElem?_of_mem hx
 obtain ⟨j,hj⟩:=List.getElem?_of_mem hy
 have x0:x≠0:=fun e=>h0 (e ▸ hx)
 have y0:y≠0:=fun e=>h0 (e ▸ hy)
 rw [(chain_at hc i x hi).2,(chain_at hc j y hj).1]
 constructor
 ·intro h
  have hj2:L[i+1]?=some y:=by
   rw [List.getD_eq_getElem?_getD] at h
   cases e:L[i+1]? with
   | none=>rw [e] at h; exact absurd h.symm y0
   | some z=>rw [e] at h; simp only [Option.getD_some] at h; rw [h]
  have:=nodup_at hn hj hj2
  subst this
  simp only [Nat.add_one_ne_zero,if_false,Nat.add_sub_cancel]
  rw [List.getD_eq_getElem?_getD,hi]; rfl
 ·intro h
  by_cases e:j=0
  ·rw [if_pos e] at h; exact absurd h.symm x0
  ·rw [if_neg e] at h
   have hi2:L[j-1]?=some x:=by
    rw [List.getD_eq_getElem?_getD] at h
    cases e2:L[j-1]? with
    | none=>rw [e2] at h; exact absurd h.symm x0
    | some z=>rw [e2] at h; simp only [Option.getD_some] at h; rw [h]
   have:=nodup_at hn hi hi2
   rw [this,show j-1+1=j by omega,List.getD_eq_getElem?_getD,hj]; rfl
theorem chain_next {V:Int->Slot} {nx pr:Int} {L:List Int} (hc:chain V nx pr L) {x:Int} (hx:x∈L):(V x).next=nx\/(V x).next∈L:=by
 obtain ⟨i,hi⟩:=List.getElem?_of_mem hx
 rw [(chain_at hc i x hi).2,List.getD_eq_getElem?_getD]
 cases e:L[i+1]? with
 | none=>exact .inl rfl
 | some z=>exact .inr (List.mem_of_getElem? e)
theorem chain_prev {V:Int->Slot} {nx pr:Int} {L:List Int} (hc:chain V nx pr L) {x:Int} (hx:x∈L):(V x).prev=pr\/(V x).prev∈L:=by
 obtain ⟨i,hi⟩:=List.getElem?_of_mem hx
 rw [(chain_at hc i x hi).1]
 by_cases h:i=0
 ·rw [if_pos h]; exact .inl rfl
 ·rw [if_neg h,List.getD_eq_getElem?_getD]
  cases e:L[i-1]? with
  | none =>
   have:=List.getElem?_eq_none_iff.1 e
   have:=(List.getElem?_eq_some_iff.1 hi).1
   omega
  | some z=>exact .inr (List.mem_of_getElem? e)
theorem chain_head {V:Int->Slot} {nx pr:Int} {L:List Int} (hc:chain V nx pr L) (hn:L.Nodup) (hpr:pr∉L) {x:Int} (hx:x∈L):(V x).prev=pr↔L.headD nx=x:=by
 cases L with
 | nil=>cases hx
 | cons y L =>
  obtain ⟨h1,h2,h3⟩:=hc
  simp only [List.headD_cons]
  rcases List.mem_cons.1 hx with rfl|hx'
  ·exact ⟨fun _=>rfl,fun _=>h1⟩
  ·constructor
   ·intro h
    rcases chain_prev h3 hx' with e|e
    ·rw [h] at e
     exact absurd (e ▸ List.mem_cons_self) hpr
    ·rw [h] at e
     exact absurd (List.mem_cons_of_mem _ e) hpr
   ·intro h
    rw [h] at hn
    exact absurd hx' (List.nodup_cons.1 hn).1

structure M.Inv (m:M) (P:Int->Prop) (L:List Int):Prop where
 len:4<=m.w.length/\m.w.length%4=0
 two:m.at 2=m.fst
 nd:L.Nodup
 full:∀ x,x∈L->m.fE x=0
 ch:chain m.gV 0 0 L
 fst:m.fst=L.headD 0
 out:∀ x,P x->m.gE x=0/\(x∉L->(m.gV x).prev=0/\(m.gV x).next=0/\(m.gV x).depth=0)
section
variable {m:M} {P:Int->Prop} {L:List Int}
theorem M.Inv.no0 (I:m.Inv P L):(0:Int)∉L:=fun h=>there_ne0 (fE_there (I.full 0 h)) rfl
theorem M.Inv.gE (I:m.Inv P L) {x:Int} (h:x∈L):m.gE x=0/\(m.gV x).cap.ty≠0:=fE_zero.1 (I.full x h)
theorem M.Inv.next (I:m.Inv P L) {x:Int} (h:x∈L):(m.gV x).next=0\/(m.gV x).next∈L:=chain_next I.ch h
theorem M.Inv.prev (I:m.Inv P L) {x:Int} (h:x∈L):(m.gV x).prev=0\/(m.gV x).prev∈L:=chain_prev I.ch h
theorem M.Inv.two_way (I:m.Inv P L) {x y:Int} (hx:x∈L) (hy:y∈L):(m.gV x).next=y↔(m.gV y).prev=x:=chain_two I.ch I.nd I.no0 hx hy
theorem M.Inv.first (I:m.Inv P L) {x:Int} (hx:x∈L):(m.gV x).prev=0↔m.fst=x:=by
 rw [I.fst]; exact chain_head I.ch I.nd I.no0 hx
theorem M.Inv.fst_mem (I:m.Inv P L):m.fst=0\/m.fst∈L:=by
 rw [I.fst]
 cases L with
 | nil=>exact .inl rfl
 | cons x L=>exact .inr List.mem_cons_self
theorem M.Inv.irr_next (I:m.Inv P L) {x:Int} (hx:x∈L):(m.gV x).next≠x:=by
 intro e
 obtain ⟨i,hi⟩:=List.getElem?_of_mem hx
 have h:=(chain_at I.ch i x hi).2
 rw [e,List.getD_eq_getElem?_getD] at h
 cases e2:L[i+1]? with
 | none=>rw [e2] at h; exact I.no0 (by simp only [Option.getD_none] at h; rw [<-h]; exact hx)
 | some z =>
  rw [e2] at h
  simp only [Option.getD_some] at h
  rw [<-h] at e2
  have:=nodup_at I.nd hi e2
  omega
theorem M.Inv.irr_prev (I:m.Inv P L) {x:Int} (hx:x∈L):(m.gV x).prev≠x:=fun e=>I.irr_next hx ((I.two_way hx hx).2 e)
theorem M.Inv.prev_next (I:m.Inv P L) {x:Int} (hx:x∈L):(m.gV x).next=0\/(m.gV x).prev≠(m.gV x).next:=by
 rcases I.next hx with e|e
 ·exact .inl e
 ·right
  intro h
  obtain ⟨i,hi⟩:=List.getElem?_of_mem hx
  obtain ⟨h1,h2⟩:=chain_at I.ch i x hi
  obtain ⟨y,hy⟩:∃ y,y=(m.gV x).next:=⟨_,rfl⟩
  rw [h,<-hy] at h1
  rw [<-hy] at h2 e
  have y0:y≠0:=fun e2=>I.no0 (e2 ▸ e)
  have j1:L[i+1]?=some y:=by
   rw [List.getD_eq_getElem?_getD] at h2
   cases e2:L[i+1]? with
   | none=>rw [e2] at h2; exact absurd h2 y0
   | some z=>rw [e2] at h2; simp only [Option.getD_some] at h2; rw [h2]
  by_cases e0:i=0
  ·rw [if_pos e0] at h1; exact y0 h1
  ·rw [if_neg e0,List.getD_eq_getElem?_getD] at h1
   cases e2:L[i-1]? with
   | none=>rw [e2] at h1; exact y0 h1
   | some z =>
    rw [e2] at h1
    simp only [Option.getD_some] at h1
    rw [<-h1] at e2
    have:=nodup_at I.nd j1 e2
    omega
theorem M.Inv.listed (I:m.Inv P L) {x:Int} (hx:x∈L):m.liB x (m.gV x)=true:=by
 unfold M.liB
 by_cases e:(m.gV x).prev=0
 ·rw [(I.first hx).1 e]; simp
 ·have:((m.gV x).prev==0)=false:=by simpa using e
  rw [this]; rfl
theorem M.Inv.unlisted (I:m.Inv P L) {x:Int} (hP:P x) (hx:x∉L):m.liB x (m.gV x)=false:=by
 obtain ⟨g,h⟩:=I.out x hP
 obtain ⟨h1,h2,h3⟩:=h hx
 have x0:=there_ne0 (gE_there g).1
 have:¬ m.fst=x:=fun e=>by
  rcases I.fst_mem with h4|h4
  ·exact x0 (e ▸ h4)
  ·exact hx (e ▸ h4)
 simp only [M.liB,h1,h2,h3,beq_self_eq_true,Bool.and_self,Bool.not_true,Bool.false_or,beq_eq_false_iff_ne,ne_eq,this,not_false_eq_true]
end

theorem M.Inv.to {m m':M} {P:Int->Prop} {L L':List Int} {V:Int->Slot} {F:Int} (I:m.Inv P L) (T:m.To m' V F) (hn:L'.Nodup) (hf:∀ x,x∈L'->m.gE x=0/\(V x).cap.ty≠0) (hc:chain V 0 0 L') (hF:F=L'.headD 0)
  (ho:∀ x,P x->x∉L'->(V x).prev=0/\(V x).next=0/\(V x).depth=0):m'.Inv P L':=by
 have h0:∀ x,x∈L'->x≠0:=fun x hx=>there_ne0 (gE_there (hf x hx).1).1
 refine ⟨⟨by rw [T.fr.len]; exact I.len.1,by rw [T.fr.len]; exact I.len.2⟩,T.fr.two I.two,hn,fun x hx=>T.full (hf x hx).1 (hf x hx).2,chain_congr (fun x hx=>by rw [T.V x (h0 x hx)]; exact ⟨rfl,rfl⟩) hc,T.F.trans hF,fun x hx=>?_⟩
 have hg:=(I.out x hx).1
 refine ⟨(T.E x).trans hg,fun hL=>?_⟩
 rw [T.V x (there_ne0 (gE_there hg).1)]
 exact ho x hx hL
theorem jnV_cap (V:Int->Slot) (p a n x:Int):(jnV V p a n x).cap=(V x).cap:=by
 unfold jnV; split
 ·rename_i e; rw [e]; rfl
 ·split
  ·rename_i e; rw [e]; rfl
  ·rfl
theorem jnV_depth (V:Int->Slot) (p a n x:Int):(jnV V p a n x).depth=(V x).depth:=by
 unfold jnV; split
 ·rename_i e; rw [e]; rfl
 ·split
  ·rename_i e; rw [e]; rfl
  ·rfl
theorem jnV_next (V:Int->Slot) (p a n x:Int):(jnV V p a n x).next=if x=p then a else (V x).next:=by
 unfold jnV; split
 ·rfl
 ·split
  ·rename_i e; rw [e]; rfl
  ·rfl
theorem jnV_prev (V:Int->Slot) (p a n x:Int) (h:p≠n):(jnV V p a n x).prev=if x=n then a else (V x).prev:=by
 unfold jnV; split
 ·rename_i e; rw [e,if_neg h]; rfl
 ·split
  ·rfl
  ·rfl
theorem jnV_out {V:Int->Slot} {p a n x:Int} (h1:x≠p) (h2:x≠n):jnV V p a n x=V x:=by
 unfold jnV; rw [if_neg h1,if_neg h2]

theorem chain_pre {V V':Int->Slot} {a q:Int} {L:List Int} (hc:chain V 0 q L) (hn:L.Nodup) (h1:∀ x,x∈L->(V' x).next=(V x).next/\(V' x).prev=if x=L.headD 0 then a else (V x).prev):chain V' 0 a L:=by
 cases L with
 | nil=>trivial
 | cons y L =>
  obtain ⟨k1,k2,k3⟩:=hc
  obtain ⟨e1,e2⟩:=h1 y List.mem_cons_self
  rw [List.headD_cons,if_pos rfl] at e2
  refine ⟨e2,e1.trans k2,chain_congr (fun x hx=>?_) k3⟩
  obtain ⟨e3,e4⟩:=h1 x (List.mem_cons_of_mem _ hx)
  have:x≠y:=fun e=>(List.nodup_cons.1 hn).1 (e ▸ hx)
  rw [List.headD_cons,if_neg this] at e4
  exact ⟨e4,e3⟩

section
variable {m:M} {P:Int->Prop} {L:List Int}
def M.nx (m:M) (p:Int):Int:=if p=0 then m.fst else (m.gV p).next
def M.insS (m:M) (p a:Int):Slot:=⟨(m.gV a).cap,p,m.nx p,if p=0 then 0 else (m.gV p).depth+1⟩
def M.insV (m:M) (p a:Int):Int->Slot:=jnV (fun x=>if x=a then m.insS p a else m.gV x) p a (m.nx p)
def M.insF (m:M) (p a:Int):Int:=if p=0 then a else m.fst
theorem M.Inv.nx_mem (I:m.Inv P L) {p:Int} (hp:p=0\/p∈L):m.nx p=0\/m.nx p∈L:=by
 unfold M.nx
 split
 ·exact I.fst_mem
 ·rename_i h; exact I.next (hp.resolve_left h)
theorem M.Inv.nx_ne (I:m.Inv P L) {p:Int} (hp:p=0\/p∈L):m.nx p=0\/p≠m.nx p:=by
 unfold M.nx
 by_cases h:p=0
 ·rw [if_pos h]
  by_cases h2:m.fst=0
  ·exact .inl h2
  ·exact .inr fun e=>h2 (e ▸ h)
 ·rw [if_neg h]
  exact .inr fun e=>I.irr_next (hp.resolve_left h) e.symm
theorem M.Inv.link (I:m.Inv P L) {x:Int} (h:x=0\/x∈L):linkB x=true:=by
 rcases h with rfl|h
 ·exact link_0
 ·exact link_there (fE_there (I.full x h))
theorem M.Inv.insR (I:m.Inv P L) {p a:Int} (hf:m.fE a=0) (hp:p=0\/(p∈L/\(m.gV p).depth≠65535)):slotRB (m.insS p a)=true:=by
 have hp':p=0\/p∈L:=hp.imp id fun h=>h.1
 have h2:=gV_links m p
 refine full_mk hf (I.link hp') (I.link (I.nx_mem hp')) ?_ ?_
 ·split
  ·omega
  ·omega
 ·split
  ·omega
  ·rename_i h0
   have:=(hp.resolve_left h0).2
   omega
theorem M.Inv.ins_to (I:m.Inv P L) {p a:Int} (ha:P a) (hf:m.fE a=0) (hu:a∉L) (hp:p=0\/(p∈L/\(m.gV p).depth≠65535)):(m.ins p a).1=0/\m.To (m.ins p a).2 (m.insV p a) (m.insF p a):=by
 have hp':p=0\/p∈L:=hp.imp id fun h=>h.1
 have hr:=I.insR hf hp
 obtain ⟨z1,z2,z3⟩:=(I.out a ha).2 hu
 have hli:=I.unlisted ha hu
 have hga:=(fE_zero.1 hf).1
 have hta:=(gE_there hga).1
 have a0:=there_ne0 hta
 have hV:∀ x,x=0\/x∈L->x=0\/(m.gE x=0/\((fun y=>if y=a then m.insS p a else m.gV y) x).cap.ty≠0):=fun x hx=>hx.imp id fun h=>by
  have hxa:x≠a:=fun e=>hu (e ▸ h)
  simp only [if_neg hxa]
  exact I.gE h
 have hj:=fun {m':M} (T:m.To m' m.gV m.fst)=>(T.pX hga hr).join I.len.1 (hV p hp') (hV _ (I.nx_mem hp')) (I.nx_ne hp') (.inr hta)
 have h1:=(M.To.refl m).gX a |>.liX (m.gV a) |>.fstX
 unfold M.ins
 simp only [hf,if_true,gX_liB,hli,Bool.false_eq_true,if_false,liX_fst,gX_fst,fstX_fE,liX_fE,gX_fE,fstX_gV,liX_gV,gX_gV,z1,z3]
 by_cases h0:p=0
 ·subst h0
  simp only [if_true]
  refine ⟨trivial, ?_⟩
  have:=hj h1
  simp only [M.insS,M.nx,if_true] at this
  exact this
 ·obtain ⟨hpL,hd⟩:=hp.resolve_left h0
  have hpa:p≠a:=fun e=>hu (e ▸ hpL)
  have hw:IntKind.i64.wrap ((m.gV p).depth+1)=(m.gV p).depth+1:=by have:=gV_links m p; rw [wrap64]<;>omega
  simp only [h0,if_false,I.full p hpL,hpa,hd,or_self,if_true,hw]
  refine ⟨trivial, ?_⟩
  have:=hj (h1.gX p)
  simp only [M.insS,M.nx,h0,if_false] at this
  simp only [M.insV,M.insF,M.insS,M.nx,h0,if_false]
  exact this
theorem M.Inv.rins_to (I:m.Inv P L) {p a:Int} (ha:P a) (hf:m.fE a=0) (hu:a∉L) (hp:p=0\/(p∈L/\(m.gV p).depth≠65535)):(m.rins p a).1=0/\m.To (m.rins p a).2 (m.insV p a) (m.insF p a):=by
 have hp':p=0\/p∈L:=hp.imp id fun h=>h.1
 have hr:=I.insR hf hp
 obtain ⟨z1,z2,z3⟩:=(I.out a ha).2 hu
 have hli:=I.unlisted ha hu
 have hga:=(fE_zero.1 hf).1
 have hta:=(gE_there hga).1
 have a0:=there_ne0 hta
 have hVp:p=0\/(m.gE p=0/\(m.gV p).cap.ty≠0):=hp'.imp id fun h=>I.gE h
 have hne:=I.nx_ne hp'
 have hpa:p≠a:=fun e=>by
  rcases hp' with h|h
  ·exact a0 (e ▸ h)
  ·exact hu (e ▸ h)
 have hna:m.nx p≠a:=fun e=>by
  rcases I.nx_mem hp' with h|h
  ·exact a0 (e ▸ h)
  ·exact hu (e ▸ h)
 have hVn:m.nx p=0\/(m.gE (m.nx p)=0/\((fun x=>if x=p then (m.gV p).toN a else m.gV x) (m.nx p)).cap.ty≠0):=(I.nx_mem hp').imp id fun h=>by
  refine ⟨(I.gE h).1, ?_⟩
  have hx:m.nx p≠p:=fun e=>by
   rcases hne with h2|h2
   ·exact I.no0 (h2 ▸ h)
   ·exact h2 e.symm
  simp only [if_neg hx]
  exact (I.gE h).2
 have hj:=fun {m':M} (T:m.To m' m.gV m.fst)=>(((T.lkX I.len.1 hVp (.inr hta)).bk hVn (.inr hta)).pX hga hr).val (V':=m.insV p a) (fun x hx=>by
  simp only [M.insV,jnV]
  by_cases c1:x=a
  ·subst c1
   simp only [if_true,if_neg (Ne.symm hpa),if_neg (Ne.symm hna)]
  ·by_cases c2:x=p
   ·subst c2
    have hx:x≠m.nx x:=fun e=>by
     rcases hne with h2|h2
     ·exact hx (e.trans h2)
     ·exact h2 e
    simp only [if_neg c1,if_neg hx,if_true,if_neg hpa]
   ·by_cases c3:x=m.nx p
    ·have c4:¬ m.nx p=p:=by rw [<-c3]; exact c2
     simp only [if_neg c1,if_neg c2,if_pos c3,if_neg c4,if_neg hna]
    ·simp only [if_neg c1,if_neg c2,if_neg c3]) (F':=m.insF p a) rfl
 have h1:=(M.To.refl m).gX a |>.fstX
 unfold M.rins
 simp only [hf,if_true,gX_liB,hli,Bool.false_eq_true,if_false,gX_fst,fstX_fE,gX_fE,fstX_gV,gX_gV,z1,z3]
 by_cases h0:p=0
 ·subst h0
  simp only [if_true]
  refine ⟨trivial, ?_⟩
  have:=hj h1
  simp only [M.insS,M.nx,if_true] at this
  exact this
 ·obtain ⟨hpL,hd⟩:=hp.resolve_left h0
  have hw:IntKind.i64.wrap ((m.gV p).depth+1)=(m.gV p).depth+1:=by have:=gV_links m p; rw [wrap64]<;>omega
  simp only [h0,if_false,I.full p hpL,hpa,hd,or_self,if_true,hw]
  refine ⟨trivial, ?_⟩
  have:=hj (h1.gX p)
  simp only [M.insS,M.nx,h0,if_false] at this
  exact this
def insL (p a:Int):List Int->List Int
 | []=>[]
 | x::L=>if x=p then x::a::L else x::insL p a L
theorem insL_app {p a:Int}:∀ {L1 L2:List Int},p∉L1->insL p a (L1++p::L2)=L1++p::a::L2
 | [],L2,_=>by simp [insL]
 | x::L1,L2,h=>by
  have hx:x≠p:=fun e=>h (by rw [e]; exact List.mem_cons_self)
  simp only [List.cons_append,insL,if_neg hx,insL_app (L1:=L1) (L2:=L2) fun h2=>h (List.mem_cons_of_mem _ h2)]
def insLL (p a:Int) (L:List Int):List Int:=if p=0 then a::L else insL p a L
theorem M.Inv.ins_inv (I:m.Inv P L) {p a:Int} (ha:P a) (hf:m.fE a=0) (hu:a∉L) (hp:p=0\/p∈L) {m':M} (T:m.To m' (m.insV p a) (m.insF p a)):m'.Inv P (insLL p a L):=by
 have hga:=fE_zero.1 hf
 have a0:=there_ne0 (gE_there hga.1).1
 have hne:=I.nx_ne hp
 have hpn:∀ x,x∈L->(m.insV p a x).next=(if x=p then a else (m.gV x).next)/\(m.insV p a x).prev=if x=m.nx p then a else (m.gV x).prev:=fun x hx=>by
  have hxa:x≠a:=fun e=>hu (e ▸ hx)
  have x0:x≠0:=fun e=>I.no0 (e ▸ hx)
  refine ⟨?_, ?_⟩
  ·unfold M.insV
   rw [jnV_next]
   simp only [if_neg hxa]
  ·rcases hne with h|h
   ·have hx0:¬ x=m.nx p:=fun e=>x0 (e.trans h)
    rw [if_neg hx0]
    unfold M.insV jnV
    split
    ·rename_i e
     have hpa:¬ p=a:=fun e2=>hxa (e.trans e2)
     simp only [if_neg hpa]
     rw [e]; rfl
    ·simp only [if_neg hx0,if_neg hxa]
   ·unfold M.insV
    rw [jnV_prev _ _ _ _ _ h]
    simp only [if_neg hxa]
 have hVa:m.insV p a a=m.insS p a:=by
  have h1:a≠p:=fun e=>by
   rcases hp with h|h
   ·exact a0 (e.trans h)
   ·exact hu (e ▸ h)
  have h2:a≠m.nx p:=fun e=>by
   rcases I.nx_mem hp with h|h
   ·exact a0 (e.trans h)
   ·exact hu (e ▸ h)
  unfold M.insV
  rw [jnV_out h1 h2,if_pos rfl]
 have hcap:∀ x,x=a\/x∈L->m.gE x=0/\(m.insV p a x).cap.ty≠0:=fun x hx=>by
  unfold M.insV
  rw [jnV_cap]
  rcases hx with rfl|hx
  ·rw [if_pos rfl]; exact hga
  ·have hxa:¬ x=a:=fun e=>hu (e ▸ hx)
   simp only [if_neg hxa]
   exact I.gE hx
 have hout:∀ x,P x->x≠a->x∉L->(m.insV p a x).prev=0/\(m.insV p a x).next=0/\(m.insV p a x).depth=0:=fun x hx h1 h2=>by
  have hg:=I.out x hx
  have x0:=there_ne0 (gE_there hg.1).1
  have e1:x≠p:=fun e=>by
   rcases hp with h|h
   ·exact x0 (e.trans h)
   ·exact h2 (e ▸ h)
  have e2:x≠m.nx p:=fun e=>by
   rcases I.nx_mem hp with h|h
   ·exact x0 (e.trans h)
   ·exact h2 (e ▸ h)
  unfold M.insV
  rw [jnV_out e1 e2,if_neg h1]
  exact hg.2 h2
 unfold insLL
 by_cases h0:p=0
 ·rw [if_pos h0]
  refine I.to T (List.nodup_cons.2 ⟨hu,I.nd⟩) (fun x hx=>hcap x (List.mem_cons.1 hx)) ⟨?_, ?_, ?_⟩ ?_ (fun x hx hn=>hout x hx (fun e=>hn (e ▸ List.mem_cons_self)) fun h=>hn (List.mem_cons_of_mem _ h))
  ·rw [hVa]; exact h0
  ·rw [hVa,<-I.fst]; simp only [M.insS,M.nx,if_pos h0]
  ·refine chain_pre I.ch I.nd fun x hx=>?_
   obtain ⟨k1,k2⟩:=hpn x hx
   have x0:x≠p:=fun e=>I.no0 (h0 ▸ e ▸ hx)
   rw [if_neg x0] at k1
   refine ⟨k1, ?_⟩
   rw [k2,<-I.fst]
   simp only [M.nx,if_pos h0]
  ·simp only [M.insF,if_pos h0,List.headD_cons]
 ·rw [if_neg h0]
  have hpL:=hp.resolve_left h0
  obtain ⟨L1,L2,rfl⟩:=List.append_of_mem hpL
  have nd:=I.nd
  have nd':=List.nodup_append.1 nd
  have hp1:p∉L1:=fun h=>nd'.2.2 p h p List.mem_cons_self rfl
  have hp2:=(List.nodup_cons.1 nd'.2.1).1
  rw [insL_app hp1]
  obtain ⟨c1,c2,c3,c4⟩:=chain_app.1 I.ch
  have hnx:m.nx p=L2.headD 0:=by unfold M.nx; rw [if_neg h0]; exact c3
  have hmem:∀ x,x∈L1++p::a::L2↔x=a\/x∈L1++p::L2:=fun x=>by
   simp only [List.mem_append,List.mem_cons]
   constructor
   ·rintro (h|h|h|h)
    ·exact .inr (.inl h)
    ·exact .inr (.inr (.inl h))
    ·exact .inl h
    ·exact .inr (.inr (.inr h))
   ·rintro (h|h|h|h)
    ·exact .inr (.inr (.inl h))
    ·exact .inl h
    ·exact .inr (.inl h)
    ·exact .inr (.inr (.inr h))
  refine I.to T ?_ (fun x hx=>hcap x ((hmem x).1 hx)) (chain_app.2 ⟨?_, ?_, ?_, ?_, ?_, ?_⟩) ?_ (fun x hx hn=>hout x hx (fun e=>hn ((hmem x).2 (.inl e))) fun h=>hn ((hmem x).2 (.inr h)))
  ·refine List.nodup_append.2 ⟨nd'.1,List.nodup_cons.2 ⟨?_,List.nodup_cons.2 ⟨fun h=>hu (by simp [h]),(List.nodup_cons.1 nd'.2.1).2⟩⟩,fun x hx y hy=>?_⟩
   ·intro h
    rcases List.mem_cons.1 h with e|h
    ·exact hu (by rw [<-e]; exact hpL)
    ·exact hp2 h
   ·rintro rfl
    rcases List.mem_cons.1 hy with e|hy
    ·exact nd'.2.2 x hx p List.mem_cons_self e
    ·rcases List.mem_cons.1 hy with e|hy
     ·exact hu (by rw [<-e]; simp [hx])
     ·exact nd'.2.2 x hx x (List.mem_cons_of_mem _ hy) rfl
  ·refine chain_congr (fun x hx=>?_) c1
   have hxL:x∈L1++p::L2:=List.mem_append_left _ hx
   obtain ⟨k1,k2⟩:=hpn x hxL
   have e1:x≠p:=fun e=>hp1 (e ▸ hx)
   have e2:x≠m.nx p:=fun e=>by
    rw [hnx] at e
    cases L2 with
    | nil=>exact I.no0 (by rw [<-show x=0 from e]; exact hxL)
    | cons y L2 =>
     rw [List.headD_cons] at e
     exact nd'.2.2 x hx y (List.mem_cons_of_mem _ List.mem_cons_self) e
   rw [if_neg e1] at k1
   rw [if_neg e2] at k2
   exact ⟨k2,k1⟩
  ·have:=(hpn p hpL).2
   rw [this]
   split
   ·rename_i e
    rcases hne with h|h
    ·exact absurd (e.trans h) h0
    ·exact absurd e h
   ·exact c2
  ·rw [(hpn p hpL).1,if_pos rfl]; rfl
  ·rw [hVa]; rfl
  ·rw [hVa]
   show m.nx p=L2.headD 0
   exact hnx
  ·refine chain_pre c4 (List.nodup_cons.1 nd'.2.1).2 fun x hx=>?_
   obtain ⟨k1,k2⟩:=hpn x (List.mem_append_right _ (List.mem_cons_of_mem _ hx))
   have e1:x≠p:=fun e=>hp2 (e ▸ hx)
   rw [if_neg e1] at k1
   exact ⟨k1,by rw [k2,hnx]⟩
  ·simp only [M.insF,if_neg h0,I.fst]
   cases L1<;>rfl
end
end Go.Proofs.YtcdfofeolgbnbaaGreat

/- Package cdt: Swap. -/
namespace Go.Proofs.YtcdfofeolgbnbaaGreat
open Go.D
set_option linter.all false
set_option maxRecDepth 100000
set_option maxHeartbeats 8000000


end Go.Proofs.YtcdfofeolgbnbaaGreat

/- Move and Swap,of the code and of the document,tell the same of a memory in order; and it stays in order. -/
namespace Go.Proofs.YtcdfofeolgbnbaaGreat
open Go.D
set_option linter.all false
set_option maxRecDepth 100000
set_option maxHeartbeats 4000000

section
variable {m:M} {P:Int->Prop} {L:List Int}
theorem slotZ_R:slotRB slotZ=true:=by decide
end

section
variable {m:M} {P:Int->Prop} {L:List Int}
theorem Slot.ext4 {s t:Slot} (h1:s.cap=t.cap) (h2:s.prev=t.prev) (h3:s.next=t.next) (h4:s.depth=t.depth):s=t:=by
 cases s; cases t; simp only at h1 h2 h3 h4; subst h1; subst h2; subst h3; subst h4; rfl
end

def i64b (n:Int):Prop:=-9223372036854775808<=n/\n<9223372036854775808
theorem len_sub:∀ {L Q:List Int},L.Nodup->(∀ x,x∈L->x∈Q)->L.length<=Q.length
 | [],_,_,_=>Nat.zero_le _
 | x::L,Q,hn,h=>by
  obtain ⟨h1,h2⟩:=List.nodup_cons.1 hn
  have hx:=h x List.mem_cons_self
  have h3:=len_sub (L:=L) (Q:=Q.erase x) h2 fun y hy=>by
   have hne:y≠x:=fun e=>h1 (e ▸ hy)
   exact (List.mem_erase_of_ne hne).2 (h y (List.mem_cons_of_mem _ hy))
  have h4:=List.length_erase_of_mem hx
  have h5:=List.length_pos_of_mem hx
  simp only [List.length_cons]
  omega
theorem gV_fun {m m':M} (e:m'.w=m.w):m'.gV=m.gV:=funext fun x=>gV_w e x
theorem M.Inv.of_w {m m':M} {P:Int->Prop} {L:List Int} (I:m.Inv P L) (e:m'.w=m.w):m'.Inv P L:=by
 refine ⟨by rw [e]; exact I.len,by rw [at_w e,fst_w e]; exact I.two,I.nd,fun x hx=>by rw [fE_w e]; exact I.full x hx,by rw [gV_fun e]; exact I.ch,by rw [fst_w e]; exact I.fst,fun x hx=>?_⟩
 rw [gE_w e,gV_w e]
 exact I.out x hx
def deep (V:Int->Slot) (d:Int) (L:List Int):List Int:=L.takeWhile fun y=>decide (d<(V y).depth)
def allS (n:Nat):List Int:=(List.range (n/4)).map fun (i:Nat)=>(4*i:Int)
theorem allS_len (n:Nat):(allS n).length=n/4:=by simp [allS]
theorem there_all {m:M} {x:Int} (h:thereB m x=true):x∈allS m.w.length:=by
 have hb:=there_iff.1 h
 rw [Int.tmod_eq_emod_of_nonneg (by omega)] at hb
 refine List.mem_map.2 ⟨(x/4).toNat,List.mem_range.2 (by omega),by omega⟩
theorem M.Inv.llen {m:M} {P:Int->Prop} {L:List Int} (I:m.Inv P L):L.length<m.w.length/4:=by
 have h0:(0:Int)∉L:=I.no0
 have hl:=I.len
 have h1:=len_sub (L:=0::L) (Q:=allS m.w.length) (List.nodup_cons.2 ⟨h0,I.nd⟩) fun x hx=>by
  rcases List.mem_cons.1 hx with rfl|hx
  ·exact List.mem_map.2 ⟨0,List.mem_range.2 (by omega),by simp⟩
  ·exact there_all (fE_there (I.full x hx))
 rw [allS_len] at h1
 simp only [List.length_cons] at h1
 omega

/-! ### Mask -/
/-! ### slots,caps -/
def slot9M (b:Nat) (m:M) (st:M->List Blk):List V->Res
 | [.s (.i .i64 a)]=>.ok (.agg (m.gV a).cl) [] (st (m.gX a))
 | _=>.bad
noncomputable def slot9G:=memF slot9M
def cap9M (b:Nat) (m:M) (st:M->List Blk):List V->Res
 | [.s (.i .i64 a)]=>.ok (.agg (m.gV a).cap.cl) [] (st (m.gX a))
 | _=>.bad
noncomputable def cap9G:=memF cap9M
def M.scX (m:M) (a:Int) (c:Cap):M:=(m.gX a).pX a ⟨c,(m.gV a).prev,(m.gV a).next,(m.gV a).depth⟩
def setCap9M (b:Nat) (m:M) (st:M->List Blk):List V->Res
 | [.s (.i .i64 a),x]=>capF (fun c=>.ok (.tup []) [] (st (m.scX a c))) [x]
 | _=>.bad
noncomputable def setCap9G:=memF setCap9M
noncomputable def T9a:Tab:=addT 26 get2G (addT 126 get2G (addT 79 put2G (addT 118 put2G (noT))))
theorem T9a_snd:T9a.Snd Tryz.prog:=addT_snd ok26 get2_snd (addT_snd ok126 rget2_snd (addT_snd ok79 put2_snd (addT_snd ok118 rput2_snd ((noT_snd _)))))
theorem slot9_snd:Snd Tryz.prog 136 (FSpec.of slot9G):=snd_run T9a_snd mixed Tryz.func136 dc136 200 fun args h K hc hS=>by
 obtain ⟨a,b,m,rest,rfl,H,hS1⟩:=memF_spec hS
 clear hS
 have hS:=hS1
 clear hS1
 unfold slot9M at hS
 split at hS
 ·rename_i x
  simp only [spec_ok,Slot.cl] at hS
  simp (maxSteps:=999999) only [go_sem,simprocAttr,↓qT,↓qF,df136,T9a,get2G,memF_eq H,get2M,Slot.cl,sub,put,fillP,EVt]
  exact hS
 ·exact hS.elim
noncomputable def T9b:Tab:=addT 136 slot9G (T9a)
theorem T9b_snd:T9b.Snd Tryz.prog:=addT_snd ok136 slot9_snd (T9a_snd)
theorem cap9_snd:Snd Tryz.prog 67 (FSpec.of cap9G):=snd_run T9b_snd mixed Tryz.func67 dc67 200 fun args h K hc hS=>by
 obtain ⟨a,b,m,rest,rfl,H,hS1⟩:=memF_spec hS
 clear hS
 have hS:=hS1
 clear hS1
 unfold cap9M at hS
 split at hS
 ·rename_i x
  simp only [spec_ok,Cap.cl] at hS
  simp (maxSteps:=999999) only [go_sem,simprocAttr,↓qT,↓qF,df67,T9b,T9a,get2G,slot9G,memF_eq H,get2M,slot9M,Slot.cl,sub,put,fillP,EVt]
  exact hS
 ·exact hS.elim
theorem rcap9_snd:Snd Tryz.prog 66 (FSpec.of cap9G):=snd_run T9b_snd mixed Tryz.func66 dc66 200 fun args h K hc hS=>by
 obtain ⟨a,b,m,rest,rfl,H,hS1⟩:=memF_spec hS
 clear hS
 have hS:=hS1
 clear hS1
 unfold cap9M at hS
 split at hS
 ·rename_i x
  simp only [spec_ok,Cap.cl] at hS
  simp (maxSteps:=999999) only [go_sem,simprocAttr,↓qT,↓qF,df66,T9b,T9a,get2G,slot9G,memF_eq H,get2M,slot9M,Slot.cl,sub,put,fillP,EVt]
  exact hS
 ·exact hS.elim
theorem setCap9_snd:Snd Tryz.prog 71 (FSpec.of setCap9G):=snd_run T9b_snd mixed Tryz.func71 dc71 200 fun args h K hc hS=>by
 obtain ⟨a,b,m,rest,rfl,H,hS1⟩:=memF_spec hS
 clear hS
 have hS:=hS1
 clear hS1
 unfold setCap9M at hS
 split at hS
 ·rename_i x y
  obtain ⟨c,e,hS2⟩:=capF_spec hS
  simp only [List.cons.injEq,and_true] at e
  subst e
  clear hS
  simp only [spec_ok,M.scX] at hS2
  simp (maxSteps:=999999) only [go_sem,simprocAttr,↓qT,↓qF,df71,T9b,T9a,get2G,slot9G,put2G,put2M,slotF,slot_eta,cap_eta,memF_eq H,memF_set H,setM_fun H,get2M,slot9M,Slot.cl,Cap.cl,sub,put,fillP,EVt]
  exact hS2
 ·exact hS.elim
theorem rsetCap9_snd:Snd Tryz.prog 147 (FSpec.of setCap9G):=snd_run T9b_snd mixed Tryz.func147 dc147 200 fun args h K hc hS=>by
 obtain ⟨a,b,m,rest,rfl,H,hS1⟩:=memF_spec hS
 clear hS
 have hS:=hS1
 clear hS1
 unfold setCap9M at hS
 split at hS
 ·rename_i x y
  obtain ⟨c,e,hS2⟩:=capF_spec hS
  simp only [List.cons.injEq,and_true] at e
  subst e
  clear hS
  simp only [spec_ok,M.scX] at hS2
  simp (maxSteps:=999999) only [go_sem,simprocAttr,↓qT,↓qF,df147,T9b,T9a,get2G,slot9G,put2G,put2M,slotF,slot_eta,cap_eta,memF_eq H,memF_set H,setM_fun H,get2M,slot9M,Slot.cl,Cap.cl,sub,put,fillP,EVt]
  exact hS2
 ·exact hS.elim

/-! ### what fits -/
def fitB (c:Cap) (a:Int):Bool:=if (c.ty==2)=true then decide (a<c.obj) else if (c.ty==3)=true then decide (a<c.obj) else if (c.ty==10)=true then decide (a<c.obj) else true
def fitG:List V->List Blk->Res
 | [x, .s (.i .i64 a)],h=>capF (fun c=>.ok (.s (.b (fitB c a))) [] h) [x]
 | _,_=>.bad
theorem fit_snd:Snd Tryz.prog 69 (FSpec.of fitG):=snd_run (noT_snd _) mixed Tryz.func69 dc69 200 fun args h K hc hS=>by
 unfold fitG at hS
 split at hS
 ·rename_i x a
  obtain ⟨c,e,hS2⟩:=capF_spec hS
  simp only [List.cons.injEq,and_true] at e
  subst e
  clear hS
  simp only [spec_ok,fitB] at hS2
  cases h1:c.ty==2
  all_goals cases h2:c.ty==3
  all_goals cases h3:c.ty==10
  all_goals simp only [h1,h2,h3,Bool.false_eq_true,if_true,if_false] at hS2
  all_goals (simp (maxSteps:=999999) only [go_sem,simprocAttr,↓qT,↓qF,df69,Cap.cl,h1,h2,h3,sub,put,fillP,EVt])
  all_goals exact hS2
 ·exact hS.elim
theorem rfit_snd:Snd Tryz.prog 146 (FSpec.of fitG):=snd_run (noT_snd _) mixed Tryz.func146 dc146 200 fun args h K hc hS=>by
 unfold fitG at hS
 split at hS
 ·rename_i x a
  obtain ⟨c,e,hS2⟩:=capF_spec hS
  simp only [List.cons.injEq,and_true] at e
  subst e
  clear hS
  simp only [spec_ok,fitB] at hS2
  cases h1:c.ty==2
  all_goals cases h2:c.ty==3
  all_goals cases h3:c.ty==10
  all_goals simp only [h1,h2,h3,Bool.false_eq_true,if_true,if_false] at hS2
  all_goals (simp (maxSteps:=999999) only [go_sem,simprocAttr,↓qT,↓qF,df146,Cap.cl,h1,h2,h3,sub,put,fillP,EVt])
  all_goals exact hS2
 ·exact hS.elim

/-! ### a cap as a copy would have it -/
end Go.Proofs.YtcdfofeolgbnbaaGreat

/- Package derive,and the document's: lay,empty,ends,copied,moves. -/
namespace Go.Proofs.YtcdfofeolgbnbaaGreat
open Go.D
open Nat (reduceAdd reducePow reduceMul reduceSub reduceLeDiff reduceLT reduceEqDiff)
open Int (reduceNeg reduceLE reduceEq reduceNe reduceToNat)
open Go.D renaming istep → zy,pickR → zx,bin1R → zw,un1R → zv,eqS → zu,eq1 → zq,cmpS → zp,cmp1 → zj,isNil → zk,shows → zg,result → zZ,qT → zV,qF → zU
open List renaming set → zY,replicate → zX
open Option renaming map → zW
open Nat renaming reduceAdd → zQ,reducePow → yz,reduceMul → yy,reduceSub → yx,reduceLeDiff → yw,reduceLT → yv,reduceEqDiff → yu
open Int renaming reduceNeg → yq,reduceLE → yp,reduceEq → yj,reduceNe → yk,reduceToNat → yg,reducePow → yZ,reduceLT → yY,reduceAdd → yX,reduceSub → yW,reduceMul → yV,reduceBEq → yU,reduceBNe → yQ
set_option linter.all false
set_option maxRecDepth 100000
set_option maxHeartbeats 4000000

/-! ### a guard -/
/-! ### laid as a child; empty -/
def M.layX (m:M) (p a:Int) (c:Cap):M:=((m.pX a ⟨c,0,0,0⟩).ins p a).2
def M.rlayX (m:M) (p a:Int) (c:Cap):M:=((m.pX a ⟨c,0,0,0⟩).rins p a).2
def lay9M (f:M->Int->Int->Cap->M) (b:Nat) (m:M) (st:M->List Blk):List V->Res
 | [.s (.i .i64 p), .s (.i .i64 a),x]=>capF (fun c=>.ok (.tup []) [] (st (f m p a c))) [x]
 | _=>.bad
noncomputable def lay9G:=memF (lay9M M.layX)
noncomputable def rlay9G:=memF (lay9M M.rlayX)
noncomputable def T9c:Tab:=addT 79 put2G (addT 118 put2G (addT 45 insG (addT 52 rinsG (noT))))
theorem T9c_snd:T9c.Snd Tryz.prog:=addT_snd ok79 put2_snd (addT_snd ok118 rput2_snd (addT_snd ok45 ins_snd (addT_snd ok52 rins_snd ((noT_snd _)))))
theorem lay9_snd:Snd Tryz.prog 73 (FSpec.of lay9G):=snd_run T9c_snd mixed Tryz.func73 dc73 200 fun args h K hc hS=>by
 obtain ⟨a,b,m,rest,rfl,H,hS1⟩:=memF_spec hS
 clear hS
 have hS:=hS1
 clear hS1
 unfold lay9M at hS
 split at hS
 ·rename_i p a' x
  obtain ⟨c,e,hS2⟩:=capF_spec hS
  simp only [List.cons.injEq,and_true] at e
  subst e
  clear hS
  simp only [spec_ok,M.layX] at hS2
  simp (maxSteps:=999999) only [EV0,zy,zx,zw,zv,zu,zq,zp,zj,zk,leT,zg,rvC,zZ,zY,zX,zW,↓zV,↓zU,reduceCtorEq,zQ,yz,yZ,yy,yx,yw,yv,yu,yq,yY,yp,yj,yk,yX,yW,yV,yg,yU,yQ,df73,T9c,put2G,put2M,insG,insM,memF_eq H,memF_set H,setM_fun H,setM_self H,slotF,capF,slot_eta,cap_eta,Slot.cl,Cap.cl,sub,put,fillP,EVt]
  exact hS2
 ·exact hS.elim
theorem rlay9_snd:Snd Tryz.prog 133 (FSpec.of rlay9G):=snd_run T9c_snd mixed Tryz.func133 dc133 200 fun args h K hc hS=>by
 obtain ⟨a,b,m,rest,rfl,H,hS1⟩:=memF_spec hS
 clear hS
 have hS:=hS1
 clear hS1
 unfold lay9M at hS
 split at hS
 ·rename_i p a' x
  obtain ⟨c,e,hS2⟩:=capF_spec hS
  simp only [List.cons.injEq,and_true] at e
  subst e
  clear hS
  simp only [spec_ok,M.rlayX] at hS2
  simp (maxSteps:=999999) only [EV0,zy,zx,zw,zv,zu,zq,zp,zj,zk,leT,zg,rvC,zZ,zY,zX,zW,↓zV,↓zU,reduceCtorEq,zQ,yz,yZ,yy,yx,yw,yv,yu,yq,yY,yp,yj,yk,yX,yW,yV,yg,yU,yQ,df133,T9c,put2G,put2M,rinsG,rinsM,memF_eq H,memF_set H,setM_fun H,setM_self H,slotF,capF,slot_eta,cap_eta,Slot.cl,Cap.cl,sub,put,fillP,EVt]
  exact hS2
 ·exact hS.elim
/-! ### two slots -/
/-! ### what a copy lays down -/
end Go.Proofs.YtcdfofeolgbnbaaGreat

/- Package derive,and the document's: Copy,Mint,Move,Mutate,Rotate. -/
namespace Go.Proofs.YtcdfofeolgbnbaaGreat
open Go.D
set_option linter.all false
set_option maxRecDepth 100000
set_option maxHeartbeats 8000000

/-! ### Mint -/
/-! ### Move,Mutate -/
/-! ### Rotate -/

def pickV (c n:Int):Int:=(if c<0 then IntKind.i64.wrap (0-IntKind.i64.wrap (c+1)) else c).tmod n
def pickG:List V->List Blk->Res
 | [.s (.i .i64 c), .s (.i .i64 n)],h=>.ob (n≠0) (.ok (.s (.i .i64 (pickV c n))) [] h)
 | _,_=>.bad
theorem pick_snd:Snd Tryz.prog 18 (FSpec.of pickG):=snd_run (noT_snd _) mixed Tryz.func18 dc18 100 fun args h K hc hS=>by
 unfold pickG at hS
 split at hS
 ·rename_i c n
  obtain ⟨hn,hS⟩:=hS
  have hn:¬ n=0:=hn
  simp only [spec_ok,pickV] at hS
  by_cases c1:c<0
  ·simp only [c1,if_true] at hS
   simp (maxSteps:=999999) only [go_sem,simprocAttr,↓qT,↓qF,df18,c1,hn]
   exact hS
  ·simp only [c1,if_false] at hS
   simp (maxSteps:=999999) only [go_sem,simprocAttr,↓qT,↓qF,df18,c1,hn]
   exact hS
 ·exact hS.elim
def plcV (n:Int):Int:=if pickV n 44<32 then IntKind.i64.wrap (2048+IntKind.i64.wrap (4*pickV n 44)) else if pickV n 44<40 then IntKind.i64.wrap (3072+IntKind.i64.wrap (4*IntKind.i64.wrap (pickV n 44-32)))
 else IntKind.i64.wrap (3104+IntKind.i64.wrap (4*IntKind.i64.wrap (pickV n 44-40)))
def plcG:List V->List Blk->Res
 | [.s (.i .i64 n)],h=>.ok (.s (.i .i64 (plcV n))) [] h
 | _,_=>.bad
noncomputable def TPk:Tab:=addT 18 pickG (noT)
theorem TPk_snd:TPk.Snd Tryz.prog:=addT_snd ok18 pick_snd ((noT_snd _))
theorem plc_snd:Snd Tryz.prog 39 (FSpec.of plcG):=snd_run TPk_snd mixed Tryz.func39 dc39 100 fun args h K hc hS=>by
 unfold plcG at hS
 split at hS
 ·rename_i n
  simp only [spec_ok,plcV] at hS
  by_cases c1:pickV n 44<32
  ·simp only [c1,if_true] at hS
   simp (maxSteps:=999999) only [go_sem,simprocAttr,↓qT,↓qF,df39,TPk,pickG,c1]
   exact hS
  ·by_cases c2:pickV n 44<40
   ·simp only [c1,c2,if_true,if_false] at hS
    simp (maxSteps:=999999) only [go_sem,simprocAttr,↓qT,↓qF,df39,TPk,pickG,c1,c2]
    exact hS
   ·simp only [c1,c2,if_false] at hS
    simp (maxSteps:=999999) only [go_sem,simprocAttr,↓qT,↓qF,df39,TPk,pickG,c1,c2]
    exact hS
 ·exact hS.elim

/-! ### a world -/
def wB (n:Nat):Blk:=⟨.rw,[.p (.g (n+2)) 0, .p (.g n) 0],2⟩
def wH (h:List Blk) (m r:M) (X:List Blk):List Blk:=memH (memH h r) m++(wB h.length::X)
theorem wH_len (h:List Blk) (m r:M) (X:List Blk):(wH h m r X).length=h.length+5+X.length:=by
 simp only [wH,List.length_append,memH_len,List.length_cons]; omega
theorem wH_at (h:List Blk) (m r:M) (X:List Blk):(wH h m r X)[h.length+4]?=some (wB h.length):=by
 unfold wH
 rw [List.getElem?_append_right (by simp only [memH_len]; omega)]
 simp only [memH_len,show h.length+4-(h.length+2+2)=0 by omega,List.getElem?_cons_zero]
theorem wH_ism (h:List Blk) (m r:M) (X:List Blk):IsMem (wH h m r X) (h.length+2) (h.length+3) m:=(memH_is2 h r m).app
theorem wH_isr (h:List Blk) (m r:M) (X:List Blk):IsMem (wH h m r X) h.length (h.length+1) r:=(memH_is1 h r m).app
theorem wH_app (h:List Blk) (m r:M) (X Y:List Blk):wH h m r X++Y=wH h m r (X++Y):=by simp [wH]
theorem wH_m {f:Nat->M->(M->List Blk)->List V->Res} {h X:List Blk} {m r:M} {rest:List V}:memF f (.s (.p (.g (h.length+2)) 0)::rest) (wH h m r X)=f (h.length+3) m (fun m=>wH h m r X) rest:=memF_new2A
theorem wH_r {f:Nat->M->(M->List Blk)->List V->Res} {h X:List Blk} {m r:M} {rest:List V}:memF f (.s (.p (.g h.length) 0)::rest) (wH h m r X)=f (h.length+1) r (fun r=>wH h m r X) rest:=memF_new1A
theorem wH_inj {h h':List Blk} {m m' r r':M} {X X':List Blk} (e:wH h m r X=wH h' m' r' X') (hl:h.length=h'.length):h=h'/\m=m'/\r=r'/\X=X':=by
 have e1:h=h':=by
  have:=congrArg (List.take h.length) e
  simp only [wH,memH,List.append_assoc] at this
  rw [List.take_left,hl,List.take_left] at this
  exact this
 subst e1
 have a1:=wH_ism h m r X
 have a2:=wH_ism h m' r' X'
 have b1:=wH_isr h m r X
 have b2:=wH_isr h m' r' X'
 rw [<-e] at a2 b2
 have hm:m=m':=by
  have x1:=a1.ha.symm.trans a2.ha
  have x2:=a1.hb.symm.trans a2.hb
  simp only [Option.some.injEq] at x1 x2
  exact M.ext' (MW_inj x2) (MB_inj x1)
 have hr:r=r':=by
  have x1:=b1.ha.symm.trans b2.ha
  have x2:=b1.hb.symm.trans b2.hb
  simp only [Option.some.injEq] at x1 x2
  exact M.ext' (MW_inj x2) (MB_inj x1)
 subst hm
 subst hr
 refine ⟨rfl,rfl,rfl, ?_⟩
 unfold wH at e
 have:=List.append_cancel_left e
 simpa using this
open Classical in
noncomputable def wldOf (H:List Blk) (w:Nat):Option (List Blk×M×M×List Blk):=if hx:∃ x:List Blk×M×M×List Blk,H=wH x.1 x.2.1 x.2.2.1 x.2.2.2/\w=x.1.length+4 then some (Classical.choose hx) else none
theorem wldOf_eq (h:List Blk) (m r:M) (X:List Blk):wldOf (wH h m r X) (h.length+4)=some (h,m,r,X):=by
 have hx:∃ x:List Blk×M×M×List Blk,wH h m r X=wH x.1 x.2.1 x.2.2.1 x.2.2.2/\h.length+4=x.1.length+4:=⟨(h,m,r,X),rfl,rfl⟩
 unfold wldOf
 rw [dif_pos hx]
 have:=Classical.choose_spec hx
 obtain ⟨e1,e2⟩:=this
 obtain ⟨a,b,c,d⟩:=wH_inj e1 (by omega)
 generalize Classical.choose hx=y at a b c d
 obtain ⟨y1,y2,y3,y4⟩:=y
 simp only at a b c d
 subst a; subst b; subst c; subst d; rfl
theorem wldOf_some {H h X:List Blk} {w:Nat} {m r:M} (e:wldOf H w=some (h,m,r,X)):H=wH h m r X/\w=h.length+4:=by
 unfold wldOf at e
 split at e
 ·rename_i hx
  have:=Classical.choose_spec hx
  rw [Option.some.injEq] at e
  rw [e] at this
  exact this
 ·cases e
noncomputable def wldF (f:M->M->(M->M->List Blk)->List V->Res):List V->List Blk->Res
 | .s (.p (.g w) 0)::rest,H=>match wldOf H w with
  | some (h,m,r,X)=>f m r (fun m r=>wH h m r X) rest
  | none=>.bad
 | _,_=>.bad
theorem wldF_spec {f:M->M->(M->M->List Blk)->List V->Res} {args:List V} {H:List Blk} {K:V->List Blk->Prop} (hS:(wldF f args H).spec K) :
  ∃ h m r X rest,args=.s (.p (.g (h.length+4)) 0)::rest/\H=wH h m r X/\(f m r (fun m r=>wH h m r X) rest).spec K:=by
 unfold wldF at hS
 split at hS
 ·split at hS
  ·rename_i e
   obtain ⟨e1,e2⟩:=wldOf_some e
   subst e2
   exact ⟨_,_,_,_,_,rfl,e1,hS⟩
  ·exact hS.elim
 ·exact hS.elim
theorem wldF_eq {f:M->M->(M->M->List Blk)->List V->Res} {h X:List Blk} {m r:M} {rest:List V}:wldF f (.s (.p (.g (h.length+4)) 0)::rest) (wH h m r X)=f m r (fun m r=>wH h m r X) rest:=by
 simp only [wldF,wldOf_eq]

/-! ### an act -/
structure Act where
 wh:Int
 a:Int
 b:Int
 c:Int
 rg:Int
 bd:Int
 g:Int
 n:Int
def Act.cl (x:Act):List S:=[.i .i64 x.wh, .i .i64 x.a, .i .i64 x.b, .i .i64 x.c, .i .i64 x.rg, .i .i64 x.bd, .i .i64 x.g, .i .i64 x.n]
def actF (f:Act->Res):List V->Res
 | [.agg [.i .i64 a, .i .i64 b, .i .i64 c, .i .i64 d, .i .i64 e, .i .i64 g, .i .i64 i, .i .i64 j]]=>f ⟨a,b,c,d,e,g,i,j⟩
 | _=>.bad
theorem actF_spec {f:Act->Res} {args:List V} {K:V->List Blk->Prop} (h:(actF f args).spec K):∃ x:Act,args=[.agg x.cl]/\(f x).spec K:=by
 unfold actF at h
 split at h
 ·exact ⟨_,rfl,h⟩
 ·exact h.elim
end Go.Proofs.YtcdfofeolgbnbaaGreat

/- Law 12: the memories that acts make of the plan's: in order,whatever is done; code and document make the same words. -/
namespace Go.Proofs.YtcdfofeolgbnbaaGreat
open Go.D
set_option linter.all false
set_option maxRecDepth 100000
set_option maxHeartbeats 4000000

/-! ### the places -/
def placeN (k:Nat):Int:=if k<32 then 2048+4*(k:Int) else if k<40 then 3072+4*((k:Int)-32) else 3104+4*((k:Int)-40)
theorem pick_lt {c:Int} (hc : -9223372036854775808<=c/\c<9223372036854775808):0<=pickV c 44/\pickV c 44<44:=by
 unfold pickV
 have:0<=(if c<0 then IntKind.i64.wrap (0-IntKind.i64.wrap (c+1)) else c):=by
  split
  ·rw [wrap64 (n:=c+1) (by omega) (by omega),wrap64 (by omega) (by omega)]; omega
  ·omega
 rw [Int.tmod_eq_emod_of_nonneg this]
 omega
theorem plc_is {c:Int} (hc : -9223372036854775808<=c/\c<9223372036854775808):∃ k:Nat,k<44/\plcV c=placeN k:=by
 obtain ⟨h1,h2⟩:=pick_lt hc
 refine ⟨(pickV c 44).toNat,by omega, ?_⟩
 have e:((pickV c 44).toNat:Int)=pickV c 44:=by omega
 unfold plcV placeN
 generalize pickV c 44=q at *
 rw [e]
 by_cases c1:q<32
 ·have c2:q.toNat<32:=by omega
  rw [if_pos c1,if_pos c2,wrap64 (n:=4*q) (by omega) (by omega),wrap64 (by omega) (by omega)]
 ·have c2:¬ q.toNat<32:=by omega
  rw [if_neg c1,if_neg c2]
  by_cases c3:q<40
  ·have c4:q.toNat<40:=by omega
   rw [if_pos c3,if_pos c4,wrap64 (n:=q-32) (by omega) (by omega),wrap64 (n:=4*(q-32)) (by omega) (by omega),wrap64 (by omega) (by omega)]
  ·have c4:¬ q.toNat<40:=by omega
   rw [if_neg c3,if_neg c4,wrap64 (n:=q-40) (by omega) (by omega),wrap64 (n:=4*(q-40)) (by omega) (by omega),wrap64 (by omega) (by omega)]
/-! ### what stays -/
end Go.Proofs.YtcdfofeolgbnbaaGreat

