/- Ranges over functions: what an iterator and its rounds do to one another; the code's meaning. -/
import Derived.Test.YtcdfofeolgbnbaaGreatZ6
import Derived.RangeFuncLeaves
import Derived.RangeFuncRecord
import Derived.TacticsIn
/- Ranges over functions: what an iterator and its rounds do to one another; the code's meaning. -/
namespace Go.D
set_option linter.all false
variable [Tabs]

theorem R.comp_tr (σ:Sg) (ρ:R->R) (s:S):(s.ren ρ).tr σ=s.tr (fun r=>σ (ρ r)):=by
 cases s with
 | fn f cs =>
  simp only [S.ren,S.tr,List.map_map]
  congr 2
 | _=>rfl

theorem trs_comp (σ:Sg) (ρ:R->R) (xs:List S):trs σ (xs.map (S.ren ρ))=trs (fun r=>σ (ρ r)) xs:=by
 simp only [trs,List.map_map]
 congr 1
 exact List.map_congr_left fun x _=>R.comp_tr σ ρ x

theorem C.comp_tr (σ:Sg) (ρ:R->R) (c:C):(c.ren ρ).tr σ=c.tr (fun r=>σ (ρ r)):=by
 cases c with
 | s x=>exact R.comp_tr σ ρ x
 | agg xs=>simp only [C.ren,C.tr,trs_comp]

theorem V.comp_tr (σ:Sg) (ρ:R->R) (v:V):(v.ren ρ).tr σ=v.tr (fun r=>σ (ρ r)):=by
 cases v with
 | s x=>exact R.comp_tr σ ρ x
 | agg xs=>simp only [V.ren,V.tr,trs_comp]
 | tup cs =>
  simp only [V.ren,V.tr,List.map_map]
  congr 2
  exact List.map_congr_left fun x _=>C.comp_tr σ ρ x

theorem S.ren_u {ρ:R->R} {s:S} (h:s≠.u):s.ren ρ≠.u:=by
 cases s<;>simp [S.ren] at *

theorem V.ren_u {ρ:R->R} {v:V} (h:v.ren ρ=.s .u):v=.s .u:=by
 cases v with
 | s x=>cases x<;>simp [V.ren,S.ren] at *
 | _=>simp [V.ren] at h

theorem WkBy.sound {σ0:Sg} {h0:List Blk} {w0:Base} {ρ:R->R} {s s':St} (W:WkBy h0.length ρ s s') {σ:Sg} {tm:Array Value} {w:World} (H:Inv σ0 h0 w0 σ s.h s.ls w) (hT:TRel σ s.t tm s.h.length s.ls.length) :
  Inv σ0 h0 w0 (fun r=>σ (ρ r)) s'.h s'.ls w/\TRel (fun r=>σ (ρ r)) s'.t tm s'.h.length s'.ls.length:=by
 refine ⟨⟨⟨fun r B' hb=>?_,fun r r' B B' hb hb' hne hst hd=>?_,W.gval,W.lval⟩,H.kept,W.len,fun k hk=>?_,fun r B' hb hst=>?_,fun k X hk hX hd=>?_,fun k B0 B' hk0 hk hd=>?_,H.gl⟩, ?_,fun i v' hv=>?_⟩
 ·have hok:=H.sim.ok (ρ r) _ (W.blks r B' hb)
  have hH:Holds σ w (ρ r) (B'.ren ρ).cells->Holds (fun r=>σ (ρ r)) w r B'.cells:=fun hh i s hs hu=>by
   have:=hh i (s.ren ρ) (by simp [Blk.ren,hs]) (S.ren_u hu)
   rw [R.comp_tr] at this
   exact this
  have hlen:(B'.ren ρ).cells.length=B'.cells.length:=by simp [Blk.ren]
  unfold OkBlk at hok ⊢
  have hst:(B'.ren ρ).st=B'.st:=rfl
  rw [hst] at hok
  cases hq:B'.st<;>rw [hq] at hok
  ·obtain ⟨h1,h2,h3,h4⟩:=hok
   exact ⟨h1,hH h2,by rw [<-hlen]; exact h3,h4⟩
  ·exact ⟨hok.1,hH hok.2⟩
  ·trivial
 ·have hv:∀ r B,blk s'.h s'.ls r=some B->r.val s'.h.length s'.ls.length=true:=fun r B hb=>by
   cases r with
   | g k=>simp only [blk] at hb; simp only [R.val,decide_eq_true_eq]; exact (List.getElem?_eq_some_iff.1 hb).1
   | l k=>simp only [blk] at hb; simp only [R.val,decide_eq_true_eq]; exact (List.getElem?_eq_some_iff.1 hb).1
  exact H.sim.sep (ρ r) (ρ r') _ _ (W.blks r B hb) (W.blks r' B' hb') (fun e=>hne (W.inj r r' (hv r B hb) (hv r' B' hb') e)) hst hd
 ·simp only [W.old k hk]; exact H.old k hk
 ·rcases H.mine (ρ r) _ (W.blks r B' hb) hst with ⟨k,B0,e,e2,e3⟩|h2
  ·left
   have hk:k<h0.length:=(List.getElem?_eq_some_iff.1 e2).1
   have hr:r.val s'.h.length s'.ls.length=true:=by
    cases r with
    | g k=>simp only [blk] at hb; simp only [R.val,decide_eq_true_eq]; exact (List.getElem?_eq_some_iff.1 hb).1
    | l k=>simp only [blk] at hb; simp only [R.val,decide_eq_true_eq]; exact (List.getElem?_eq_some_iff.1 hb).1
   refine ⟨k,B0,W.inj r (.g k) hr ?_ (by rw [e,W.old k hk]),e2,e3⟩
   simp only [R.val,decide_eq_true_eq]
   have:=W.len; omega
  ·exact .inr h2
 ·rcases W.new k hk (List.getElem?_eq_some_iff.1 hX).1 with ⟨j,hj,e⟩|⟨j,B,e,e2,e3⟩
  ·show ¬ w0.pt (σ (ρ (.g k))).1
   have hb:=W.blks (.g k) _ hX
   rw [e] at hb ⊢
   exact H.new j _ hj hb hd
  ·show ¬ w0.pt (σ (ρ (.g k))).1
   rw [e]
   rcases H.mine (.l j) B e2 e3 with ⟨_,_,q,_⟩|h2
   ·cases q
   ·exact h2
 ·have hb:=W.blks (.g k) B' hk
  rw [W.old k (List.getElem?_eq_some_iff.1 hk0).1] at hb
  exact H.live k B0 _ hk0 hb hd
 ·rw [W.size]; exact hT.size
 ·obtain ⟨h1,h2⟩:=W.temps i v' hv
  refine ⟨h1, ?_⟩
  rcases h2 with rfl|h2
  ·have hi:i<tm.size:=by rw [<-hT.size,<-W.size]; exact (List.getElem?_eq_some_iff.1 hv).1
   exact ⟨_,Array.getElem?_eq_getElem hi, .inl rfl⟩
  ·obtain ⟨_,x,hx,hI⟩:=hT.at_ i _ h2
   refine ⟨x,hx, ?_⟩
   rcases hI with e|e
   ·exact .inl (V.ren_u e)
   ·exact .inr (by rw [e,V.comp_tr])

theorem R.val_below {n m m':Nat} {r:R} (h:r.val n m=true) (hb:r.below m'=true):r.val n m'=true:=by
 cases r with
 | g k=>exact h
 | l k=>exact hb
theorem S.val_below {n m m':Nat} {s:S} (h:s.val n m=true) (hb:s.below m'=true):s.val n m'=true:=by
 cases s with
 | p r o=>exact R.val_below h hb
 | sl r o a c=>exact R.val_below h hb
 | fn f cs =>
  simp only [S.val,S.below,List.all_eq_true] at *
  exact fun x hx=>R.val_below (h x hx) (hb x hx)
 | _=>rfl
theorem vals_below {n m m':Nat} {xs:List S} (h:vals n m xs=true) (hb:xs.all (S.below m')=true):vals n m' xs=true:=by
 simp only [vals,List.all_eq_true] at *
 exact fun x hx=>S.val_below (h x hx) (hb x hx)
theorem C.val_below {n m m':Nat} {c:C} (h:c.val n m=true) (hb:c.below m'=true):c.val n m'=true:=by
 cases c with
 | s x=>exact S.val_below h hb
 | agg xs=>exact vals_below h hb
theorem V.val_below {n m m':Nat} {v:V} (h:v.val n m=true) (hb:v.below m'=true):v.val n m'=true:=by
 cases v with
 | s x=>exact S.val_below h hb
 | agg xs=>exact vals_below h hb
 | tup cs =>
  simp only [V.val,V.below,List.all_eq_true] at *
  exact fun x hx=>C.val_below (h x hx) (hb x hx)

theorem leT_get:∀ {t' t:List V},leT t' t->t'.length=t.length/\∀ (i:Nat) (v':V),t'[i]?=some v'->v'=.s .u\/t[i]?=some v'
 | [],[],_=>⟨rfl,fun i v' h=>by simp at h⟩
 | v::t',w::t,h=>by
  obtain ⟨h1,h2⟩:=leT_get h.2
  refine ⟨by simp [h1],fun i v' hi=>?_⟩
  cases i with
  | zero =>
   simp only [List.getElem?_cons_zero,Option.some.injEq] at hi ⊢
   subst hi
   rcases h.1 with e|e
   ·exact .inl e
   ·exact .inr e.symm
  | succ i=>simp only [List.getElem?_cons_succ] at hi ⊢; exact h2 i v' hi
 | [],_::_,h=>h.elim
 | _::_,[],h=>h.elim

theorem Wk.sound {σ0:Sg} {h0:List Blk} {w0:Base} {s s':St} (W:Wk h0.length s s') {σ:Sg} {tm:Array Value} {w:World} (H:Inv σ0 h0 w0 σ s.h s.ls w) (hT:TRel σ s.t tm s.h.length s.ls.length) :
  ∃ σ',Inv σ0 h0 w0 σ' s'.h s'.ls w/\TRel σ' s'.t tm s'.h.length s'.ls.length:=by
 induction W generalizing σ with
 | refl=>exact ⟨σ,H,hT⟩
 | by_ ρ h=>exact ⟨_,h.sound H hT⟩
 | trans _ _ ih1 ih2 =>
  obtain ⟨σ1,H1,hT1⟩:=ih1 H hT
  exact ih2 H1 hT1
 | less ht =>
  rename_i t t' ls h
  refine ⟨σ,H, ?_,fun i v' hv=>?_⟩
  ·rw [(leT_get ht).1]; exact hT.size
  ·rcases (leT_get ht).2 i v' hv with rfl|e
   ·have hi:i<tm.size:=by rw [<-hT.size,<-(leT_get ht).1]; exact (List.getElem?_eq_some_iff.1 hv).1
    exact ⟨rfl,_,Array.getElem?_eq_getElem hi, .inl rfl⟩
   ·exact hT.at_ i v' e
 | cut junk ht hb hl =>
  rename_i t t' ls h
  simp only at *
  have hsub:∀ r B,blk h ls r=some B->blk h (ls++junk) r=some B:=fun r B hr=>by
   cases r with
   | g k=>exact hr
   | l k =>
    simp only [blk] at hr ⊢
    rw [List.getElem?_append_left (List.getElem?_eq_some_iff.1 hr).1]; exact hr
  refine ⟨σ,⟨⟨fun r B hr=>H.sim.ok r B (hsub r B hr),fun r r' B B' hr hr'=>H.sim.sep r r' B B' (hsub r B hr) (hsub r' B' hr'),H.sim.gval,fun B hB=>?_⟩,H.kept,H.len,H.old,fun r B hr=>H.mine r B (hsub r B hr),H.new,H.live,H.gl⟩, ?_,fun i v' hv=>?_⟩
  ·simp only [List.all_eq_true] at hl
   exact vals_below (H.sim.lval B (List.mem_append_left _ hB)) (by simp only [List.all_eq_true]; exact hl B hB)
  ·rw [(leT_get ht).1]; exact hT.size
  ·simp only [List.all_eq_true] at hb
   rcases (leT_get ht).2 i v' hv with rfl|e
   ·have hi:i<tm.size:=by rw [<-hT.size,<-(leT_get ht).1]; exact (List.getElem?_eq_some_iff.1 hv).1
    exact ⟨rfl,_,Array.getElem?_eq_getElem hi, .inl rfl⟩
   ·obtain ⟨h1,h2⟩:=hT.at_ i v' e
    exact ⟨V.val_below h1 (hb v' (List.mem_of_getElem? hv)),h2⟩

theorem Inv.start {σ:Sg} {h ls:List Blk} {w:World} {B1:Base} (hB:B1.w=w) (H:Sim σ h ls w) (G:Gl σ h w) (G2:∀ x,x∈Tabs.cells->B1.pt x.1) (hm:∀ k B,ls[k]?=some B->B.st=.rw->¬ B1.pt (σ (.l k)).1):Inv σ h B1 σ h ls w:=by
 refine ⟨H,⟨by rw [hB]; exact Same.refl w,fun _ _ _=>by rw [hB]⟩,Nat.le_refl _,fun _ _=>rfl,fun r B hb hst=>?_,fun k X hk hX _=>absurd (List.getElem?_eq_some_iff.1 hX).1 (by omega),fun k B0 B h1 h2 hd=>?_,by rw [hB]; exact G,G2,fun k B hk hd=>?_⟩
 ·cases r with
  | g k=>exact .inl ⟨k,B,rfl,hb,hst⟩
  | l k=>exact .inr (hm k B hb hst)
 ·rw [h1] at h2; cases h2; exact hd
 ·have:=H.ok (.g k) B hk
  rw [hB]
  unfold OkBlk at this
  cases hst:B.st with
  | dead=>exact absurd hst hd
  | ro=>rw [hst] at this; exact this.1
  | rw=>rw [hst] at this; exact this.1
/-! ### the code's meaning -/
def DC.dsts:DC->List Nat
 | .reg l=>l.filterMap (·.dst)
 | .seq a b=>a.dsts++b.dsts
 | .cond _ a b=>a.dsts++b.dsts
 | .block _ c=>c.dsts
 | _=>[]
def DC.simple:DC->Bool
 | .skip=>true
 | .exit id=>decide (id<1000000)
 | .ret=>true
 | .reg _=>true
 | .seq a b=>a.simple&&b.simple
 | .cond _ a b=>a.simple&&b.simple
 | .block _ c=>c.simple
 | _=>false
def allRw (ls:List Blk):Bool:=ls.all fun B=>decide (B.st=.rw)
def stopOf:Ex->Option Ex
 | .nrm=>none
 | e=>some e
def maskT:List Nat->List V->List V
 | [],t=>t
 | d::ds,t=>maskT ds (t.set d (.s .u))
def bindT (t:List V):List Nat->List V->List V
 | p::ps,v::vs=>bindT (t.set p v) ps vs
 | _,_=>t

abbrev U:=List V×List Blk
abbrev Rnd:=List V->U->List Blk->(Option Ex->U->List Blk->Prop)->Prop

def yieldOf (x:GI) (t:List V):Option (Nat×List V) :=
 match x.op,x.g with
 | .callv f args,none=>match ev t f with
  | .s (.yl l)=>some (l,args.map (ev t))
  | _=>none
 | _,_=>none
def ywp (Γ:FuncId->FSpec) (l np:Nat) (R:Rnd):List GI->List V->List Blk->List Blk->U->Option Ex->(List V->List Blk->List Blk->U->Option Ex->Prop)->Prop
 | [],t,ls,h,u,p,K=>K t ls h u p
 | x::rest,t,ls,h,u,p,K=>match yieldOf x t with
  | some (l',args)=>ob (l'=l/\p=none/\args.length=np/\args.all V.known=true/\args.all V.noL=true/\allRw ls=true)
    (R args u h fun p' u' h'=>ywp Γ l np R rest (putD t x.dst (.s (.b p'.isNone))) ls h' u' p' K)
  | none=>gwp Γ x t ls h fun t ls h=>ywp Γ l np R rest t ls h u p K
def ydwp (Γ:FuncId->FSpec) (l np:Nat) (R:Rnd):DC->St->U->Option Ex->(Ex->St->U->Option Ex->Prop)->Prop
 | .skip,s,u,p,K=>K .nrm s u p
 | .reg gl,s,u,p,K=>ywp Γ l np R gl s.t s.ls s.h u p fun t ls h u p=>K .nrm ⟨t,ls,h⟩ u p
 | .seq a b,s,u,p,K=>ydwp Γ l np R a s u p fun e s u p=>match e with
  | .nrm=>∃ s',Wk s.h.length s s'/\ydwp Γ l np R b s' u p K
  | e=>K e s u p
 | .cond x a b,s,u,p,K=>match ev s.t x with
  | .s (.b q)=>bcase q fun q=>∃ s',Wk s.h.length s s'/\if q=true then ydwp Γ l np R a s' u p K else ydwp Γ l np R b s' u p K
  | _=>False
 | .block id c,s,u,p,K=>ob (id<1000000) (ydwp Γ l np R c s u p fun e s u p=>match e with
  | .ext j=>if j=id then K .nrm s u p else K (.ext j) s u p
  | e=>K e s u p)
 | .loop c,s,u,p,K=>∀ X:St->U->Option Ex->Prop,(∀ s u p,(∃ s',Wk s.h.length s s'/\ydwp Γ l np R c s' u p fun e s u p=>match e with
  | .nrm=>X s u p
  | e=>K e s u p)->X s u p)->X s u p
 | .exit id,s,u,p,K=>ob (id<1000000) (K (.ext id) s u p)
 | .ret,s,u,p,K=>K .ret s u p
 | _,_,_,_,_=>False
def isem (f:FuncId) (caps:List V) (np:Nat) (u:U) (h:List Blk) (R:Rnd) (K:Option Ex->U->List Blk->Prop):Prop :=
 ∃ (Γ:FuncId->FSpec) (F:DF) (fn:Func),SndΓ Tabs.prog Γ/\FnOk Tabs.prog f/\Tabs.prog.funcs[f]?=some fn/\compF Tabs.prog fn=some F/\F.res=[]/\caps.all V.known=true/\caps.all V.noL=true /\
  ∀ l,∃ s',Wk h.length ⟨.s (.yl l)::caps++List.replicate (F.ntmps-(caps.length+1)) (.tup []),[],h⟩ s'/\ydwp Γ l np R F.body s' u none fun e s u p=>match e with
   | .ext _=>False
   | _=>K p u s.h

def dwp (Γ:FuncId->FSpec) (n0:Nat):DC->St->(Ex->St->Prop)->Prop
 | .skip,s,K=>K .nrm s
 | .reg l,s,K=>rwp Γ l s.t s.ls s.h fun t ls h=>K .nrm ⟨t,ls,h⟩
 | .drq l,s,K=>rqwp Γ l s.t s.ls s.h fun t=>K .nrm ⟨t,s.ls,s.h⟩
 | .drt _ l,s,K=>rwp Γ l s.t s.ls s.h fun t ls h=>K .nrm ⟨t,ls,h⟩
 | .drm l,s,K=>mwp Γ l s.t s.ls s.h fun t ls h=>K .nrm ⟨t,ls,h⟩
 | .drx x,s,K=>xwp Γ x s.t s.ls s.h fun t ls h=>K .nrm ⟨t,ls,h⟩
 | .seq a b,s,K=>dwp Γ n0 a s fun e s=>match e with
  | .nrm=>∃ s',Wk n0 s s'/\dwp Γ n0 b s' K
  | e=>K e s
 | .cond x a b,s,K=>match ev s.t x with
  | .s (.b q)=>bcase q fun q=>∃ s',Wk n0 s s'/\if q=true then dwp Γ n0 a s' K else dwp Γ n0 b s' K
  | _=>False
 | .block id c,s,K=>dwp Γ n0 c s fun e s=>match e with
  | .ext j=>if j=id then K .nrm s else K (.ext j) s
  | e=>K e s
 | .loop c,s,K=>∀ X:St->Prop,(∀ s,(∃ s',Wk n0 s s'/\dwp Γ n0 c s' fun e s=>match e with
  | .nrm=>X s
  | e=>K e s)->X s)->X s
 | .exit id,s,K=>K (.ext id) s
 | .ret,s,K=>K .ret s
 | .rf g ps asg body,s,K=>match ev s.t g with
  | .s (.fn f cs)=>ob (allRw s.ls=true/\asg.simple=true/\body.simple=true)
    (isem f (cs.map fun x=>.s (.p x.1 x.2)) ps.length (s.t,s.ls) s.h
     (fun args u h R=>∃ s0,Wk h.length ⟨bindT u.1 ps args,u.2,h⟩ s0/\dwp Γ h.length asg s0 fun e s=>match e with
      | .nrm=>∃ s',Wk s.h.length s s'/\dwp Γ s.h.length body s' fun e s3=>∃ s4,Wk s.h.length s3 s4/\ob (allRw s4.ls=true) (R (stopOf e) (maskT (ps++(asg.dsts++body.dsts)) s4.t,s4.ls) s4.h)
      | _=>False)
     fun p u h=>K (p.getD .nrm) ⟨u.1,u.2,h⟩)
  | _=>False

def fin (n0:Nat) (rs:List RV) (K:V->List Blk->Prop) (e:Ex) (s:St):Prop :=
 match e with
 | .ext _=>False
 | _=>match rvals s rs with
  | some l=>∃ v ls h,Wk n0 ⟨[result l],s.ls,s.h⟩ ⟨[v],ls,h⟩/\leave v ls h K
  | none=>False

def fwp (Γ:FuncId->FSpec) (F:DF):FSpec:=fun args h K =>
 ∃ Kf:Ex->St->Prop,(∀ e s,Kf e s->fin h.length F.res K e s) /\
  ∃ s,Wk h.length ⟨args++List.replicate (F.ntmps-args.length) (.tup []),[],h⟩ s/\dwp Γ h.length F.body s Kf


end Go.D

