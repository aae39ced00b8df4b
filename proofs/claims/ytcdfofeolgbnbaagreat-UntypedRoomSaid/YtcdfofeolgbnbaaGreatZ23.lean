/- Package heap: sizes,slots,apart,within. -/
import Derived.Test.YtcdfofeolgbnbaaGreatZ11
import Derived.Test.YtcdfofeolgbnbaaGreatZ22
import Derived.Test.YtcdfofeolgbnbaaGreatZ20
import Derived.Test.YtcdfofeolgbnbaaGreatZ19
import Derived.Test.YtcdfofeolgbnbaaGreatZ21
import Derived.Test.YtcdfofeolgbnbaaGreatZ18
import Derived.Test.YtcdfofeolgbnbaaGreatZ17
import Derived.Test.YtcdfofeolgbnbaaGreatZ15
/- Package cdt: Descendants. -/
namespace Go.Proofs.YtcdfofeolgbnbaaGreat
open Go.D
set_option linter.all false
set_option maxRecDepth 100000
set_option maxHeartbeats 8000000

theorem fin_of {n0:Nat} {rs:List RV} {K:V->List Blk->Prop} {s:St} {l:List C} {v:V} {ls h:List Blk} (hr:rvals s rs=some l) (W:Wk n0 ⟨[result l],s.ls,s.h⟩ ⟨[v],ls,h⟩) (hl:leave v ls h K):fin n0 rs K .ret s:=by
 simp only [fin,hr]
 exact ⟨v,ls,h,W,hl⟩
def findRf:DC->Option (DC×DC)
 | .rf _ _ a b=>some (a,b)
 | .seq a b=>(findRf a).or (findRf b)
 | .cond _ a b=>(findRf a).or (findRf b)
 | .block _ c=>findRf c
 | .loop c=>findRf c
 | _=>none
theorem more_wk {Γ:FuncId->FSpec} {n0:Nat} {K:Ex->St->Prop} {d:DC} {fs:List Fr} {t t':List V} {ls ls' h h':List Blk} (hW:Wk n0 ⟨t,ls,h⟩ ⟨t',ls',h'⟩) (hh:holds Γ n0 K (.more (.c d::fs) t' ls' h')):holds Γ n0 K (.more (.c d::fs) t ls h):=by
 simp only [holds] at hh ⊢
 exact swp_weak hW hh
def rndE (K:Option Ex->U->List Blk->Prop) (ds:List Nat) (n0:Nat) (e:Ex) (s3:St):Prop:=∃ s4,Wk n0 s3 s4/\ob (allRw s4.ls=true) (K (stopOf e) (maskT ds s4.t,s4.ls) s4.h)
theorem rndE_mk {K:Option Ex->U->List Blk->Prop} {ds:List Nat} {n0:Nat} {e:Ex} {s3:St} (s4:St) (W:Wk n0 s3 s4) (h:allRw s4.ls=true) (k:K (stopOf e) (maskT ds s4.t,s4.ls) s4.h):rndE K ds n0 e s3:=⟨s4,W,h,k⟩
theorem rnd_rule2 {Γ:FuncId->FSpec} {G:Tab} (hG:G.ok Γ) (n j:Nat) {ps:List Nat} {asg body:DC} {args:List V} {u:U} {h:List Blk} {K:Option Ex->U->List Blk->Prop}
  (hh:holds Γ h.length (fun _ _=>False) (run G n [.c asg, .lp fun s=>swp Γ s.h.length (rndE K (ps++(asg.dsts++body.dsts)) s.h.length) [.c body, .lp (rndE K (ps++(asg.dsts++body.dsts)) s.h.length .nrm), .blk j, .lp (rndE K (ps++(asg.dsts++body.dsts)) s.h.length (.ext j))] s] (bindT u.1 ps args) u.2 h)):rndOf Γ ps asg body args u h K:=by
 have h1:=run_sound hG n _ _ _ _ hh
 simp only [swp] at h1
 obtain ⟨s1,W1,h1⟩:=h1
 unfold rndOf
 refine ⟨s1,W1,cast ?_ h1⟩
 congr 1
 funext e s
 cases e with
 | nrm =>
  simp only [swp]
  refine congrArg Exists (funext fun s'=>congrArg (And _) ?_)
  congr 1
  funext e s
  cases e with
  | nrm=>simp only [swp]; rfl
  | ret=>rfl
  | ext id =>
   simp only [swx,swp]
   split
   ·rename_i e; subst e; rfl
   ·rfl
 | ext id=>simp only [swx]
 | ret=>rfl
section
variable {asg body:DC} {a n:Nat} {own s:Slot} {l:List Int} {c:Nat} {x:Int} {h:List Blk}
end


/-! ### Next -/
def M.nxV (m:M) (a:Int):Int:=if m.fE a=0 then (if (m.gV a).next=0 then 0 else if m.fE (m.gV a).next=0 then (if (m.gV (m.gV a).next).depth<=(m.gV a).depth then 0 else (m.gV a).next) else 0) else 0
def M.nxX (m:M) (a:Int):M:=if m.fE a=0 then (if (m.gV a).next=0 then m.gX a else (m.gX a).gX (m.gV a).next) else m.gX a
def nextM (b:Nat) (m:M) (st:M->List Blk):List V->Res
 | [.s (.i .i64 x)]=>.ok (.s (.i .i64 (m.nxV x))) [] (st (m.nxX x))
 | _=>.bad
noncomputable def nextG:=memF nextM
noncomputable def TNx:Tab:=addT 74 fullG (noT)
theorem TNx_snd:TNx.Snd Tryz.prog:=addT_snd ok74 full_snd ((noT_snd _))
theorem next_snd:Snd Tryz.prog 41 (FSpec.of nextG):=snd_run TNx_snd mixed Tryz.func41 dc41 200 fun args h K hc hS=>by
 obtain ⟨a,b,m,rest,rfl,H,hS1⟩:=memF_spec (f:=nextM) hS
 clear hS
 have hS:=hS1
 clear hS1
 unfold nextM at hS
 split at hS
 ·rename_i x
  simp only [spec_ok,M.nxV,M.nxX] at hS
  obtain ⟨⟨⟨c0,c1,c2,c3,c4,c5,c6,c7,c8,c9,c10⟩,p0,q0,r0⟩,hs⟩:∃ s,m.gV x=s:=⟨_,rfl⟩
  obtain ⟨⟨⟨d0,d1,d2,d3,d4,d5,d6,d7,d8,d9,d10⟩,p1,q1,r1⟩,ht⟩:∃ s,m.gV q0=s:=⟨_,rfl⟩
  simp only [hs,ht] at hS
  by_cases hf:m.fE x=0
  ·rw [if_pos hf,if_pos hf] at hS
   by_cases hn:q0=0
   ·rw [if_pos hn,if_pos hn] at hS
    have hn':(q0==0)=true:=by simpa using hn
    simp (maxSteps:=999999) only [go_sem,simprocAttr,↓qT,↓qF,df41,TNx,fullG,memF_eq H,memF_set H,fullM,hs,hf,hn',bne,Slot.cl,Cap.cl,put,fillP,sub,EVt]
    exact hS
   ·rw [if_neg hn,if_neg hn] at hS
    have hn':(q0==0)=false:=by simpa using hn
    by_cases hg:m.fE q0=0
    ·rw [if_pos hg] at hS
     by_cases hd:r1<=r0
     ·rw [if_pos hd] at hS
      simp (maxSteps:=999999) only [go_sem,simprocAttr,↓qT,↓qF,df41,TNx,fullG,memF_eq H,memF_set H,fullM,hs,ht,hf,hn',hg,hd,gX_fE,gX_gV,bne,Slot.cl,Cap.cl,put,fillP,sub,EVt]
      exact hS
     ·rw [if_neg hd] at hS
      simp (maxSteps:=999999) only [go_sem,simprocAttr,↓qT,↓qF,df41,TNx,fullG,memF_eq H,memF_set H,fullM,hs,ht,hf,hn',hg,hd,gX_fE,gX_gV,bne,Slot.cl,Cap.cl,put,fillP,sub,EVt]
      exact hS
    ·rw [if_neg hg] at hS
     have hg':(m.fE q0==0)=false:=by simpa using hg
     simp (maxSteps:=999999) only [go_sem,simprocAttr,↓qT,↓qF,df41,TNx,fullG,memF_eq H,memF_set H,fullM,hs,ht,hf,hn',hg',hg,gX_fE,gX_gV,bne,Slot.cl,Cap.cl,put,fillP,sub,EVt]
     exact hS
  ·rw [if_neg hf,if_neg hf] at hS
   have hf':(m.fE x==0)=false:=by simpa using hf
   simp (maxSteps:=999999) only [go_sem,simprocAttr,↓qT,↓qF,df41,TNx,fullG,memF_eq H,memF_set H,fullM,hs,hf,hf',bne,Slot.cl,Cap.cl,put,fillP,sub,EVt]
   exact hS
 ·exact hS.elim

/-! ### Below,Last -/

section
variable {asg body:DC} {a n:Nat} {s:Slot} {l:List Int} {c:Nat} {x:Int} {h:List Blk}
end



end Go.Proofs.YtcdfofeolgbnbaaGreat

/- What goes through a list that is in order finds those that lie deeper. -/
namespace Go.Proofs.YtcdfofeolgbnbaaGreat
open Go.D
set_option linter.all false
set_option maxRecDepth 100000
set_option maxHeartbeats 4000000

section
variable {m:M} {P:Int->Prop} {L:List Int}
end
end Go.Proofs.YtcdfofeolgbnbaaGreat

/- The document's Remove. -/
namespace Go.Proofs.YtcdfofeolgbnbaaGreat
open Go.D
set_option linter.all false
set_option maxRecDepth 100000
set_option maxHeartbeats 8000000

end Go.Proofs.YtcdfofeolgbnbaaGreat

/- Remove,of the code and of the document,at a slot of a list that is in order. -/
namespace Go.Proofs.YtcdfofeolgbnbaaGreat
open Go.D
set_option linter.all false
set_option maxRecDepth 100000
set_option maxHeartbeats 4000000

section
variable {m:M} {P:Int->Prop} {L:List Int}
end
end Go.Proofs.YtcdfofeolgbnbaaGreat

/- Law 11: a handler's cap,lists of numbers; both memories. -/
namespace Go.Proofs.YtcdfofeolgbnbaaGreat
open Go.D
set_option linter.all false
set_option maxRecDepth 100000
set_option maxHeartbeats 8000000

/-! ### both memories -/
def bothB (a p:Nat):Blk:=⟨.rw,[.p (.g a) 0, .p (.g p) 0],2⟩
structure IsB (H:List Blk) (c a b p q:Nat) (m r:M):Prop where
 hc:H[c]?=some (bothB a p)
 hm:IsMem H a b m
 hr:IsMem H p q r
 d:a≠p/\a≠q/\b≠p/\b≠q
section
variable {H X:List Blk} {c a b p q:Nat} {m r:M}
end
open Classical in
noncomputable def bothOf (H:List Blk) (c:Nat):Option (Nat×Nat×Nat×Nat×M×M):=if hx:∃ x:Nat×Nat×Nat×Nat×M×M,IsB H c x.1 x.2.1 x.2.2.1 x.2.2.2.1 x.2.2.2.2.1 x.2.2.2.2.2 then some (Classical.choose hx) else none

structure Op where
 wh:Int
 a:Int
 b:Int
 n:Int
def Op.cl (x:Op):List S:=[.i .i64 x.wh, .i .i64 x.a, .i .i64 x.b, .i .i64 x.n]
theorem Op.cl_len (x:Op):x.cl.length=4:=rfl
theorem Op.inj {x y:Op} (e:x.cl=y.cl):x=y:=by
 obtain ⟨a,b,c,d⟩:=x
 obtain ⟨a',b',c',d'⟩:=y
 simp only [Op.cl,List.cons.injEq,S.i.injEq,true_and,and_true] at e
 obtain ⟨rfl,rfl,rfl,rfl⟩:=e
 rfl
instance:Cells Op.cl:=⟨⟨4,Op.cl_len⟩,fun x y e=>Op.inj e⟩
end Go.Proofs.YtcdfofeolgbnbaaGreat

/- Law 11: the memories that a script makes: a list that is a forest; each act by both. -/
namespace Go.Proofs.YtcdfofeolgbnbaaGreat
open Go.D
set_option linter.all false
set_option maxRecDepth 100000
set_option maxHeartbeats 4000000

def dep (D:Int->Int):Int->List Int->Prop
 | _,[]=>True
 | d,x::L=>D x<=d+1/\dep D (D x) L
def lastD (D:Int->Int):Int->List Int->Int
 | d,[]=>d
 | _,x::L=>lastD D (D x) L
theorem dep_app {D:Int->Int}:∀ {A B:List Int} {d:Int},dep D d (A++B)↔dep D d A/\dep D (lastD D d A) B
 | [],B,d=>by simp [dep,lastD]
 | x::A,B,d=>by simp only [List.cons_append,dep,lastD,dep_app (A:=A),and_assoc]
theorem dep_mono {D:Int->Int} {d e:Int} (h:d<=e):∀ {L:List Int},dep D d L->dep D e L
 | [],_=>trivial
 | x::L,⟨h1,h2⟩=>⟨by omega,h2⟩
theorem dep_congr {D D':Int->Int}:∀ {L:List Int} {d:Int},(∀ x,x∈L->D' x=D x)->dep D d L->dep D' d L
 | [],_,_,_=>trivial
 | x::L,d,h,⟨h1,h2⟩=>by
  have e:=h x List.mem_cons_self
  exact ⟨by rw [e]; exact h1,by rw [e]; exact dep_congr (fun y hy=>h y (List.mem_cons_of_mem _ hy)) h2⟩
def M.D (m:M) (x:Int):Int:=(m.gV x).depth
section
variable {m r:M} {L:List Int}
theorem D_w {m m':M} (e:m'.w=m.w):m'.D=m.D:=funext fun x=>congrArg Slot.depth (gV_w e x)
end

def tw (D:Int->Int) (d:Int) (L:List Int):List Int:=L.takeWhile fun y=>decide (d<D y)
def under (D:Int->Int):List Int->Int->List Int
 | [],_=>[]
 | z::L,x=>if z=x then tw D (D x) L else under D L x
theorem tw_cons (D:Int->Int) (d z:Int) (L:List Int):tw D d (z::L)=if d<D z then z::tw D d L else []:=by
 by_cases h:d<D z<;>simp [tw,h]
theorem mem_tw {D:Int->Int} {d z y:Int} {L:List Int}:y∈tw D d (z::L)↔d<D z/\(y=z\/y∈tw D d L):=by
 rw [tw_cons]
 split
 ·rename_i h; simp [h]
 ·rename_i h; simp [h]
theorem tw_sub {D:Int->Int} {d y:Int} {L:List Int} (h:y∈tw D d L):y∈L:=(List.takeWhile_sublist _).subset h
theorem tw_congr {D D':Int->Int} {d:Int}:∀ {L:List Int},(∀ y,y∈L->D' y=D y)->tw D' d L=tw D d L
 | [],_=>rfl
 | z::L,h=>by
  rw [tw_cons,tw_cons,h z List.mem_cons_self,tw_congr fun y hy=>h y (List.mem_cons_of_mem _ hy)]
theorem under_sub {D:Int->Int} {x y:Int}:∀ {L:List Int},y∈under D L x->y∈L/\x∈L
 | [],h=>by cases h
 | z::L,h=>by
  unfold under at h
  split at h
  ·rename_i e; exact ⟨List.mem_cons_of_mem _ (tw_sub h),by rw [e]; exact List.mem_cons_self⟩
  ·obtain ⟨h1,h2⟩:=under_sub h; exact ⟨List.mem_cons_of_mem _ h1,List.mem_cons_of_mem _ h2⟩
theorem under_congr {D D':Int->Int} {x:Int}:∀ {L:List Int},(∀ y,y∈L->D' y=D y)->under D' L x=under D L x
 | [],_=>rfl
 | z::L,h=>by
  unfold under
  have h2:∀ y,y∈L->D' y=D y:=fun y hy=>h y (List.mem_cons_of_mem _ hy)
  by_cases e:z=x
  ·rw [if_pos e,if_pos e,<-e,h z List.mem_cons_self,tw_congr h2]
  ·rw [if_neg e,if_neg e,under_congr h2]
theorem under_split {D:Int->Int} {x:Int} {B:List Int}:∀ {A:List Int},x∉A->under D (A++x::B) x=tw D (D x) B
 | [],_=>by simp [under]
 | z::A,h=>by
  have hz:z≠x:=fun e=>h (by rw [e]; exact List.mem_cons_self)
  rw [List.cons_append,under,if_neg hz,under_split fun h2=>h (List.mem_cons_of_mem _ h2)]
theorem under_none {D:Int->Int} {x:Int}:∀ {L:List Int},x∉L->under D L x=[]
 | [],_=>rfl
 | z::L,h=>by
  have hz:z≠x:=fun e=>h (by rw [e]; exact List.mem_cons_self)
  rw [under,if_neg hz,under_none fun h2=>h (List.mem_cons_of_mem _ h2)]

/-! ### other names -/
/-! ### one more -/
theorem tw_ins {D D':Int->Int} {p a d y:Int} (hDa:D' a=D p+1):∀ {L:List Int},L.Nodup->a∉L->(∀ z,z∈L->D' z=D z)->(y∈tw D' d (insL p a L)↔(y≠a/\y∈tw D d L)\/(y=a/\p∈tw D d L))
 | [],_,_,_=>by simp [insL,tw]
 | z::L,hn,ha,hD=>by
  obtain ⟨n1,n2⟩:=List.nodup_cons.1 hn
  have hza:a≠z:=fun e=>ha (by rw [e]; exact List.mem_cons_self)
  have haL:a∉L:=fun h=>ha (List.mem_cons_of_mem _ h)
  have hz:=hD z List.mem_cons_self
  have hD2:∀ w,w∈L->D' w=D w:=fun w hw=>hD w (List.mem_cons_of_mem _ hw)
  unfold insL
  by_cases e:z=p
  ·subst e
   have hna:¬ a∈tw D d L:=fun h=>haL (tw_sub h)
   have hnp:¬ z∈tw D d L:=fun h=>n1 (tw_sub h)
   rw [if_pos rfl,mem_tw,mem_tw,mem_tw,mem_tw,hz,hDa,tw_congr hD2]
   by_cases c:d<D z
   ·have c2:d<D z+1:=by omega
    by_cases cy:y=a
    ·subst cy; simp [c,c2,hna,hza]
    ·simp [c,c2,cy]
   ·simp [c]
  ·have hpz:p≠z:=fun h=>e h.symm
   rw [if_neg e,mem_tw,mem_tw,mem_tw,hz,tw_ins hDa n2 haL hD2]
   by_cases c:d<D z
   ·by_cases cy:y=a
    ·subst cy; simp [c,hza,hpz]
    ·simp [c,cy]
   ·simp [c]
theorem under_ins {D D':Int->Int} {p a x y:Int} (hDa:D' a=D p+1) (hxa:x≠a):∀ {L:List Int},L.Nodup->a∉L->(∀ z,z∈L->D' z=D z)->(y∈under D' (insL p a L) x↔(y≠a/\y∈under D L x)\/(y=a/\((x=p/\p∈L)\/p∈under D L x)))
 | [],_,_,_=>by simp [insL,under]
 | z::L,hn,ha,hD=>by
  obtain ⟨n1,n2⟩:=List.nodup_cons.1 hn
  have hza:a≠z:=fun e=>ha (by rw [e]; exact List.mem_cons_self)
  have haL:a∉L:=fun h=>ha (List.mem_cons_of_mem _ h)
  have hz:=hD z List.mem_cons_self
  have hD2:∀ w,w∈L->D' w=D w:=fun w hw=>hD w (List.mem_cons_of_mem _ hw)
  unfold insL
  by_cases e:z=p
  ·subst e
   rw [if_pos rfl]
   by_cases ex:z=x
   ·subst ex
    have hna:¬ a∈tw D (D z) L:=fun h=>haL (tw_sub h)
    simp only [under,if_true]
    rw [mem_tw,hz,hDa,tw_congr hD2]
    have c2:D z<D z+1:=by omega
    by_cases cy:y=a
    ·subst cy; simp [c2]
    ·simp [c2,cy]
   ·have hxz:x≠z:=fun h=>ex h.symm
    have hnp:¬ z∈under D L x:=fun h=>n1 (under_sub h).1
    have hna:¬ a∈under D L x:=fun h=>haL (under_sub h).1
    simp only [under,if_neg ex,if_neg (Ne.symm hxa),under_congr hD2,hxz,false_and,false_or,hnp,and_false,or_false]
    by_cases cy:y=a
    ·subst cy; simp [hna]
    ·simp [cy]
  ·have hpz:p≠z:=fun h=>e h.symm
   rw [if_neg e]
   by_cases ex:z=x
   ·subst ex
    have hzp:z≠p:=e
    simp only [under,if_true,hz,tw_ins hDa n2 haL hD2,hzp,false_and,false_or]
   ·simp only [under,if_neg ex,under_ins hDa hxa n2 haL hD2,List.mem_cons,hpz,false_or]
theorem under_new {D D':Int->Int} {p a:Int} (hDa:D' a=D p+1):∀ {L:List Int} {d:Int},a∉L->(∀ z,z∈L->D' z=D z)->dep D d L->under D' (insL p a L) a=[]
 | [],_,_,_,_=>rfl
 | z::L,d,ha,hD,⟨h1,h2⟩=>by
  have hza:¬ z=a:=fun e=>ha (by rw [e]; exact List.mem_cons_self)
  have haL:a∉L:=fun h=>ha (List.mem_cons_of_mem _ h)
  have hD2:∀ w,w∈L->D' w=D w:=fun w hw=>hD w (List.mem_cons_of_mem _ hw)
  unfold insL
  by_cases e:z=p
  ·subst e
   rw [if_pos rfl]
   simp only [under,if_neg hza,if_true]
   cases L with
   | nil=>rfl
   | cons w L =>
    rw [tw_cons,hDa,hD2 w List.mem_cons_self,if_neg]
    have:=h2.1
    omega
  ·rw [if_neg e]
   simp only [under,if_neg hza]
   exact under_new hDa haL hD2 h2
/-! ### one less -/
section
variable {D D':Int->Int} {a:Int} {Ds E:List Int}
end

/-! ### a slot's ancestors -/


section
variable {m r:M} {L:List Int}
theorem nxX_w (m:M) (a:Int):(m.nxX a).w=m.w:=by
 unfold M.nxX
 split
 ·split
  ·exact gX_w _ _
  ·rw [gX_w,gX_w]
 ·exact gX_w _ _
theorem nxV_w {m m':M} (h:m'.w=m.w) (a:Int):m'.nxV a=m.nxV a:=by unfold M.nxV; simp only [fE_w h,gV_w h]
end
end Go.Proofs.YtcdfofeolgbnbaaGreat

/- Law 11: both memories,new; the document's memory of some words; one heap for both. -/
namespace Go.Proofs.YtcdfofeolgbnbaaGreat
open Go.D
set_option linter.all false
set_option maxRecDepth 100000
set_option maxHeartbeats 8000000

/-! ### shared blocks picked out -/
/-! ### both in one heap -/
section
variable {h:List Blk}
end
open Classical in
noncomputable def ofW (l:List Int):M:=if h:(∀ x,x∈l->u64 x)/\l.length<=65536 then ⟨l,0,h.1,h.2⟩ else M.zero 0
end Go.Proofs.YtcdfofeolgbnbaaGreat

/- Law 11: played: a script over both memories. -/
namespace Go.Proofs.YtcdfofeolgbnbaaGreat
open Go.D
set_option linter.all false
set_option maxRecDepth 100000
set_option maxHeartbeats 1000000

section
variable {m r:M} {L:List Int}
end
end Go.Proofs.YtcdfofeolgbnbaaGreat

/- Law 11: Next and Last; the chapter's example,list by list. -/
namespace Go.Proofs.YtcdfofeolgbnbaaGreat
open Go.D
set_option linter.all false
set_option maxRecDepth 100000
set_option maxHeartbeats 4000000

section
variable {m r:M} {L:List Int}
end
section
variable {m:M} {T T':List (Int×Int)} {U U':List Int}
end



def knE (k b n:Int):Int:=if k<1\/8<k\/n<1\/16<n then 1 else if k=1 then (if 4<=b/\b<=15 then 0 else 150) else if k=2 then (if 1<=b/\b<=8 then 0 else 150) else if b=0 then 0 else 150
def knG:List V->List Blk->Res
 | [.s (.i .i64 k), .s (.i .i64 b), .s (.i .i64 n)],h=>.ok (.s (.i .i64 (knE k b n))) [] h
 | _,_=>.bad
theorem kn_snd:Snd Tryz.prog 60 (FSpec.of knG):=snd_run (noT_snd _) mixed Tryz.func60 dc60 200 fun args h K hc hS=>by
 unfold knG at hS
 split at hS
 ·rename_i k b n
  simp only [spec_ok,knE] at hS
  by_cases h1:k<1
  ·rw [if_pos (.inl h1)] at hS
   simp (maxSteps:=999999) only [go_sem,simprocAttr,↓qT,↓qF,df60,h1]
   exact hS
  by_cases h2:8<k
  ·rw [if_pos (.inr (.inl h2))] at hS
   simp (maxSteps:=999999) only [go_sem,simprocAttr,↓qT,↓qF,df60,h1,h2]
   exact hS
  by_cases h3:n<1
  ·rw [if_pos (.inr (.inr (.inl h3)))] at hS
   simp (maxSteps:=999999) only [go_sem,simprocAttr,↓qT,↓qF,df60,h1,h2,h3]
   exact hS
  by_cases h4:16<n
  ·rw [if_pos (.inr (.inr (.inr h4)))] at hS
   simp (maxSteps:=999999) only [go_sem,simprocAttr,↓qT,↓qF,df60,h1,h2,h3,h4]
   exact hS
  rw [if_neg (by omega)] at hS
  by_cases k1:k=1
  ·subst k1
   rw [if_pos rfl] at hS
   by_cases h5:4<=b
   ·have h5':¬ b<4:=by omega
    by_cases h6:b<=15
    ·have h6':¬ 15<b:=by omega
     rw [if_pos ⟨h5,h6⟩] at hS
     simp (maxSteps:=999999) only [go_sem,simprocAttr,↓qT,↓qF,df60,h3,h4,h5,h6,h5',h6']
     exact hS
    ·have h6':15<b:=by omega
     rw [if_neg (by omega)] at hS
     simp (maxSteps:=999999) only [go_sem,simprocAttr,↓qT,↓qF,df60,h3,h4,h5,h6,h5',h6']
     exact hS
   ·have h5':b<4:=by omega
    rw [if_neg (by omega)] at hS
    simp (maxSteps:=999999) only [go_sem,simprocAttr,↓qT,↓qF,df60,h3,h4,h5,h5']
    exact hS
  have k1':(k==1)=false:=by simpa using k1
  rw [if_neg k1] at hS
  by_cases k2:k=2
  ·subst k2
   rw [if_pos rfl] at hS
   by_cases h5:1<=b
   ·have h5':¬ b<1:=by omega
    by_cases h6:b<=8
    ·have h6':¬ 8<b:=by omega
     rw [if_pos ⟨h5,h6⟩] at hS
     simp (maxSteps:=999999) only [go_sem,simprocAttr,↓qT,↓qF,df60,h3,h4,h5,h6,h5',h6']
     exact hS
    ·have h6':8<b:=by omega
     rw [if_neg (by omega)] at hS
     simp (maxSteps:=999999) only [go_sem,simprocAttr,↓qT,↓qF,df60,h3,h4,h5,h6,h5',h6']
     exact hS
   ·have h5':b<1:=by omega
    rw [if_neg (by omega)] at hS
    simp (maxSteps:=999999) only [go_sem,simprocAttr,↓qT,↓qF,df60,h3,h4,h5,h5']
    exact hS
  have k2':(k==2)=false:=by simpa using k2
  rw [if_neg k2] at hS
  by_cases h5:b=0
  ·subst h5
   rw [if_pos rfl] at hS
   simp (maxSteps:=999999) only [go_sem,simprocAttr,↓qT,↓qF,df60,h1,h2,h3,h4,k1,k1',k2,k2']
   exact hS
  ·have h5':(b==0)=false:=by simpa using h5
   rw [if_neg h5] at hS
   by_cases h6:b<0
   ·simp (maxSteps:=999999) only [go_sem,simprocAttr,↓qT,↓qF,df60,h1,h2,h3,h4,k1,k1',k2,k2',h5,h5',h6]
    exact hS
   ·have h7:0<b:=by omega
    simp (maxSteps:=999999) only [go_sem,simprocAttr,↓qT,↓qF,df60,h1,h2,h3,h4,k1,k1',k2,k2',h5,h5',h6,h7]
    exact hS
 ·exact hS.elim
theorem rkn_snd:Snd Tryz.prog 61 (FSpec.of knG):=snd_run (noT_snd _) mixed Tryz.func61 dc61 200 fun args h K hc hS=>by
 unfold knG at hS
 split at hS
 ·rename_i k b n
  simp only [spec_ok,knE] at hS
  by_cases h1:k<1
  ·rw [if_pos (.inl h1)] at hS
   simp (maxSteps:=999999) only [go_sem,simprocAttr,↓qT,↓qF,df61,h1]
   exact hS
  by_cases h2:8<k
  ·rw [if_pos (.inr (.inl h2))] at hS
   simp (maxSteps:=999999) only [go_sem,simprocAttr,↓qT,↓qF,df61,h1,h2]
   exact hS
  by_cases h3:n<1
  ·rw [if_pos (.inr (.inr (.inl h3)))] at hS
   simp (maxSteps:=999999) only [go_sem,simprocAttr,↓qT,↓qF,df61,h1,h2,h3]
   exact hS
  by_cases h4:16<n
  ·rw [if_pos (.inr (.inr (.inr h4)))] at hS
   simp (maxSteps:=999999) only [go_sem,simprocAttr,↓qT,↓qF,df61,h1,h2,h3,h4]
   exact hS
  rw [if_neg (by omega)] at hS
  by_cases k1:k=1
  ·subst k1
   rw [if_pos rfl] at hS
   by_cases h5:4<=b
   ·have h5':¬ b<4:=by omega
    by_cases h6:b<=15
    ·have h6':¬ 15<b:=by omega
     rw [if_pos ⟨h5,h6⟩] at hS
     simp (maxSteps:=999999) only [go_sem,simprocAttr,↓qT,↓qF,df61,h3,h4,h5,h6,h5',h6']
     exact hS
    ·have h6':15<b:=by omega
     rw [if_neg (by omega)] at hS
     simp (maxSteps:=999999) only [go_sem,simprocAttr,↓qT,↓qF,df61,h3,h4,h5,h6,h5',h6']
     exact hS
   ·have h5':b<4:=by omega
    rw [if_neg (by omega)] at hS
    simp (maxSteps:=999999) only [go_sem,simprocAttr,↓qT,↓qF,df61,h3,h4,h5,h5']
    exact hS
  have k1':(k==1)=false:=by simpa using k1
  rw [if_neg k1] at hS
  by_cases k2:k=2
  ·subst k2
   rw [if_pos rfl] at hS
   by_cases h5:1<=b
   ·have h5':¬ b<1:=by omega
    by_cases h6:b<=8
    ·have h6':¬ 8<b:=by omega
     rw [if_pos ⟨h5,h6⟩] at hS
     simp (maxSteps:=999999) only [go_sem,simprocAttr,↓qT,↓qF,df61,h3,h4,h5,h6,h5',h6']
     exact hS
    ·have h6':8<b:=by omega
     rw [if_neg (by omega)] at hS
     simp (maxSteps:=999999) only [go_sem,simprocAttr,↓qT,↓qF,df61,h3,h4,h5,h6,h5',h6']
     exact hS
   ·have h5':b<1:=by omega
    rw [if_neg (by omega)] at hS
    simp (maxSteps:=999999) only [go_sem,simprocAttr,↓qT,↓qF,df61,h3,h4,h5,h5']
    exact hS
  have k2':(k==2)=false:=by simpa using k2
  rw [if_neg k2] at hS
  by_cases h5:b=0
  ·subst h5
   rw [if_pos rfl] at hS
   simp (maxSteps:=999999) only [go_sem,simprocAttr,↓qT,↓qF,df61,h1,h2,h3,h4,k1,k1',k2,k2']
   exact hS
  ·have h5':(b==0)=false:=by simpa using h5
   rw [if_neg h5] at hS
   by_cases h6:b<0
   ·simp (maxSteps:=999999) only [go_sem,simprocAttr,↓qT,↓qF,df61,h1,h2,h3,h4,k1,k1',k2,k2',h5,h5',h6]
    exact hS
   ·have h7:0<b:=by omega
    simp (maxSteps:=999999) only [go_sem,simprocAttr,↓qT,↓qF,df61,h1,h2,h3,h4,k1,k1',k2,k2',h5,h5',h6,h7]
    exact hS
 ·exact hS.elim

/-! ### a new object's cap -/
def frC (k b a:Int):Cap:=⟨k,a,if k=1\/k=2 then b else 0,0,0,0,0,if k=4\/k=5\/k=8 then 7 else 0,0,0,0⟩
def frG:List V->List Blk->Res
 | [.s (.i .i64 k), .s (.i .i64 b), .s (.i .i64 a)],h=>.ok (.agg (frC k b a).cl) [] h
 | _,_=>.bad
theorem fr_snd:Snd Tryz.prog 70 (FSpec.of frG):=snd_run (noT_snd _) mixed Tryz.func70 dc70 200 fun args h K hc hS=>by
 unfold frG at hS
 split at hS
 ·rename_i k b a
  simp only [spec_ok,frC,Cap.cl] at hS
  by_cases k1:k=1
  ·subst k1
   simp only [true_or,if_true,Int.reduceEq,or_self,if_false] at hS
   simp (maxSteps:=999999) only [go_sem,simprocAttr,↓qT,↓qF,df70,put,fillP,sub,EVt]
   exact hS
  by_cases k2:k=2
  ·subst k2
   simp only [or_true,if_true,Int.reduceEq,or_self,if_false] at hS
   simp (maxSteps:=999999) only [go_sem,simprocAttr,↓qT,↓qF,df70,put,fillP,sub,EVt]
   exact hS
  by_cases k4:k=4
  ·subst k4
   simp only [true_or,if_true,Int.reduceEq,or_self,if_false] at hS
   simp (maxSteps:=999999) only [go_sem,simprocAttr,↓qT,↓qF,df70,put,fillP,sub,EVt]
   exact hS
  by_cases k5:k=5
  ·subst k5
   simp only [true_or,or_true,if_true,Int.reduceEq,or_self,if_false] at hS
   simp (maxSteps:=999999) only [go_sem,simprocAttr,↓qT,↓qF,df70,put,fillP,sub,EVt]
   exact hS
  by_cases k8:k=8
  ·subst k8
   simp only [or_true,if_true,Int.reduceEq,or_self,if_false] at hS
   simp (maxSteps:=999999) only [go_sem,simprocAttr,↓qT,↓qF,df70,put,fillP,sub,EVt]
   exact hS
  have q1:(k==1)=false:=by simpa using k1
  have q2:(k==2)=false:=by simpa using k2
  have q4:(k==4)=false:=by simpa using k4
  have q5:(k==5)=false:=by simpa using k5
  have q8:(k==8)=false:=by simpa using k8
  simp only [k1,k2,k4,k5,k8,or_self,if_false] at hS
  simp (maxSteps:=999999) only [go_sem,simprocAttr,↓qT,↓qF,df70,q1,q2,q4,q5,q8,k1,k2,k4,k5,k8,put,fillP,sub,EVt]
  exact hS
 ·exact hS.elim

def hsizesG:List V->List Blk->Res
 | [],h=>.ok (.agg [.i .i64 0, .i .i64 0, .i .i64 0, .i .i64 64, .i .i64 4, .i .i64 8, .i .i64 8, .i .i64 8, .i .i64 16]) [] h
 | _,_=>.bad
theorem hsizes_snd:Snd Tryz.prog 65 (FSpec.of hsizesG):=snd_run (noT_snd _) mixed Tryz.func65 dc65 100 fun args h K hc hS=>by
 unfold hsizesG at hS
 split at hS
 ·simp only [spec_ok] at hS
  simp (maxSteps:=999999) only [go_sem,simprocAttr,↓qT,↓qF,df65,put,fillP,sub,EVt]
  exact hS
 ·exact hS.elim

def hszV (k b:Int):Int :=
 if k=1/\4<=b/\b<=15 then IntKind.i64.wrap (1*2^min b.toNat IntKind.i64.bits)
 else if k=2/\1<=b/\b<=8 then IntKind.i64.wrap (4*2^min b.toNat IntKind.i64.bits)
 else if 3<=k/\k<=8/\b=0 then (if k=3 then 64 else if k=4 then 4 else if k=8 then 16 else 8) else 0
def hszE (k b:Int):Int:=if k=1/\4<=b/\b<=15\/k=2/\1<=b/\b<=8\/3<=k/\k<=8/\b=0 then 0 else 90
def hsizeG:List V->List Blk->Res
 | [.s (.i .i64 k), .s (.i .i64 b)],h=>.ok (.tup [.s (.i .i64 (hszV k b)), .s (.i .i64 (hszE k b))]) [] h
 | _,_=>.bad
def THs:Tab:=addT 65 hsizesG noT
theorem THs_snd:THs.Snd Tryz.prog:=addT_snd ok65 hsizes_snd (noT_snd _)
theorem kinds8 (t:Int):t=1\/t=2\/t=3\/t=4\/t=5\/t=6\/t=7\/t=8\/(¬ t=1/\¬ t=2/\¬ t=3/\¬ t=4/\¬ t=5/\¬ t=6/\¬ t=7/\¬ t=8/\¬ (3<=t/\t<=8)):=by omega
theorem hsize_snd:Snd Tryz.prog 19 (FSpec.of hsizeG):=snd_run THs_snd mixed Tryz.func19 dc19 100 fun args h K hc hS=>by
 unfold hsizeG at hS
 split at hS
 ·rename_i t b
  simp only [spec_ok,hszV,hszE] at hS
  have b0:4<=b->0<=b:=by omega
  have b1:1<=b->0<=b:=by omega
  by_cases c4:4<=b
  all_goals by_cases c15:b<=15
  all_goals by_cases c1:1<=b
  all_goals by_cases c8:b<=8
  all_goals by_cases c0:b=0
  all_goals try (exfalso; omega)
  all_goals try subst c0
  all_goals rcases kinds8 t with rfl|rfl|rfl|rfl|rfl|rfl|rfl|rfl|⟨k1,k2,k3,k4,k5,k6,k7,k8,kr⟩
  all_goals simp only [*,if_true,if_false,Int.reduceEq,Int.reduceLE,and_true,true_and,and_false,false_and,or_false,false_or,or_true,true_or] at hS
  all_goals (try have b2:=b0 c4)
  all_goals (try have b2:=b1 c1)
  all_goals (try have kr1:¬ (3<=t)\/¬ (t<=8):=by omega)
  all_goals (try rcases kr1 with kr1|kr1)
  all_goals (try by_cases kr2:3<=t)
  all_goals (simp (maxSteps:=999999) only [go_sem,simprocAttr,↓qT,↓qF,df19,THs,hsizesG, *,put,fillP])
  all_goals exact hS
 ·exact hS.elim
theorem rhsize_snd:Snd Tryz.prog 62 (FSpec.of hsizeG):=snd_run THs_snd mixed Tryz.func62 dc62 100 fun args h K hc hS=>by
 unfold hsizeG at hS
 split at hS
 ·rename_i t b
  simp only [spec_ok,hszV,hszE] at hS
  have b0:4<=b->0<=b:=by omega
  have b1:1<=b->0<=b:=by omega
  by_cases c4:4<=b
  all_goals by_cases c15:b<=15
  all_goals by_cases c1:1<=b
  all_goals by_cases c8:b<=8
  all_goals by_cases c0:b=0
  all_goals try (exfalso; omega)
  all_goals try subst c0
  all_goals rcases kinds8 t with rfl|rfl|rfl|rfl|rfl|rfl|rfl|rfl|⟨k1,k2,k3,k4,k5,k6,k7,k8,kr⟩
  all_goals simp only [*,if_true,if_false,Int.reduceEq,Int.reduceLE,and_true,true_and,and_false,false_and,or_false,false_or,or_true,true_or] at hS
  all_goals (try have b2:=b0 c4)
  all_goals (try have b2:=b1 c1)
  all_goals (try have kr1:¬ (3<=t)\/¬ (t<=8):=by omega)
  all_goals (try rcases kr1 with kr1|kr1)
  all_goals (try by_cases kr2:3<=t)
  all_goals (simp (maxSteps:=999999) only [go_sem,simprocAttr,↓qT,↓qF,df62,THs,hsizesG, *,put,fillP])
  all_goals exact hS
 ·exact hS.elim

def hplaceG:List V->List Blk->Res
 | [.s (.i .i64 i), .s (.i .i64 n)],h=>.ok (.s (.b (decide (0<=i)&&decide (i<n)))) [] h
 | _,_=>.bad
theorem hplace_snd:Snd Tryz.prog 96 (FSpec.of hplaceG):=snd_run (noT_snd _) mixed Tryz.func96 dc96 100 fun args h K hc hS=>by
 unfold hplaceG at hS
 split at hS
 ·simp only [spec_ok] at hS
  simp (maxSteps:=999999) only [go_sem,simprocAttr,↓qT,↓qF,df96]
  exact hS
 ·exact hS.elim
end Go.Proofs.YtcdfofeolgbnbaaGreat

