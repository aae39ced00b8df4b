/- Soundness of the instructions that only look. -/
import Derived.StillTail
import Derived.OrdersHeld
import Derived.Deep.Quiet
import Derived.Test.YtcdfofeolgbnbaaGreatZ0
/- Regions whose order is drawn: what may be taken first,over contexts that grow. -/
namespace Go.D
set_option linter.all false

section
variable {P:Program} {ops:Array Oper} {md:Region.Mode} {Q:Exit->Act->World->Prop} {C:Type}

def UpIn (P:Program) (ops:Array Oper) (Ok:C->World->Prop) (le:C->C->Prop) (o:Oper) (v:Value) (a:Act) (c:C):Prop:=∀ c',le c c'->YieldsIn P ops (Ok c') o v a

def Closed (md:Region.Mode) (ops:Array Oper) (listed:Array Bool):Prop :=
 listed.size=ops.size/\∀ j oj,ops[j]?=some oj->listed.getD j false=true->∀ e∈oj.after,Region.binds md e=true->listed.getD e.on false=true

theorem Closed.set {i:Nat} {listed:Array Bool} (inv:Closed md ops listed) (hi:i∈Region.ready md ops listed):Closed md ops (listed.setIfInBounds i true):=by
 obtain ⟨_,oi,hoi,hall⟩:=mem_ready.1 hi
 refine ⟨by simp [inv.1],fun j oj hj hl e he hb=>?_⟩
 by_cases hij:i=j
 ·subst hij
  have:oj=oi:=Option.some.inj (hj.symm.trans hoi)
  subst this
  exact getD_set_true (hall e he hb)
 ·rw [getD_set_ne false hij] at hl
  exact getD_set_true (inv.2 j oj hj hl e he hb)

def waitsOn (md:Region.Mode) (ops:Array Oper) (i:Nat):Nat->List Bool
 | 0=>[]
 | k+1=>let l:=waitsOn md ops i k
  l++[k==i||match ops[k]? with
   | some o=>o.after.any fun e=>Region.binds md e&&l.getD e.on false
   | none=>false]

theorem waitsOn_length {i:Nat}:∀ k:Nat,(waitsOn md ops i k).length=k
 | 0=>rfl
 | k+1=>by simp [waitsOn,waitsOn_length k]

theorem waitsOn_spec {i:Nat} {listed:Array Bool} (inv:Closed md ops listed):∀ k j:Nat,(waitsOn md ops i k).getD j false=true->listed.getD j false=true->listed.getD i false=true
 | 0,j,h,_=>by simp [waitsOn] at h
 | k+1,j,h,hl=>by
  simp only [waitsOn,List.getD_eq_getElem?_getD] at h
  rcases Nat.lt_or_ge j k with hj|hj
  ·rw [List.getElem?_append_left (by rw [waitsOn_length]; exact hj)] at h
   exact waitsOn_spec inv k j (by rw [List.getD_eq_getElem?_getD]; exact h) hl
  ·rcases Nat.lt_or_ge j (k+1) with hj2|hj2
   ·have:j=k:=by omega
    subst this
    rw [List.getElem?_append_right (by rw [waitsOn_length]; omega),waitsOn_length,Nat.sub_self] at h
    simp only [List.getElem?_cons_zero,Option.getD_some,Bool.or_eq_true,beq_iff_eq] at h
    rcases h with h|h
    ·subst h; exact hl
    ·split at h
     ·rename_i o ho
      obtain ⟨e,he,hb⟩:=Array.any_eq_true'.1 h
      simp only [Bool.and_eq_true] at hb
      exact waitsOn_spec inv j e.on hb.2 (inv.2 j o ho hl e he hb.1)
     ·cases h
   ·rw [List.getElem?_eq_none (by simp [waitsOn_length]; omega)] at h
    cases h

def barB (md:Region.Mode) (ops:Array Oper) (n:Nat):Bool :=
 (List.range n).all fun i=>let l:=waitsOn md ops i ops.size
  (List.range ops.size).all fun t=>decide (t<n)||l.getD t false

theorem waitsOn_ready {i t:Nat} {listed:Array Bool} (inv:Closed md ops listed) (ht:t∈Region.ready md ops listed) (hne:t≠i):∀ k,(waitsOn md ops i k).getD t false=true->listed.getD i false=true
 | 0,h=>by simp [waitsOn] at h
 | k+1,h=>by
  simp only [waitsOn,List.getD_eq_getElem?_getD] at h
  rcases Nat.lt_or_ge t k with hj|hj
  ·rw [List.getElem?_append_left (by rw [waitsOn_length]; exact hj)] at h
   exact waitsOn_ready inv ht hne k (by rw [List.getD_eq_getElem?_getD]; exact h)
  ·rcases Nat.lt_or_ge t (k+1) with hj2|hj2
   ·have:t=k:=by omega
    subst this
    rw [List.getElem?_append_right (by rw [waitsOn_length]; omega),waitsOn_length,Nat.sub_self] at h
    simp only [List.getElem?_cons_zero,Option.getD_some,Bool.or_eq_true,beq_iff_eq,hne,false_or] at h
    split at h
    ·rename_i o ho
     obtain ⟨e,he,hb⟩:=Array.any_eq_true'.1 h
     simp only [Bool.and_eq_true] at hb
     obtain ⟨_,o',ho',hall⟩:=mem_ready.1 ht
     have:o=o':=Option.some.inj (ho.symm.trans ho')
     subst this
     exact waitsOn_spec inv _ e.on hb.2 (hall e he hb.1)
    ·cases h
   ·rw [List.getElem?_eq_none (by simp [waitsOn_length]; omega)] at h
    cases h

theorem barB_ready {n t i:Nat} {listed:Array Bool} (h:barB md ops n=true) (inv:Closed md ops listed) (ht:t∈Region.ready md ops listed) (hn:n<=t) (hi:i<n):listed.getD i false=true:=by
 simp only [barB,List.all_eq_true,List.mem_range] at h
 have hlt:t<ops.size:=by
  obtain ⟨_,o,ho,_⟩:=mem_ready.1 ht
  exact (Array.getElem?_eq_some_iff.1 ho).1
 have:=h i hi t hlt
 simp only [Bool.or_eq_true,decide_eq_true_eq] at this
 rcases this with h1|h1
 ·omega
 ·exact waitsOn_ready inv ht (by omega) _ h1

def wpK (P:Program) (md:Region.Mode) (ops:Array Oper) (Q:Exit->Act->World->Prop) (Ok:C->World->Prop) (le:C->C->Prop) (n:Nat) (L:Array Bool->Act->C->Prop):Nat->Array Bool->Act->C->Prop
 | 0,listed,a,c=>L listed a c
 | f+1,listed,a,c=>∀ w,Ok c w->Region.ready md ops listed≠[]/\∀ i∈Region.ready md ops listed,i<n /\
   wpOp P ops Q i (fun a' w'=>∃ c',le c c'/\Ok c' w'/\wpK P md ops Q Ok le n L f (listed.setIfInBounds i true) a' c') a w

variable {Ok:C->World->Prop} {le:C->C->Prop}

theorem wpAny_of_wpK {n g:Nat} {L:Array Bool->Act->C->Prop} (hL:∀ listed a c w,L listed a c->Ok c w->wpAny P md ops Q g listed a w) :
  ∀ (f:Nat) (listed:Array Bool) (a:Act) (c:C) (w:World),Ok c w->wpK P md ops Q Ok le n L f listed a c->wpAny P md ops Q (f+g) listed a w
 | 0,listed,a,c,w,hw,h=>by rw [Nat.zero_add]; exact hL _ _ _ _ h hw
 | f+1,listed,a,c,w,hw,h=>by
  rw [show f+1+g=(f+g)+1 by omega]
  obtain ⟨h1,h2⟩:=h w hw
  exact ⟨fun h0=>absurd h0 h1,fun i hi=>wpOp_mono (fun a' w' ⟨c',_,h4,h5⟩=>wpAny_of_wpK hL f _ a' c' w' h4 h5) (h2 i hi).2⟩

theorem wpOp_putP {j:Nat} {oi oj:Oper} {v:Value} {Y:Act->Prop} (hj:ops[j]?=some oj) (hap:oi.apart ops oj=true) (hsj:∀ cs b,oj.op≠.select cs b)
  (keep:∀ a,Y a->∀ u,Y (a.put oj.dst u)) (keepD:∀ a d,Y a->Y { a with defers:=d::a.defers })
  (hQ:∀ c a w,Q (.panic c) (a.put oi.dst v) w->Q (.panic c) a w) {K:Act->World->Prop} {a:Act} {w:World}
  (hy:Y a) (h:wpOp P ops Q j K (a.put oi.dst v) w) :
  wpOp P ops Q j (fun a' w'=>Y a'/\K (a'.put oi.dst v) w') a w:=by
 obtain ⟨h1,h2,h3⟩:=Oper.apart_spec hap
 unfold wpOp at *
 simp only [hj] at *
 rw [wanted_put oj a oi.dst v h1] at h
 split
 ·rename_i hw
  simp only [hw,if_true] at h
  rcases h with h|⟨hasks,hlets⟩
  case inr=>exact .inr ⟨by unfold Oper.asks at *; rw [execOp_put oj hsj a oi.dst v h1] at hasks; exact hasks,hlets⟩
  refine .inl ?_
  unfold Oper.wp at *
  rw [execOp_put oj hsj a oi.dst v h1] at h
  generalize (execOp a.eval oj).run P w=r at *
  cases r with
  | ok n w' =>
   cases n<;>simp only [Oper.upon] at h ⊢
   case value u=>exact ⟨keep a hy u,by rw [<-Act.put_comm a v u h2]; exact h⟩
   case skip=>exact ⟨keep a hy _,by rw [<-Act.put_comm a v undef h2]; exact h⟩
   case defer d =>
    refine ⟨keep _ (keepD a d hy) _, ?_⟩
    rw [<-Act.put_comm _ v undef h2,<-Act.put_defers]
    exact h
   case enter f args =>
    refine Calls.mono h fun e w'' he=>?_
    cases e with
    | returned u=>exact ⟨keep a hy u,by rw [<-Act.put_comm a v u h2]; exact he⟩
    | panicked c=>exact hQ _ _ _ he
    | outgrown=>exact he
   case row row args=>exact Rows.mono h fun u w'' he=>⟨keep a hy u,by rw [<-Act.put_comm a v u h2]; exact he⟩
  | halt x w' =>
   cases x<;>simp only [Oper.upon] at h ⊢
   case panic u=>exact hQ _ _ _ h
 ·rename_i hw
  simp only [hw] at h
  exact ⟨keep a hy _,by rw [<-Act.put_comm a v undef h2]; exact h⟩

theorem wpK_first {n i:Nat} {oi:Oper} {v:Value} {L:Array Bool->Act->C->Prop} (hrefl:∀ c,le c c) (htrans:∀ {c1 c2 c3:C},le c1 c2->le c2 c3->le c1 c3)
  (hi:ops[i]?=some oi) (hsel:∀ (j:Nat) (o:Oper) cs b,ops[j]?=some o->o.op≠.select cs b) (hbar:barB md ops n=true) (hin:i<n)
  (hdone:∀ listed a c,L listed a c->∀ j∈Region.ready md ops listed,n<=j) (hQ:∀ c a w,Q (.panic c) (a.put oi.dst v) w->Q (.panic c) a w) :
  ∀ (f:Nat) (listed:Array Bool) (a:Act) (c:C),Closed md ops listed ->
   (∀ j oj,ops[j]?=some oj->j≠i->listed.getD j true=false->(∀ e∈oj.after,Region.binds md e=true->e.on≠i)->oi.apart ops oj=true) ->
   i∈Region.ready md ops listed->UpIn P ops Ok le oi v a c ->
   wpK P md ops Q Ok le n L f (listed.setIfInBounds i true) (a.put oi.dst v) c->wpK P md ops Q Ok le n L (f+1) listed a c:=by
 intro f
 have hlt:∀ (listed:Array Bool),Closed md ops listed->i∈Region.ready md ops listed->∀ j∈Region.ready md ops listed,j<n:=fun listed inv hr j hj=>by
  rcases Nat.lt_or_ge j n with h|h
  ·exact h
  ·have h1:=barB_ready hbar inv hj h hin
   have h2:=getD_both (mem_ready.1 hr).1
   rw [h2] at h1; cases h1
 have hme:∀ (f:Nat) (listed:Array Bool) (a:Act) (c:C) (w:World),Ok c w->UpIn P ops Ok le oi v a c->wpK P md ops Q Ok le n L f (listed.setIfInBounds i true) (a.put oi.dst v) c ->
   wpOp P ops Q i (fun a' w'=>∃ c',le c c'/\Ok c' w'/\wpK P md ops Q Ok le n L f (listed.setIfInBounds i true) a' c') a w:=fun f listed a c w hw hy H =>
  wpOp_of_qOp (K:=fun a'=>a'=a.put oi.dst v) hw (fun a' w' hok e=>by subst e; exact ⟨c,hrefl c,hok,H⟩) ((hy c (hrefl c)).qOp hi rfl)
 induction f with
 | zero =>
  intro listed a c inv _ hr hy H w hw
  refine ⟨fun h=>(by rw [h] at hr; cases hr),fun j hj=>⟨hlt listed inv hr j hj, ?_⟩⟩
  by_cases hji:j=i
  ·subst hji; exact hme 0 listed a c w hw hy H
  ·have:=hdone _ _ _ H j (ready_mono hj hji)
   have:=hlt listed inv hr j hj
   omega
 | succ f ih =>
  intro listed a c inv hfree hr hy H w hw
  refine ⟨fun h=>(by rw [h] at hr; cases hr),fun j hj=>⟨hlt listed inv hr j hj, ?_⟩⟩
  by_cases hji:j=i
  ·subst hji; exact hme (f+1) listed a c w hw hy H
  ·have h1:=((H w hw).2 j (ready_mono hj hji)).2
   obtain ⟨hjun,oj,hoj,hall⟩:=mem_ready.1 hj
   have hnot:∀ e∈oj.after,Region.binds md e=true->e.on≠i:=fun e he hb heq=>by
    have h1:=hall e he hb
    rw [heq,getD_both (mem_ready.1 hr).1] at h1
    cases h1
   have hap:=hfree j oj hoj hji hjun hnot
   obtain ⟨_,_,h3⟩:=Oper.apart_spec hap
   have h2:=wpOp_putP (Y:=fun a=>UpIn P ops Ok le oi v a c) hoj hap (fun cs b=>hsel j oj cs b hoj)
    (fun a hy u c' hc=>(hy c' hc).of_same (execOp_put oi (fun cs b=>hsel i oi cs b hi) a oj.dst u h3) (wanted_put oi a oj.dst u h3)) (fun a d hy c' hc=>(hy c' hc).of_same rfl rfl) hQ hy h1
   have hfree':∀ k ok,ops[k]?=some ok->k≠i->(listed.setIfInBounds j true).getD k true=false ->
     (∀ e∈ok.after,Region.binds md e=true->e.on≠i)->oi.apart ops ok=true:=fun k ok hk hki hun hno=>by
    refine hfree k ok hk hki ?_ hno
    by_cases hjk:j=k
    ·subst hjk; exact hjun
    ·rw [getD_set_ne true hjk] at hun; exact hun
   refine wpOp_mono (fun a' w' ⟨hy',c',i1,i2,i3⟩=>⟨c',i1,i2,ih (listed.setIfInBounds j true) a' c' (inv.set hj) hfree' (ready_mono hr (Ne.symm hji)) (fun c2 hc2=>hy' c2 (htrans i1 hc2)) ?_⟩) h2
   rw [Array.setIfInBounds_comm _ _ hji]
   exact i3

theorem wpK_single {n k f:Nat} {L:Array Bool->Act->C->Prop} {listed:Array Bool} {a:Act} {c:C} (hr:Region.ready md ops listed=[k]) (hk:k<n)
  (h:∀ w,Ok c w->wpOp P ops Q k (fun a' w'=>∃ c',le c c'/\Ok c' w'/\wpK P md ops Q Ok le n L f (listed.setIfInBounds k true) a' c') a w):wpK P md ops Q Ok le n L (f+1) listed a c:=fun w hw=>by
 refine ⟨fun h0=>(by rw [hr] at h0; cases h0),fun i hi=>?_⟩
 rw [hr] at hi
 have:i=k:=by simpa using hi
 subst this
 exact ⟨hk,h w hw⟩

inductive Tk where
 | q (k:Nat)
 | e (k:Nat)
 | b (k:Nat)

def nextB (m:Nat):List Tk->Nat
 | []=>m
 | .b k::_=>k
 | _::r=>nextB m r

def okTk (md:Region.Mode) (ops:Array Oper):Nat->List Tk->Array Bool->Bool
 | n,[],listed=>(Region.ready md ops listed).isEmpty&&decide (n=ops.size)
 | n, .q k::r,listed=>(Region.ready md ops listed).contains k&&Region.free md ops listed k&&decide (k<n)&&okTk md ops n r (listed.setIfInBounds k true)
 | n, .e k::r,listed=>decide (Region.ready md ops listed=[k])&&decide (k<n)&&okTk md ops n r (listed.setIfInBounds k true)
 | n, .b k::r,listed=>decide (Region.ready md ops listed=[k])&&decide (n=k)&&barB md ops (nextB ops.size r)&&okTk md ops (nextB ops.size r) r (listed.setIfInBounds k true)


/-! ### more than one order -/
def wpX (P:Program) (md:Region.Mode) (ops:Array Oper) (Q:Exit->Act->World->Prop) (Ok:C->World->Prop) (le:C->C->Prop) (qs:Nat->Bool) (F:Act->C->Prop):Nat->Array Bool->Act->C->Prop
 | 0,listed,a,c=>Region.ready md ops listed=[]/\F a c
 | f+1,listed,a,c=>∀ w,Ok c w->Region.ready md ops listed≠[]/\∀ i∈Region.ready md ops listed,
   wpOp P ops Q i (fun a' w'=>∃ c',(qs i=true->le c c')/\Ok c' w'/\wpX P md ops Q Ok le qs F f (listed.setIfInBounds i true) a' c') a w

theorem wpAny_of_wpX {qs:Nat->Bool} {F:Act->C->Prop} (hF:∀ a c w,F a c->Ok c w->Q .normal a w) :
  ∀ (f:Nat) (listed:Array Bool) (a:Act) (c:C) (w:World),Ok c w->wpX P md ops Q Ok le qs F f listed a c->wpAny P md ops Q f listed a w
 | 0,listed,a,c,w,hw,h=>⟨h.1,hF _ _ _ h.2 hw⟩
 | f+1,listed,a,c,w,hw,h=>by
  obtain ⟨h1,h2⟩:=h w hw
  exact ⟨fun h0=>absurd h0 h1,fun i hi=>wpOp_mono (fun a' w' ⟨c',_,h4,h5⟩=>wpAny_of_wpX hF f _ a' c' w' h4 h5) (h2 i hi)⟩

theorem wpX_first {qs:Nat->Bool} {F:Act->C->Prop} {R:C->C->Prop} {ps:Nat->Prop} {k:Nat} {oi:Oper} {v:Value} (hrefl:∀ c,le c c) (rrefl:∀ c,R c c) (rtrans:∀ {c1 c2 c3:C},R c1 c2->R c2 c3->R c1 c3)
  (hR:∀ j c c',ps j->(qs j=true->le c c')->R c c') (hi:ops[k]?=some oi) (hsel:∀ (j:Nat) (o:Oper) cs b,ops[j]?=some o->o.op≠.select cs b) (hQ:∀ c a w,Q (.panic c) (a.put oi.dst v) w->Q (.panic c) a w) :
  ∀ (f:Nat) (listed:Array Bool) (a:Act) (c:C),Closed md ops listed ->
   (∀ j oj,ops[j]?=some oj->j≠k->listed.getD j true=false->(∀ e∈oj.after,Region.binds md e=true->e.on≠k)->oi.apart ops oj=true) ->
   (∀ j,j≠k->listed.getD j true=false->(waitsOn md ops k ops.size).getD j false=false->ps j) ->
   k∈Region.ready md ops listed->UpIn P ops Ok R oi v a c ->
   wpX P md ops Q Ok le qs F f (listed.setIfInBounds k true) (a.put oi.dst v) c->wpX P md ops Q Ok le qs F (f+1) listed a c:=by
 intro f
 have hme:∀ (f:Nat) (listed:Array Bool) (a:Act) (c:C) (w:World),Ok c w->UpIn P ops Ok R oi v a c->wpX P md ops Q Ok le qs F f (listed.setIfInBounds k true) (a.put oi.dst v) c ->
   wpOp P ops Q k (fun a' w'=>∃ c',(qs k=true->le c c')/\Ok c' w'/\wpX P md ops Q Ok le qs F f (listed.setIfInBounds k true) a' c') a w:=fun f listed a c w hw hy H =>
  wpOp_of_qOp (K:=fun a'=>a'=a.put oi.dst v) hw (fun a' w' hok e=>by subst e; exact ⟨c,fun _=>hrefl c,hok,H⟩) ((hy c (rrefl c)).qOp hi rfl)
 induction f with
 | zero =>
  intro listed a c inv _ _ hr hy H w hw
  refine ⟨fun h=>(by rw [h] at hr; cases hr),fun j hj=>?_⟩
  by_cases hji:j=k
  ·subst hji; exact hme 0 listed a c w hw hy H
  ·have:=ready_mono hj hji
   rw [H.1] at this
   cases this
 | succ f ih =>
  intro listed a c inv hfree hps hr hy H w hw
  refine ⟨fun h=>(by rw [h] at hr; cases hr),fun j hj=>?_⟩
  by_cases hji:j=k
  ·subst hji; exact hme (f+1) listed a c w hw hy H
  ·have h1:=(H w hw).2 j (ready_mono hj hji)
   obtain ⟨hjun,oj,hoj,hall⟩:=mem_ready.1 hj
   have hkun:listed.getD k false=false:=by
    obtain ⟨h0,_⟩:=mem_ready.1 hr
    exact getD_both h0
   have hnot:∀ e∈oj.after,Region.binds md e=true->e.on≠k:=fun e he hb heq=>by
    have h1:=hall e he hb
    rw [heq,hkun] at h1
    cases h1
   have hpj:ps j:=hps j hji hjun (by
    cases hm:(waitsOn md ops k ops.size).getD j false with
    | false=>rfl
    | true=>have:=waitsOn_ready inv hj hji ops.size hm; rw [hkun] at this; cases this)
   have hap:=hfree j oj hoj hji hjun hnot
   obtain ⟨_,_,h3⟩:=Oper.apart_spec hap
   have h2:=wpOp_putP (Y:=fun a=>UpIn P ops Ok R oi v a c) hoj hap (fun cs b=>hsel j oj cs b hoj)
    (fun a hy u c' hc=>(hy c' hc).of_same (execOp_put oi (fun cs b=>hsel k oi cs b hi) a oj.dst u h3) (wanted_put oi a oj.dst u h3)) (fun a d hy c' hc=>(hy c' hc).of_same rfl rfl) hQ hy h1
   have hun:∀ i,(listed.setIfInBounds j true).getD i true=false->listed.getD i true=false:=fun i h=>by
    by_cases hij:j=i
    ·subst hij; exact hjun
    ·rw [getD_set_ne true hij] at h; exact h
   refine wpOp_mono (fun a' w' ⟨hy',c',i1,i2,i3⟩=>⟨c',i1,i2,ih (listed.setIfInBounds j true) a' c' (inv.set hj) (fun i oi' ho hne h=>hfree i oi' ho hne (hun i h)) (fun i hne h=>hps i hne (hun i h)) (ready_mono hr (Ne.symm hji)) (fun c2 hc2=>hy' c2 (rtrans (hR j c c' hpj i1) hc2)) ?_⟩) h2
   rw [Array.setIfInBounds_comm _ _ hji]
   exact i3

theorem wpX_ready {qs:Nat->Bool} {F:Act->C->Prop} {f:Nat} {listed:Array Bool} {a:Act} {c:C} {rs:List Nat} (hr:Region.ready md ops listed=rs) (hne:rs≠[])
  (h:∀ i∈rs,∀ w,Ok c w->wpOp P ops Q i (fun a' w'=>∃ c',(qs i=true->le c c')/\Ok c' w'/\wpX P md ops Q Ok le qs F f (listed.setIfInBounds i true) a' c') a w):wpX P md ops Q Ok le qs F (f+1) listed a c:=fun w hw =>
 ⟨by rw [hr]; exact hne,fun i hi=>h i (hr ▸ hi) w hw⟩

inductive XT where
 | done
 | tk (q:Bool) (k:Nat) (r:XT)
 | two (q1:Bool) (k1:Nat) (r1:XT) (q2:Bool) (k2:Nat) (r2:XT)
 | three (q1:Bool) (k1:Nat) (r1:XT) (q2:Bool) (k2:Nat) (r2:XT) (q3:Bool) (k3:Nat) (r3:XT)

def passB (md:Region.Mode) (ops:Array Oper) (qs:Nat->Bool) (k:Nat) (listed:Array Bool):Bool :=
 let l:=waitsOn md ops k ops.size
 (List.range ops.size).all fun j=>j==k||listed.getD j true||l.getD j false||qs j

def okX (md:Region.Mode) (ops:Array Oper) (pu qs:Nat->Bool) (kd:Bool->Nat->Bool):Nat->XT->Array Bool->Bool
 | 0, .done,listed=>(Region.ready md ops listed).isEmpty
 | n+1, .tk q k r,listed=>kd q k&&(decide (Region.ready md ops listed=[k])||(q&&(Region.ready md ops listed).contains k&&Region.free md ops listed k&&(pu k||passB md ops qs k listed)))&&okX md ops pu qs kd n r (listed.setIfInBounds k true)
 | n+1, .two q1 k1 r1 q2 k2 r2,listed=>decide (Region.ready md ops listed=[k1,k2])&&kd q1 k1&&kd q2 k2&&okX md ops pu qs kd n r1 (listed.setIfInBounds k1 true)&&okX md ops pu qs kd n r2 (listed.setIfInBounds k2 true)
 | n+1, .three q1 k1 r1 q2 k2 r2 q3 k3 r3,listed=>decide (Region.ready md ops listed=[k1,k2,k3])&&kd q1 k1&&kd q2 k2&&kd q3 k3&&okX md ops pu qs kd n r1 (listed.setIfInBounds k1 true)&&okX md ops pu qs kd n r2 (listed.setIfInBounds k2 true)&&okX md ops pu qs kd n r3 (listed.setIfInBounds k3 true)
 | _,_,_=>false

theorem passB_spec {qs:Nat->Bool} {k:Nat} {listed:Array Bool} (hsz:listed.size=ops.size) (h:passB md ops qs k listed=true) (j:Nat) (hne:j≠k) (hun:listed.getD j true=false) (hm:(waitsOn md ops k ops.size).getD j false=false):qs j=true:=by
 have hlt:j<ops.size:=by
  rcases Nat.lt_or_ge j ops.size with h1|h1
  ·exact h1
  ·have:listed.getD j true=true:=by simp [Array.getD,show ¬ j<listed.size by omega]
   rw [this] at hun; cases hun
 simp only [passB,List.all_eq_true,List.mem_range,Bool.or_eq_true,beq_iff_eq] at h
 rcases h j hlt with ((h1|h1)|h1)|h1
 ·exact absurd h1 hne
 ·rw [hun] at h1; cases h1
 ·rw [hm] at h1; cases h1
 ·exact h1
end
end Go.D

/- From the model's code to the small code. -/
namespace Go.D
set_option linter.all false
variable [Tabs]

def ofS:Value->Option S
 | .bool b=>some (.b b)
 | .int k n=>some (.i k n)
 | .pointer none=>some .np
 | .slice none 0 0=>some .ns
 | .nilFunc=>some .nf
 | _=>none

def ofSs:List Value->Option (List S)
 | []=>some []
 | v::vs=>match ofS v,ofSs vs with
  | some s,some l=>some (s::l)
  | _,_=>none

def ofV:Value->Option V
 | .agg cs=>(ofSs cs.toList).map V.agg
 | v=>(ofS v).map V.s

def compX:Operand->Option Opd
 | .tmp t=>some (.t t)
 | .const v=>(ofV v).map Opd.k
 | .func f=>some (.k (.s (.fn f [])))
 | .global _=>none

def compXs:List Operand->Option (List Opd)
 | []=>some []
 | x::xs=>match compX x,compXs xs with
  | some y,some l=>some (y::l)
  | _,_=>none

def zeroOf (P:Program) (t:TypeId):Option (List S) :=
 match P.info? t with
 | some i=>match i.zero with
  | some z=>match ofSs z.cells.toList with
   | some l=>if l.length=i.size then some l else none
   | none=>none
  | none=>none
 | none=>none

def shapeOf (P:Program) (t:TypeId):Option (Option Nat) :=
 match P.info? t,P.underlying t with
 | some i,some (.struct _)=>some (some i.size)
 | some i,some (.array _ _)=>some (some i.size)
 | some _,some _=>some none
 | _,_=>none

def flatFs (g:TypeId->Option (List Bool)):List Field->Nat->Option (List Bool)
 | [],_=>some []
 | f::fs,n=>if f.name≠"_"/\f.offset=n then (match g f.type with
  | some m=>match flatFs g fs (n+m.length) with
   | some l=>some (m++l)
   | none=>none
  | none=>none) else none

def rep (m:List Bool):Nat->List Bool
 | 0=>[]
 | n+1=>m++rep m n

def flat (P:Program):Nat->TypeId->Option (List Bool)
 | 0,_=>none
 | d+1,t=>match P.info? t,P.underlying t with
  | some i,some (.int _)=>if i.size=1 then some [true] else none
  | some i,some .bool=>if i.size=1 then some [false] else none
  | some i,some (.struct fs) =>
   if P.stoodInHeld t then none else
   match flatFs (flat P d) fs.toList 0 with
   | some l=>if i.size=l.length then some l else none
   | none=>none
  | some i,some (.array n e)=>match flat P d e with
   | some m=>if i.size=(rep m n).length then some (rep m n) else none
   | none=>none
  | _,_=>none

def partsOf (P:Program) (place:Nat->Option (Nat×Nat)):List (Nat×Operand)->Option (List (Nat×Nat×Opd))
 | []=>some []
 | (i,x)::rest=>match place i,compX x,partsOf P place rest with
  | some (off,size),some y,some l=>some ((off,size,y)::l)
  | _,_,_=>none

def fieldPlaces (P:Program) (fs:List Field) (i:Nat):Option (Nat×Nat) :=
 match fs[i]? with
 | some f=>(P.info? f.type).map fun t=>(f.offset,t.size)
 | none=>none

def allSized (P:Program) (fs:List Field):Bool:=fs.all fun f=>(P.info? f.type).isSome

def nilPtr:Operand->Bool
 | .const (.pointer none)=>true
 | _=>false
def nilSl:Operand->Bool
 | .const (.slice none 0 0)=>true
 | _=>false

def compB:Option Operand->Option (Option Opd)
 | none=>some none
 | some y=>(compX y).map some

def compI (P:Program) (o:Oper):Option I :=
 match o.op with
 | .move x|.assign x=>(compX x).map I.mv
 | .pick c a b=>match compX c,compX a,compX b with
  | some c,some a,some b=>some (.pick c a b)
  | _,_,_=>none
 | .alloc t=>(zeroOf P t).map I.new
 | .box _ x=>(compX x).map I.box
 | .build t parts=>match zeroOf P t,P.underlying t with
  | some z,some (.struct fs)=>if allSized P fs.toList then (partsOf P (fieldPlaces P fs.toList) parts.toList).map (I.build z) else none
  | some z,some (.array _ e)=>match P.info? e with
   | some i=>(partsOf P (fun j=>some (j*i.size,i.size)) parts.toList).map (I.build z)
   | none=>none
  | _,_=>none
 | .buildSlice t n parts=>match P.underlying t with
  | some (.slice e)=>match P.info? e,zeroOf P e with
   | some i,some z=>if n*i.size<=2^24/\i.size≠0 then (partsOf P (fun j=>some (j*i.size,i.size)) parts.toList).map (I.bsl n (zeros z n)) else none
   | _,_=>none
  | _=>none
 | .load t a=>match compX a,shapeOf P t with
  | some a,some n=>some (.ld a n)
  | _,_=>none
 | .store t a x=>match compX a,compX x,P.info? t with
  | some a,some x,some i=>some (.st a x i.size)
  | _,_,_=>none
 | .nilCheck x=>(compX x).map I.nil
 | .binOp op t x y _=>match compX x,compX y with
  | some x',some y' =>
   match op with
   | .eql|.neq =>
    match P.underlying t with
    | some (.struct _)|some (.array _ _)=>match flat P 20 t with
     | some n=>if P.eqGuardType P.depth t then none else some (.eqa (op matches .neq) n x' y')
     | none=>none
    | some (.pointer _)=>if nilPtr y then some (.eqn false (op matches .neq) x') else none
    | some (.slice _)=>if nilSl y then some (.eqn true (op matches .neq) x') else none
    | some .bool=>some (.eqb (op matches .neq) x' y')
    | some (.int _)=>some (.bin op x' y')
    | _=>none
   | _=>some (.bin op x' y')
  | _,_=>none
 | .unOp op _ x=>(compX x).map (I.un op)
 | .convert src dst x=>match P.underlying src,P.underlying dst,compX x with
  | some _,some (.int k),some x=>some (.conv k x)
  | _,_,_=>none
 | .makeFunc (.func f) first caps=>if first.isEmpty then (compXs caps.toList).map (I.mkf f) else none
 | .makeSlice t n c=>match P.underlying t,compX n,compX c with
  | some (.slice e),some n,some c=>match P.info? e,zeroOf P e with
   | some i,some z=>if i.size=0 then none else some (.mks i.size i.bytes z n c)
   | _,_=>none
  | _,_,_=>none
 | .slice t x lo hi mx=>match mx with
  | some _=>none
  | none =>
   match compX x,compB lo,compB hi with
   | some x,some lo,some hi=>match P.underlying t with
    | some (.slice e)=>(P.info? e).map fun i=>.slc none i.size x lo hi
    | some (.array n e)=>(P.info? e).map fun i=>.slc (some n) i.size x lo hi
    | _=>none
   | _,_,_=>none
 | .fieldAddr s x f=>match P.underlying s,compX x with
  | some (.struct fs),some x=>match fs[f]? with
   | some f=>match P.info? f.type with
    | some i=>if i.size=0 then none else some (.fa x f.offset)
    | none=>none
   | none=>none
  | _,_=>none
 | .field s x f=>match P.underlying s,compX x with
  | some (.struct fs),some x=>match fs[f]? with
   | some f=>(shapeOf P f.type).map fun n=>.fld x f.offset n
   | none=>none
  | _,_=>none
 | .indexAddr t x i=>match P.underlying t,compX x,compX i with
  | some (.array n e),some x,some i=>(P.info? e).map fun k=>.ia (some n) k.size x i
  | some (.slice e),some x,some i=>(P.info? e).map fun k=>.ia none k.size x i
  | _,_,_=>none
 | .index t x i=>match P.underlying t,compX x,compX i with
  | some (.array n e),some x,some i=>match P.info? e,shapeOf P e with
   | some k,some m=>some (.ix n k.size m x i)
   | _,_=>none
  | _,_,_=>none
 | .extract x j=>(compX x).map fun x=>.ext x j
 | .call c=>match c.callee with
  | .value (.func f)=>match P.funcs[f]? with
   | some fn=>if fn.body.isSome/\(fn.name=="runtime.NumGoroutine")=false then (compXs c.args.toList).map (I.call f) else none
   | none=>none
  | .value (.tmp t)=>(compXs c.args.toList).map (I.callv (.t t))
  | .builtin .len=>match c.args.toList,c.argTypes.toList with
   | [x],[t]=>match P.underlying t with
    | some (.slice _)=>(compX x).map I.len
    | _=>none
   | _,_=>none
  | .builtin .append=>match c.args.toList,c.argTypes.toList with
   | [x,y],[t,u]=>match P.underlying t,P.underlying u with
    | some (.slice e),some (.slice _)=>match P.info? e,zeroOf P e,compX x,compX y with
     | some i,some _,some x,some y=>if i.bytes=0 then none else some (.app i.size i.bytes x y)
     | _,_,_,_=>none
    | _,_=>none
   | _,_=>none
  | .builtin .copy=>match c.args.toList,c.argTypes.toList with
   | [x,y],[t,_]=>match P.underlying t with
    | some (.slice e)=>match P.info? e,compX x,compX y with
     | some i,some x,some y=>some (.cpy i.size x y)
     | _,_,_=>none
    | _=>none
   | _,_=>none
  | .builtin .min=>match c.args.toList with
   | [x,y]=>match compX x,compX y with
    | some x,some y=>some (.mx false x y)
    | _,_=>none
   | _=>none
  | .builtin .max=>match c.args.toList with
   | [x,y]=>match compX x,compX y with
    | some x,some y=>some (.mx true x y)
    | _,_=>none
   | _=>none
  | _=>none
 | _=>none

def compG (P:Program) (ops:Array Oper) (o:Oper):Option GI :=
 match compI P o with
 | some i=>match o.guard with
  | none=>some ⟨o.dst,i,none⟩
  | some (j,want)=>match ops[j]? with
   | some oj=>match oj.dst with
    | some d=>some ⟨o.dst,i,some (d,want)⟩
    | none=>none
   | none=>none
 | none=>none

def compGs (P:Program) (ops:Array Oper):List Oper->Option (List GI)
 | []=>some []
 | o::os=>match compG P ops o,compGs P ops os with
  | some g,some l=>some (g::l)
  | _,_=>none

def I.still:I->Bool
 | .mv _|.pick ..|.build ..|.ld ..|.nil _|.bin ..|.eqb ..|.eqa ..|.eqn ..|.un ..|.conv ..|.mkf ..|.slc ..|.fa ..|.fld ..|.ia ..|.ix ..|.ext ..|.len _|.mx ..=>true
 | _=>false
def I.quiet:I->Bool
 | .call ..=>true
 | i=>i.still

def headLen:List GI->Nat
 | []=>0
 | x::xs=>if x.op.still then headLen xs+1 else 0

def I.alloc:I->Bool
 | .new _|.bsl ..=>true
 | _=>false
def I.calls:I->Bool
 | .call ..|.callv ..=>true
 | _=>false

def I.pure:I->Bool
 | .ld ..=>false
 | i=>i.still

def stK (l:List GI) (k:Nat):Bool:=match l[k]? with
 | some g=>g.op.still
 | none=>false
def puK (l:List GI) (k:Nat):Bool:=match l[k]? with
 | some g=>g.op.pure
 | none=>false
def caK (l:List GI) (k:Nat):Bool:=match l[k]? with
 | some g=>g.op.calls
 | none=>false
def alK (l:List GI) (k:Nat):Bool:=match l[k]? with
 | some g=>g.op.alloc&&g.g.isNone
 | none=>false
def qcK (ops:Array Oper) (l:List GI) (k:Nat):Bool :=
 caK l k&&(let m:=waitsOn .any ops k ops.size
  (List.range ops.size).any fun j=>stK l j&&!puK l j&&!m.getD j false&&!(waitsOn .any ops j ops.size).getD k false)
def qsK (ops:Array Oper) (l:List GI) (k:Nat):Bool:=stK l k||alK l k||qcK ops l k
def kdK (qs:Nat->Bool) (l:List GI) (q:Bool) (k:Nat):Bool:=cond q ((stK l k||caK l k)&&qs k) (alK l k||!qs k)

def takeX (ops:Array Oper) (l:List GI) (qs:Nat->Bool):Nat->Array Bool->Option XT
 | 0,_=>some .done
 | f+1,listed =>
  let rd:=Region.ready .any ops listed
  match rd.find? (fun k=>puK l k&&Region.free .any ops listed k) with
  | some k=>(takeX ops l qs f (listed.setIfInBounds k true)).map (XT.tk true k)
  | none=>match rd.find? (fun k=>(stK l k||(caK l k&&qs k))&&Region.free .any ops listed k&&passB .any ops qs k listed) with
   | some k=>(takeX ops l qs f (listed.setIfInBounds k true)).map (XT.tk true k)
   | none=>match rd with
    | [k]=>(takeX ops l qs f (listed.setIfInBounds k true)).map (XT.tk ((stK l k||caK l k)&&qs k) k)
    | [i,j]=>match takeX ops l qs f (listed.setIfInBounds i true),takeX ops l qs f (listed.setIfInBounds j true) with
     | some a,some b=>some (.two ((stK l i||caK l i)&&qs i) i a ((stK l j||caK l j)&&qs j) j b)
     | _,_=>none
    | [i,j,k]=>match takeX ops l qs f (listed.setIfInBounds i true),takeX ops l qs f (listed.setIfInBounds j true),takeX ops l qs f (listed.setIfInBounds k true) with
     | some a,some b,some c=>some (.three ((stK l i||caK l i)&&qs i) i a ((stK l j||caK l j)&&qs j) j b ((stK l k||caK l k)&&qs k) k c)
     | _,_,_=>none
    | _=>none

def xCode (l:List GI):XT->Option XC
 | .done=>some .done
 | .tk q k r=>match l[k]?,xCode l r with
  | some g,some m=>some (.tk q g m)
  | _,_=>none
 | .two q1 k1 r1 q2 k2 r2=>match l[k1]?,xCode l r1,l[k2]?,xCode l r2 with
  | some g1,some m1,some g2,some m2=>some (.both (.tk q1 g1 m1) (.tk q2 g2 m2))
  | _,_,_,_=>none
 | .three q1 k1 r1 q2 k2 r2 q3 k3 r3=>match l[k1]?,xCode l r1,l[k2]?,xCode l r2,l[k3]?,xCode l r3 with
  | some g1,some m1,some g2,some m2,some g3,some m3=>some (.both (.tk q1 g1 m1) (.both (.tk q2 g2 m2) (.tk q3 g3 m3)))
  | _,_,_,_,_,_=>none

def drxOfQ (c:Bool) (ops:Array Oper) (l:List GI):Option XC :=
 if Region.noSelect ops=true then
  let q:=(List.range ops.size).map fun k=>cond c (qsK ops l k) (stK l k||alK l k)
  match takeX ops l (fun k=>q.getD k false) ops.size (Array.replicate ops.size false) with
  | some x=>if okX .any ops (puK l) (fun k=>q.getD k false) (kdK (fun k=>q.getD k false) l) ops.size x (Array.replicate ops.size false)=true then xCode l x else none
  | none=>none
 else none
def drxOf (ops:Array Oper) (l:List GI):Option XC:=drxOfQ true ops l
def I.callN:I->Bool
 | .call ..=>true
 | _=>false
def XC.callvQ:XC->Bool
 | .done=>false
 | .tk q g r=>(q&&(match g.op with
  | .callv ..=>true
  | _=>false))||r.callvQ
 | .both a b=>a.callvQ||b.callvQ
def mixB (s:List (Bool×GI)):Bool:=s.any (fun p=>p.1&&p.2.op.callN)&&s.any fun p=>!p.1&&p.2.op.callN

def prefixB (listed:Array Bool) (n k:Nat):Bool:=(List.range n).all fun i=>listed.getD i false==decide (i<k)

def takeTks (ops:Array Oper) (l:List GI):Nat->Array Bool->Option (List Tk)
 | 0,_=>some []
 | f+1,listed =>
  match Region.ready .any ops listed with
  | []=>some []
  | rd=>match rd.find? (fun k=>match l[k]? with|some g=>g.op.still&&Region.free .any ops listed k|none=>false) with
   | some k=>match takeTks ops l f (listed.setIfInBounds k true) with
    | some r=>some (.q k::r)
    | none=>none
   | none=>match rd with
    | [k]=>match l[k]?,takeTks ops l f (listed.setIfInBounds k true) with
     | some g,some r =>
      if g.op.alloc&&g.g.isNone then some (.e k::r)
      else if prefixB listed ops.size k&&barB .any ops k then some (.b k::r)
      else if g.op.calls then some (.q k::r) else none
     | _,_=>none
    | _=>none

def tkCode (l:List GI):List Tk->Option (List (Bool×GI))
 | []=>some []
 | .q k::r=>match l[k]?,tkCode l r with
  | some g,some m=>if g.op.still||g.op.calls then some ((true,g)::m) else none
  | _,_=>none
 | .e k::r=>match l[k]?,tkCode l r with
  | some g,some m=>if g.op.alloc&&g.g.isNone then some ((false,g)::m) else none
  | _,_=>none
 | .b k::r=>match l[k]?,tkCode l r with
  | some g,some m=>some ((false,g)::m)
  | _,_=>none

def drmOf (ops:Array Oper) (l:List GI):Option (List (Bool×GI)) :=
 if Region.noSelect ops=true then
  match takeTks ops l ops.size (Array.replicate ops.size false) with
  | some tks=>if (barB .any ops (nextB ops.size tks)&&okTk .any ops (nextB ops.size tks) tks (Array.replicate ops.size false)&&decide (tks.length=ops.size))=true then tkCode l tks else none
  | none=>none
 else none

def compDr (ops:Array Oper) (l:List GI):Option DC :=
 if l.all (fun x=>x.op.still)=true/\Region.lexB .any ops=true then some (.drq l)
 else if Region.lexTailB .any ops (headLen l)=true then some (.drt (headLen l) l)
 else match drmOf ops l with
  | some s=>if mixB s=true then (match drxOfQ false ops l with
   | some x=>some (.drx x)
   | none=>some (.drm s)) else some (.drm s)
  | none=>if l.all (fun x=>x.op.quiet)=true/\Region.lexB .any ops=true then some (.drq l)
   else match drxOf ops l with
    | some x=>if x.callvQ=true then (match drxOfQ false ops l with
     | some y=>some (.drx y)
     | none=>some (.drx x)) else some (.drx x)
    | none=>none

def labelsOf:Code->List Nat
 | .seq a b=>labelsOf a++labelsOf b
 | .label l=>[l]
 | _=>[]

def goId (l:Nat):Nat:=1000000+2*l
def outId (l:Nat):Nat:=1000001+2*l

mutual
def compC (P:Program):Code->Option DC
 | .skip=>some .skip
 | .region _ ops false=>(compGs P ops ops.toList).map DC.reg
 | .region _ ops true=>match compGs P ops ops.toList with
  | some l=>compDr ops l
  | none=>none
 | .seq a b=>match compC P a,compC P b with
  | some a,some b=>some (.seq a b)
  | _,_=>none
 | .cond c a b=>match compX c,compC P a,compC P b with
  | some c,some a,some b=>some (.cond c a b)
  | _,_,_=>none
 | .block id c=>if id<1000000 then (compC P c).map (DC.block id) else none
 | .loop c=>(compC P c).map DC.loop
 | .exit id=>if id<1000000 then some (.exit id) else none
 | .ret=>some .ret
 | .label _=>some .skip
 | .goto l=>some (.exit (goId l))
 | .scope c=>match labelsOf c with
  | []=>compC P c
  | [l]=>match compC P c,compT P l c with
   | some d,some r=>some (.block (outId l) (.seq (.block (goId l) (.seq d (.exit (outId l)))) (.loop (.block (goId l) (.seq r (.exit (outId l)))))))
   | _,_=>none
  | _=>none
 | .rangeFunc g ps a b=>match compX g,compC P a,compC P b with
  | some g,some a,some b=>some (.rf g ps.toList a b)
  | _,_,_=>none
 | _=>none
def compT (P:Program) (l:Nat):Code->Option DC
 | .seq a b=>match findLabel a l with
  | some _=>match compT P l a,compC P b with
   | some r,some d=>some (.seq r d)
   | _,_=>none
  | none=>compT P l b
 | .label l'=>if l'=l then some .skip else none
 | _=>none
end

def compR (P:Program):List ResultVar->Option (List RV)
 | []=>some []
 | .tmp t::rs=>(compR P rs).map (RV.t t::·)
 | .cell a t::rs=>match shapeOf P t,compR P rs with
  | some n,some l=>some (.c a n::l)
  | _,_=>none

def compF (P:Program) (F:Func):Option DF :=
 match F.body with
 | some c=>match compC P c,compR P F.results.toList with
  | some d,some r=>some ⟨F.ntmps,d,r⟩
  | _,_=>none
 | none=>none

end Go.D

/- Soundness of the instructions that only look. -/
namespace Go.D
set_option linter.all false
variable [Tabs]

def Is (σ:Sg) (v:V) (x:Value):Prop:=v=.s .u\/x=v.tr σ

structure TRel (σ:Sg) (t:List V) (tmps:Array Value) (n m:Nat):Prop where
 size:t.length=tmps.size
 at_:∀ (i:Nat) (v:V),t[i]?=some v->v.val n m=true/\∃ x,tmps[i]?=some x/\Is σ v x

theorem Is.mk {σ:Sg} (v:V):Is σ v (v.tr σ):=.inr rfl

theorem ofS_tr {v:Value} {s:S} (h:ofS v=some s) (σ:Sg):s.tr σ=v/\s.val 0 0=true/\s≠.u:=by
 unfold ofS at h
 split at h<;>first|(cases h; done)|(cases h; exact ⟨rfl,rfl,by simp⟩)

theorem ofSs_tr:∀ {vs:List Value} {l:List S},ofSs vs=some l->∀ σ:Sg,l.map (S.tr σ)=vs/\vals 0 0 l=true/\known l=true
 | [],l,h, σ=>by simp only [ofSs,Option.some.injEq] at h; subst h; exact ⟨rfl,rfl,rfl⟩
 | v::vs,l,h, σ=>by
  simp only [ofSs] at h
  cases h1:ofS v with
  | none=>simp [h1] at h
  | some s =>
   cases h2:ofSs vs with
   | none=>simp [h1,h2] at h
   | some l' =>
    simp only [h1,h2,Option.some.injEq] at h
    subst h
    have a:=ofS_tr h1 σ
    have b:=ofSs_tr h2 σ
    refine ⟨by simp [a.1,b.1],by simp only [vals,List.all_cons,Bool.and_eq_true]; exact ⟨a.2.1,b.2.1⟩, ?_⟩
    simp only [known,List.all_cons,Bool.and_eq_true]
    refine ⟨?_,b.2.2⟩
    have:=a.2.2
    cases s<;>simp at this ⊢

theorem ofV_tr {v:Value} {x:V} (h:ofV v=some x) (σ:Sg):x.tr σ=v/\x.val 0 0=true/\x.known=true:=by
 have hs:(ofS v).map V.s=some x->x.tr σ=v/\x.val 0 0=true/\x.known=true:=fun h=>by
  cases h1:ofS v with
  | none=>simp [h1] at h
  | some s =>
   simp only [h1,Option.map_some,Option.some.injEq] at h
   subst h
   have a:=ofS_tr h1 σ
   refine ⟨a.1,a.2.1, ?_⟩
   have:=a.2.2
   cases s<;>simp [V.known] at this ⊢
 unfold ofV at h
 split at h
 ·rename_i cs
  cases h1:ofSs cs.toList with
  | none=>simp [h1] at h
  | some l =>
   simp only [h1,Option.map_some,Option.some.injEq] at h
   subst h
   have a:=ofSs_tr h1 σ
   refine ⟨?_,a.2.1,a.2.2⟩
   simp only [V.tr,trs,a.1]
 ·exact hs h

theorem ev_is {σ:Sg} {t:List V} {a:Act} {n m:Nat} (hT:TRel σ t a.tmps n m) {x:Operand} {y:Opd} (hx:compX x=some y) :
  (ev t y).val n m=true/\Is σ (ev t y) (a.eval x):=by
 cases x with
 | tmp i =>
  simp only [compX,Option.some.injEq] at hx
  subst hx
  simp only [ev,Act.eval]
  rcases Nat.lt_or_ge i t.length with hlt|hge
  ·have hi:t[i]?=some t[i]:=List.getElem?_eq_getElem hlt
   obtain ⟨h1,x,h2,h3⟩:=hT.at_ i _ hi
   rw [show t.getD i (.tup [])=t[i] by simp [List.getD,hi]]
   refine ⟨h1, ?_⟩
   rw [Array.getD_eq_getD_getElem?,h2]; exact h3
  ·rw [show t.getD i (.tup [])=.tup [] by simp [List.getD,List.getElem?_eq_none hge]]
   refine ⟨rfl, .inr ?_⟩
   rw [Array.getD_eq_getD_getElem?,Array.getElem?_eq_none (by rw [<-hT.size]; exact hge)]; rfl
 | const v =>
  simp only [compX] at hx
  cases h1:ofV v with
  | none=>simp [h1] at hx
  | some w =>
   simp only [h1,Option.map_some,Option.some.injEq] at hx
   subst hx
   have a:=ofV_tr h1 σ
   exact ⟨V.val_mono (Nat.zero_le _) (Nat.zero_le _) a.2.1, .inr a.1.symm⟩
 | global g=>simp [compX] at hx
 | func f=>simp only [compX,Option.some.injEq] at hx; subst hx; exact ⟨rfl, .inr rfl⟩

theorem Is.eq {σ:Sg} {v:V} {x:Value} (h:Is σ v x) (hv:v≠.s .u):x=v.tr σ:=h.resolve_left hv

def Looks (P:Program) (o:Oper) (op:I):Prop :=
 ∀ (Γ:FuncId->FSpec) (σ:Sg) (t:List V) (a:Act) (ls h:List Blk) (K:List V->V->List Blk->List Blk->Prop),
  TRel σ t a.tmps h.length ls.length->(∀ r B,blk h ls r=some B->vals h.length ls.length B.cells=true)->iwp Γ op t ls h K ->
  ∃ v x,K t v ls h/\v.val h.length ls.length=true/\Is σ v x/\∀ w,Sim σ h ls w->(execOp a.eval o).run P w=.ok (.value x) w

section
variable {P:Program} {o:Oper}

theorem looks_mv {x:Operand} {y:Opd} (ho:o.op=.move x\/o.op=.assign x) (hx:compX x=some y):Looks P o (.mv y):=by
 intro Γ σ t a ls h K hT hV hK
 obtain ⟨h1,h2⟩:=ev_is hT hx
 refine ⟨_,_,hK,h1,h2,fun w _=>?_⟩
 rcases ho with ho|ho<;>simp [execOp,ho]

theorem looks_pick {c x y:Operand} {c' x' y':Opd} (ho:o.op=.pick c x y) (hc:compX c=some c') (hx:compX x=some x') (hy:compX y=some y'):Looks P o (.pick c' x' y'):=by
 intro Γ σ t a ls h K hT hV hK
 obtain ⟨_,c2⟩:=ev_is hT hc
 obtain ⟨x1,x2⟩:=ev_is hT hx
 obtain ⟨y1,y2⟩:=ev_is hT hy
 simp only [iwp] at hK
 split at hK
 ·rename_i q hq
  rw [hq] at c2
  have hcv:=c2.eq (by simp)
  cases q
  ·exact ⟨_,_,hK,y1,y2,fun w _=>by simp [execOp,ho,hcv,V.tr,S.tr,asBool]⟩
  ·exact ⟨_,_,hK,x1,x2,fun w _=>by simp [execOp,ho,hcv,V.tr,S.tr,asBool]⟩
 ·exact hK.elim

theorem looks_nil {x:Operand} {y:Opd} (ho:o.op=.nilCheck x) (hx:compX x=some y):Looks P o (.nil y):=by
 intro Γ σ t a ls h K hT hV hK
 obtain ⟨h1,h2⟩:=ev_is hT hx
 simp only [iwp] at hK
 split at hK
 ·rename_i r n hq
  rw [hq] at h1 h2
  exact ⟨_,_,hK,h1,Is.mk _,fun w _=>by simp [execOp,ho,h2.eq (by simp),V.tr,S.tr]⟩
 ·rename_i f cs hq
  rw [hq] at h1 h2
  exact ⟨_,_,hK,h1,Is.mk _,fun w _=>by simp [execOp,ho,h2.eq (by simp),V.tr,S.tr]⟩
 ·exact hK.elim

theorem looks_un {u:UnOp} {T:TypeId} {x:Operand} {y:Opd} (ho:o.op=.unOp u T x) (hx:compX x=some y):Looks P o (.un u y):=by
 intro Γ σ t a ls h K hT hV hK
 obtain ⟨h1,h2⟩:=ev_is hT hx
 simp only [iwp] at hK
 split at hK
 ·rename_i s hq
  rw [hq] at h2
  unfold un1 at hK
  split at hK
  ·exact ⟨_,_,hK,rfl,Is.mk _,fun w _=>by simp [execOp,ho,h2.eq (by simp),V.tr,S.tr,Op.unary]⟩
  ·exact ⟨_,_,hK,rfl,Is.mk _,fun w _=>by simp [execOp,ho,h2.eq (by simp),V.tr,S.tr,Op.unary,Op.intArith]⟩
  ·exact ⟨_,_,hK,rfl,Is.mk _,fun w _=>by simp [execOp,ho,h2.eq (by simp),V.tr,S.tr,Op.unary,intBits_xor]⟩
  ·exact hK.elim
 ·exact hK.elim

theorem looks_conv {src dst:TypeId} {d:TypeDesc} {k:IntKind} {x:Operand} {y:Opd} (ho:o.op=.convert src dst x) (hs:P.underlying src=some d) (hd:P.underlying dst=some (.int k))
  (hx:compX x=some y):Looks P o (.conv k y):=by
 intro Γ σ t a ls h K hT hV hK
 obtain ⟨h1,h2⟩:=ev_is hT hx
 simp only [iwp] at hK
 split at hK
 ·rename_i k' n hq
  rw [hq] at h2
  refine ⟨_,_,hK,rfl,Is.mk _,fun w _=>?_⟩
  have hr:=run_convert_int w src dst k' n (P:=P) (by simp [hs]) (by simp [Program.intKind,hd])
  simp only [Program.intKind,hd] at hr
  simp [execOp,ho,h2.eq (by simp),V.tr,S.tr,hr]
 ·exact hK.elim

theorem looks_ext {x:Operand} {y:Opd} {j:Nat} (ho:o.op=.extract x j) (hx:compX x=some y):Looks P o (.ext y j):=by
 intro Γ σ t a ls h K hT hV hK
 obtain ⟨h1,h2⟩:=ev_is hT hx
 simp only [iwp] at hK
 split at hK
 ·rename_i cs hq
  split at hK
  ·rename_i c hc
   rw [hq] at h1 h2
   simp only [V.val,List.all_eq_true] at h1
   refine ⟨_,(c.v).tr σ,hK, ?_,Is.mk _,fun w _=>?_⟩
   ·have:=h1 c (List.mem_of_getElem? hc)
    cases c<;>exact this
   ·have:c.v.tr σ=c.tr σ:=by cases c<;>rfl
    rw [this]
    have hv:=h2.eq (by simp)
    simp [execOp,ho,hv,V.tr,Instr.extract,hc]
  ·exact hK.elim
 ·exact hK.elim

theorem looks_fa {T:TypeId} {x:Operand} {y:Opd} {j:Nat} {fs:Array Field} {f:Field} {i:TypeInfo} (ho:o.op=.fieldAddr T x j) (hu:P.underlying T=some (.struct fs)) (hf:fs[j]?=some f)
  (hi:P.info? f.type=some i) (hs:i.size≠0) (hx:compX x=some y):Looks P o (.fa y f.offset):=by
 intro Γ σ t a ls h K hT hV hK
 obtain ⟨h1,h2⟩:=ev_is hT hx
 simp only [iwp] at hK
 split at hK
 ·rename_i r n hq
  rw [hq] at h1 h2
  refine ⟨_,_,hK,h1,Is.mk _,fun w _=>?_⟩
  have hadd:(adr σ r n).add f.offset=adr σ r (n+f.offset):=by
   unfold Addr.add adr; split
   ·rename_i e; simp [e]
   ·simp [Nat.add_assoc]
  simp [execOp,ho,h2.eq (by simp),V.tr,S.tr,Instr.fieldAt,run_underlying hu,hf,Instr.sureAddr,fieldPlace,sizeOf,typeInfo,hi,hs,hadd]
 ·exact hK.elim

end
end Go.D

