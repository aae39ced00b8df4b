/- Ranges over functions: soundness. -/
import Derived.Test.YtcdfofeolgbnbaaGreatZ7
/- Ranges over functions: soundness. -/
namespace Go.D
set_option linter.all false
variable [Tabs]

/-! ### inside a fence that lets all in -/
def wideR (ro:Option Nat):Fence:={ Fence.wide with round:=ro }
theorem wideR_fn (ro:Option Nat) (f:FuncId):(wideR ro).fn f:=trivial
section
variable {P:Program} {n:Nat} {ro:Option Nat}
theorem calls_wideR {f:FuncId} {args:Array Value} {w:World} {R:Ending->World->Prop} (h:Calls P f args w R):CallsIn (wideR ro) n P f args w R:=(callsIn_wide (n:=n)).2 h
theorem rows_wideR {row:String} {args:Array Value} {w:World} {R:Value->World->Prop} (h:Rows P row args w R):RowsIn (wideR ro) n P row args w R:=fun c cs _=>by
 obtain ⟨v,w',r,s⟩:=h c cs
 exact ⟨v,w',r,stepsIn_wide.2 s⟩
theorem wpIn_of_wp {o:Oper} {a:Act} {w:World} {next:Act->World->Prop} {Q:Exit->Act->World->Prop} (hno:∀ c,o.op≠.defer c) (h:o.wp P a w next Q):o.wpIn (wideR ro) n P a w next Q:=by
 refine ⟨fun f _=>wideR_fn ro f, ?_⟩
 rw [Oper.semAt_eq _ _ _ hno]
 unfold Oper.wp at h
 generalize (execOp a.eval o).run P w=r at *
 cases r with
 | ok x w' =>
  cases x<;>simp only [Oper.upon] at h
  case value v=>exact h
  case skip=>exact h
  case defer d=>exact h
  case enter f args=>exact ⟨fun hd=>by simp [wideR,Fence.wide] at hd,calls_wideR h⟩
  case row row args=>exact ⟨fun hd=>by simp [wideR,Fence.wide] at hd,rows_wideR h⟩
 | halt x w' =>
  cases x<;>simp only [Oper.upon] at h
  case panic v=>exact h

theorem compI_no_defer {o:Oper} {op:I} (h:compI P o=some op):∀ c,o.op≠.defer c:=fun c e=>by
 unfold compI at h
 rw [e] at h
 cases h
end

/-! ### two parties over the shared blocks -/
section
variable {σ0:Sg} {h0:List Blk} {w0:Base} {σ:Sg} {h ls:List Blk} {w:World} {σ1:Sg} {h1 ls1:List Blk} {w1:World} {B1:Base}

theorem Inv.next (H:Inv σ0 h0 w0 σ h ls w) (hB:B1.w=w) (hq:∀ b,w0.pt b->B1.pt b) (H1:Inv σ h B1 σ1 h1 ls1 w1):Inv σ0 h0 w0 σ1 h1 ls1 w1:=by
 refine ⟨H1.sim,⟨H.kept.same.trans (by rw [<-hB]; exact H1.kept.same), ?_⟩,Nat.le_trans H.len H1.len, ?_, ?_, ?_, ?_,H.gl⟩
 ·intro b hlt hno
  rw [H1.kept.keep b (hq b hlt) (fun k B hk hrw=>(H.outside (r:=.g k) hk hrw hlt hno).symm),hB]
  exact H.kept.keep b hlt hno
 ·intro k hk; rw [H1.old k (Nat.lt_of_lt_of_le hk H.len)]; exact H.old k hk
 ·intro r B hb hst
  rcases H1.mine r B hb hst with ⟨j,B0,rfl,hj,hB0⟩|hge
  ·rcases H.mine (.g j) B0 hj hB0 with h2|h2
   ·exact .inl h2
   ·right; rw [H1.old j (List.getElem?_eq_some_iff.1 hj).1]; exact h2
  ·exact .inr fun e=>hge (hq _ e)
 ·intro k X hk hX hd
  by_cases hkh:k<h.length
  ·obtain ⟨Y,hY⟩:∃ Y,h[k]?=some Y:=⟨_,List.getElem?_eq_getElem hkh⟩
   rw [H1.old k hkh]; exact H.new k Y hk hY (H1.live k Y X hY hX hd)
  ·exact fun e=>H1.new k X (by omega) hX hd (hq _ e)
 ·intro k B0 B hk0 hk hd
  have hk0l:k<h0.length:=(List.getElem?_eq_some_iff.1 hk0).1
  obtain ⟨Bm,hBm⟩:∃ Bm,h[k]?=some Bm:=⟨_,List.getElem?_eq_getElem (by have:=H.len; omega)⟩
  exact H.live k B0 Bm hk0 hBm (H1.live k Bm B hBm hk hd)

theorem Inv.reb {σ':Sg} (H1:Inv σ h B1 σ1 h1 ls1 w1) (hag:∀ k,k<h.length->σ (.g k)=σ' (.g k)):Inv σ' h B1 σ1 h1 ls1 w1:=by
 have hl:∀ k B,h[k]?=some B->k<h.length:=fun k B hk=>(List.getElem?_eq_some_iff.1 hk).1
 refine ⟨H1.sim,⟨H1.kept.same,fun b hb hno=>H1.kept.keep b hb fun k B hk hrw=>by rw [hag k (hl k B hk)]; exact hno k B hk hrw⟩,H1.len,fun k hk=>(H1.old k hk).trans (hag k hk),H1.mine,H1.new,H1.live,fun x hx=>?_,H1.gl.2.1,fun k B hk hd=>by rw [<-hag k (hl k B hk)]; exact H1.gl.2.2 k B hk hd⟩
 obtain ⟨g1,g2,g3⟩:=H1.gl.1 x hx
 exact ⟨g1,g2,fun k B hk hrw=>by rw [<-hag k (hl k B hk)]; exact g3 k B hk hrw⟩

theorem Inv.less (H1:Inv σ h B1 σ1 h1 ls1 w1) {B2:Base} (hB:B2.w=B1.w) (hq:∀ b,B2.pt b->B1.pt b) (hc:∀ x,x∈Tabs.cells->B2.pt x.1):Inv σ h B2 σ1 h1 ls1 w1:=by
 refine ⟨H1.sim,⟨by rw [hB]; exact H1.kept.same,fun b hb hno=>by rw [hB]; exact H1.kept.keep b (hq b hb) hno⟩,H1.len,H1.old,fun r B hb hst=>?_,fun k X hk hX hd e=>H1.new k X hk hX hd (hq _ e),H1.live,by rw [hB]; exact H1.gl.1,hc,by rw [hB]; exact H1.gl.2.2⟩
 rcases H1.mine r B hb hst with h2|h2
 ·exact .inl h2
 ·exact .inr fun e=>h2 (hq _ e)

def noAt (l:Nat) (σ:Sg) (h ls:List Blk):Prop:=∀ r B,blk h ls r=some B->B.st=.rw->(σ r).1≠l

def actB (σ:Sg) (ls:List Blk) (w:World):Base:=⟨w,fun b=>b<w.heap.size/\∀ j X,ls[j]?=some X->X.st=.rw->(σ (.l j)).1≠b,fun _ h=>h.1⟩
def actL (l:Nat) (σ:Sg) (ls:List Blk) (w:World):Base:=⟨w,fun b=>(b<w.heap.size/\b≠l)/\∀ j X,ls[j]?=some X->X.st=.rw->(σ (.l j)).1≠b,fun _ h=>h.1.1⟩

theorem Inv.cells_act (H:Inv σ0 h0 w0 σ h ls w):∀ x,x∈Tabs.cells->(actB σ ls w).pt x.1:=fun x hx=>by
 obtain ⟨_,g2,g3⟩:=H.cellG hx
 exact ⟨g2,fun j X hj hst=>g3 (.l j) X hj hst⟩
theorem Inv.act (H:Inv σ0 h0 w0 σ h ls w):Inv σ h (actB σ ls w) σ h ls w :=
 Inv.start rfl H.sim H.glb H.cells_act (fun k B hb hst hp=>hp.2 k B hb hst rfl)
theorem Inv.act_pt (H:Inv σ0 h0 w0 σ h ls w) {b:Nat} (hb:w0.pt b):(actB σ ls w).pt b:=by
 refine ⟨Nat.lt_of_lt_of_le (w0.lt b hb) H.kept.same.size,fun j X hj hst e=>?_⟩
 rcases H.mine (.l j) X hj hst with ⟨_,_,q,_⟩|h2
 ·cases q
 ·exact h2 (e ▸ hb)
theorem Inv.noAt_act (H1:Inv σ h B1 σ1 h1 ls1 w1) {l:Nat} (hp:B1.pt l) (hn:∀ k B,h[k]?=some B->B.st=.rw->(σ (.g k)).1≠l):noAt l σ1 h1 ls1:=by
 intro r B hb hst
 rcases H1.mine r B hb hst with ⟨j,B0,rfl,hj,hB0⟩|hge
 ·rw [H1.old j (List.getElem?_eq_some_iff.1 hj).1]; exact hn j B0 hj hB0
 ·exact fun e=>hge (e ▸ hp)
theorem Inv.at_act (H1:Inv σ h B1 σ1 h1 ls1 w1) {l:Nat} (hp:B1.pt l) (hn:∀ k B,h[k]?=some B->B.st=.rw->(σ (.g k)).1≠l):w1.heap[l]?=B1.w.heap[l]?:=H1.kept.keep l hp hn
end

structure Two (l:Nat) (σa0:Sg) (ha0:List Blk) (Ba:Base) (σb0:Sg) (hb0:List Blk) (Bb:Base) (σa:Sg) (lsa:List Blk) (σb:Sg) (lsb h:List Blk) (w:World):Prop where
 A:Inv σa0 ha0 Ba σa h lsa w
 B:Inv σb0 hb0 Bb σb h lsb w
 ag:∀ k,k<h.length->σa (.g k)=σb (.g k)
 ap:∀ j k X Y,lsa[j]?=some X->lsb[k]?=some Y->X.st=.rw->Y.st=.rw->(σa (.l j)).1≠(σb (.l k)).1
 na:noAt l σa h lsa
 nb:noAt l σb h lsb
 lt:l<w.heap.size
 pa:¬ Ba.pt l
 pe:∀ b,Ba.pt b↔Bb.pt b
 cl:∀ x,x∈Tabs.cells->x.1≠l

theorem Two.symm {l:Nat} {σa0:Sg} {ha0:List Blk} {Ba:Base} {σb0:Sg} {hb0:List Blk} {Bb:Base} {σa:Sg} {lsa:List Blk} {σb:Sg} {lsb h:List Blk} {w:World} (T:Two l σa0 ha0 Ba σb0 hb0 Bb σa lsa σb lsb h w):Two l σb0 hb0 Bb σa0 ha0 Ba σb lsb σa lsa h w :=
 ⟨T.B,T.A,fun k hk=>(T.ag k hk).symm,fun j k X Y h1 h2 h3 h4=>(T.ap k j Y X h2 h1 h4 h3).symm,T.nb,T.na,T.lt,fun e=>T.pa ((T.pe l).2 e),fun b=>(T.pe b).symm,T.cl⟩

theorem Two.step {l:Nat} {σa0:Sg} {ha0:List Blk} {Ba:Base} {σb0:Sg} {hb0:List Blk} {Bb:Base} {σa:Sg} {lsa:List Blk} {σb:Sg} {lsb h:List Blk} {w:World} (T:Two l σa0 ha0 Ba σb0 hb0 Bb σa lsa σb lsb h w)
  {σa':Sg} {lsa' h':List Blk} {w':World} (hrw:allRw lsb=true) (hn:noAt l σa' h' lsa') (H1:Inv σa h (actL l σa lsa w) σa' h' lsa' w'):Two l σa0 ha0 Ba σb0 hb0 Bb σa' lsa' (mix σb σa') lsb h' w':=by
 have hrwB:∀ (k:Nat) (B:Blk),lsb[k]?=some B->B.st=.rw:=fun k B hk=>by
  simp only [allRw,List.all_eq_true,decide_eq_true_eq] at hrw
  exact hrw B (List.mem_of_getElem? hk)
 have ne:∀ {b:Nat},Ba.pt b->b≠l:=fun hb e=>T.pa (e ▸ hb)
 have hown:∀ (k:Nat) (B:Blk),lsb[k]?=some B->B.st≠.dead->(actL l σa lsa w).pt (σb (.l k)).1:=fun k B hk hd =>
  ⟨⟨T.B.own_lt k B hk hd,T.nb (.l k) B hk (hrwB k B hk)⟩,fun j X hj hst=>T.ap j k X B hj hk hst (hrwB k B hk)⟩
 have hqa:∀ b,Ba.pt b->(actL l σa lsa w).pt b:=fun b hb=>⟨⟨(T.A.act_pt hb).1,ne hb⟩,(T.A.act_pt hb).2⟩
 refine ⟨T.A.next rfl hqa H1,T.B.other rfl hown (fun b hb=>hqa b ((T.pe b).2 hb)) (H1.reb T.ag),fun k _=>rfl,fun j k X Y hj hk hX hY=>?_,hn, ?_,Nat.lt_of_lt_of_le T.lt H1.kept.same.size,T.pa,T.pe,T.cl⟩
 ·rcases H1.mine (.l j) X hj hX with ⟨_,_,q,_⟩|h2
  ·cases q
  ·exact fun e=>h2 (e ▸ hown k Y hk (by rw [hY]; simp))
 ·intro r B hb hst
  cases r with
  | g k=>exact hn (.g k) B hb hst
  | l k=>exact T.nb (.l k) B hb hst

/-! ### code in a round -/
theorem findLabel_not {l:Nat}:∀ {c:Code},l∉labelsOf c->findLabel c l=none
 | .seq a b,h=>by
  simp only [labelsOf,List.mem_append,not_or] at h
  simp only [findLabel,findLabel_not h.1,findLabel_not h.2]
 | .label l',h=>by
  simp only [labelsOf,List.mem_singleton] at h
  simp only [findLabel]
  rw [if_neg]
  simpa using fun e=>h e.symm
 | .skip,_=>rfl
 | .region ..,_=>rfl
 | .cond ..,_=>rfl
 | .block ..,_=>rfl
 | .loop ..,_=>rfl
 | .rangeFunc ..,_=>rfl
 | .exit ..,_=>rfl
 | .scope ..,_=>rfl
 | .goto ..,_=>rfl
 | .ret,_=>rfl
 | .refuse ..,_=>rfl

section
variable {P:Program} {Γ:FuncId->FSpec} {n:Nat} {ro:Option Nat} {σ0:Sg} {h0:List Blk} {w0:Base}

theorem put_tmps (a:Act) (d:Option Tmp) (x:Value):(a.put d x).tmps.size=a.tmps.size/\∀ i,d≠some i->(a.put d x).tmps[i]?=a.tmps[i]?:=by
 cases d with
 | none=>exact ⟨rfl,fun _ _=>rfl⟩
 | some d =>
  refine ⟨by simp [Act.put],fun i hi=>?_⟩
  simp only [Act.put]
  exact Array.getElem?_setIfInBounds_ne fun e=>hi (by rw [e])

structure SameT (ds:List Nat) (a a':Act):Prop where
 size:a'.tmps.size=a.tmps.size
 at_:∀ i,i∉ds->a'.tmps[i]?=a.tmps[i]?
theorem SameT.refl (ds:List Nat) (a:Act):SameT ds a a:=⟨rfl,fun _ _=>rfl⟩
theorem SameT.trans {ds ds':List Nat} {a b c:Act} (h:SameT ds a b) (k:SameT ds' b c):SameT (ds++ds') a c :=
 ⟨k.size.trans h.size,fun i hi=>(k.at_ i fun e=>hi (List.mem_append_right _ e)).trans (h.at_ i fun e=>hi (List.mem_append_left _ e))⟩
theorem SameT.left {ds:List Nat} {a b:Act} (h:SameT ds a b) (ds':List Nat):SameT (ds++ds') a b:=⟨h.size,fun i hi=>h.at_ i fun e=>hi (List.mem_append_left _ e)⟩
theorem SameT.right {ds:List Nat} {a b:Act} (h:SameT ds a b) (ds':List Nat):SameT (ds'++ds) a b:=⟨h.size,fun i hi=>h.at_ i fun e=>hi (List.mem_append_right _ e)⟩
theorem SameT.put {ds:List Nat} {a b:Act} {d:Option Nat} {x:Value} (h:SameT ds (a.put d x) b):SameT (d.toList++ds) a b:=by
 obtain ⟨h1,h2⟩:=put_tmps a d x
 refine ⟨h.size.trans h1,fun i hi=>?_⟩
 simp only [List.mem_append,not_or] at hi
 rw [h.at_ i hi.2,h2 i]
 rintro rfl
 exact hi.1 (by simp)
theorem compDr_simple {ops:Array Oper} {l:List GI} {d:DC} (h:compDr ops l=some d):d.simple=false:=by
 unfold compDr at h
 repeat' split at h
 all_goals first|(cases h; rfl)|(cases h; done)
theorem stepR_scope {b:Frame} {a:Act} {k:List Item} {cs:List Frame} {w:World} {c:Code}:step P (lone (b.atR a (.code (.scope c)::k)) cs w)=.next (lone (b.atR a (.code c::.inScope c::k)) cs w) :=
 step_lone_go (by simp [stepG,stepG.exec,Frame.atR])
theorem stepR_inScope {b:Frame} {a:Act} {k:List Item} {cs:List Frame} {w:World} {c:Code}:step P (lone (b.atR a (.inScope c::k)) cs w)=.next (lone (b.atR a k) cs w) :=
 step_lone_go (by simp [stepG,stepG.exec,Frame.atR])
theorem scopeIn_plain {c:Code} {a:Act} {w:World} {Q:Exit->Act->World->Prop} (hn:∀ l',findLabel c l'=none) (h:c.wpIn (wideR ro) n P Q a w):(Code.scope c).wpIn (wideR ro) n P Q a w:=fun b k cs hro hb hr=>by
 obtain ⟨e,a₁,w₁,hq,harr⟩:=h b (.inScope c::k) cs hro hb hr
 have h0:(lone (b.atR a (.code (.scope c)::k)) cs w).fenced P (wideR ro):=fenced_calm hb hr rfl
 cases e with
 | normal=>exact ⟨.normal,a₁,w₁,hq, .head h0 stepR_scope (StepsIn.trans harr (.one (fenced_calm hb hr rfl) stepR_inScope))⟩
 | exit id=>exact ⟨.exit id,a₁,w₁,hq,fun k' hk=>.head h0 stepR_scope (harr.1 k' (by simp [exitTo,hk])),fun hr' hk=>let ⟨k₁,h1,h2⟩:=harr.2 hr' (by simp [exitTo,hk]); ⟨k₁,h1, .head h0 stepR_scope h2⟩⟩
 | goto l=>exact ⟨.goto l,a₁,w₁,hq,fun k' hk=>.head h0 stepR_scope (harr.1 k' (by simp [gotoIn,hn l,hk])),fun hr' hk=>let ⟨k₁,h1,h2⟩:=harr.2 hr' (by simp [gotoIn,hn l,hk]); ⟨k₁,h1, .head h0 stepR_scope h2⟩⟩
 | ret=>exact ⟨_,a₁,w₁,hq, .of_steps (.one h0 stepR_scope) harr⟩
 | panic ch=>exact ⟨_,a₁,w₁,hq, .of_steps (.one h0 stepR_scope) harr⟩
 | outgrown=>exact ⟨_,a₁,w₁,hq, .of_steps (.one h0 stepR_scope) harr⟩

theorem rwpIn_sound (hΓ:SndΓ P Γ) {ops:Array Oper}:∀ (os:List Oper) (gl:List GI),compGs P ops os=some gl->∀ (σ:Sg) (t:List V) (a:Act) (ls h:List Blk) (w:World) (K:List V->List Blk->List Blk->Prop) (Q:Exit->Act->World->Prop),
  Inv σ0 h0 w0 σ h ls w->TRel σ t a.tmps h.length ls.length->rwp Γ gl t ls h K->(∀ e,¬ (e=Exit.outgrown/\LetsOut Q)) ->
  (∀ σ' t' ls' h' w' a',Inv σ0 h0 w0 σ' h' ls' w'->TRel σ' t' a'.tmps h'.length ls'.length->a'.defers=a.defers->SameT (gl.filterMap (·.dst)) a a'->K t' ls' h'->Q .normal a' w') ->
  wpListIn (wideR ro) n P ops Q os a w
 | [],gl,hc, σ,t,a,ls,h,w,K,Q,H,hT,hK,ho,hn=>by
  simp only [compGs,Option.some.injEq] at hc
  subst hc
  exact hn σ t ls h w a H hT rfl (.refl _ _) hK
 | o::os,gl,hc, σ,t,a,ls,h,w,K,Q,H,hT,hK,ho,hn=>by
  obtain ⟨g,l,rfl,hg,hl⟩:=compGs_cons hc
  obtain ⟨hi,hdst,hgd⟩:=compG_spec hg
  simp only [rwp] at hK
  have hS:∀ x a2,SameT (l.filterMap (·.dst)) (a.put o.dst x) a2->SameT ((g::l).filterMap (·.dst)) a a2:=fun x a2 hs=>by
   have:=hs.put
   rw [<-hdst] at this
   cases hd:g.dst<;>simpa [List.filterMap_cons,hd] using this
  have hdo:iwp Γ g.op t ls h (fun t v ls h=>rwp Γ l (putD t g.dst v) ls h K)->o.wpIn (wideR ro) n P a w (wpListIn (wideR ro) n P ops Q os) Q:=fun hK=>by
   refine wpIn_of_wp (compI_no_defer hi) (acts_all hΓ hi σ0 h0 w0 σ t a ls h w _ _ Q H hT hK (fun σ' t' v x ls' h' w' H' hT' hv hx hK'=>?_))
   rw [hdst] at hK'
   exact rwpIn_sound hΓ os l hl σ' _ _ ls' h' w' K Q H' (hT'.put o.dst hv hx) hK' ho (fun σ2 t2 ls2 h2 w2 a2 i1 i2 i3 i5 i4=>hn σ2 t2 ls2 h2 w2 a2 i1 i2 (by rw [i3,put_defers]) (hS x a2 i5) i4)
  have hskip:rwp Γ l (putD t g.dst (.tup [])) ls h K->wpListIn (wideR ro) n P ops Q os (a.put o.dst undef) w:=fun hK=>by
   rw [hdst] at hK
   exact rwpIn_sound hΓ os l hl σ _ _ ls h w K Q H (hT.put o.dst rfl (.inr rfl)) hK ho (fun σ2 t2 ls2 h2 w2 a2 i1 i2 i3 i5 i4=>hn σ2 t2 ls2 h2 w2 a2 i1 i2 (by rw [i3,put_defers]) (hS undef a2 i5) i4)
  have hab:∀ f,o.about P w a.eval=some f->(wideR ro).fn f:=fun f _=>wideR_fn ro f
  unfold wpListIn
  unfold gwp at hK
  rcases hgd with ⟨h1,h2⟩|⟨j,want,oj,d,h1,h2,h3,h4⟩
  ·rw [h2] at hK
   rw [if_pos (by simp [Region.wanted,h1])]
   exact hdo hK
  ·rw [h4] at hK
   simp only at hK
   obtain ⟨g1,g2⟩:=guard_wanted hT h1 h2 h3
   split at hK
   ·rename_i q hq
    rw [g1 q hq]
    cases q
    ·simp only [bcase] at hK
     rw [set_getD hq (by simp)] at hK
     split at hK
     ·rename_i hw; rw [if_pos hw]; exact hdo hK
     ·rename_i hw; rw [if_neg hw]; exact ⟨hab,hskip hK⟩
    ·simp only [bcase] at hK
     rw [set_getD hq (by simp)] at hK
     split at hK
     ·rename_i hw; rw [if_pos hw]; exact hdo hK
     ·rename_i hw; rw [if_neg hw]; exact ⟨hab,hskip hK⟩
   ·rename_i hq
    rw [g2 hq,if_neg (by simp)]
    exact ⟨hab,hskip hK⟩
   ·exact hK.elim

def exOfR:Exit->Option Ex
 | .normal=>some .nrm
 | .exit id=>if id<1000000 then some (.ext id) else none
 | .ret=>some .ret
 | _=>none
def RK (σ0:Sg) (h0:List Blk) (w0:Base) (ds:List Nat) (a0:Act) (K:Ex->St->Prop):Exit->Act->World->Prop:=fun e a w =>
 match exOfR e with
 | some x=>∃ (σ:Sg) (s:St),Inv σ0 h0 w0 σ s.h s.ls w/\TRel σ s.t a.tmps s.h.length s.ls.length/\SameT ds a0 a/\K x s
 | none=>False
theorem RK.map {ds ds':List Nat} {a0 a1 a:Act} {K K':Ex->St->Prop} {e:Exit} {w:World} (hs:SameT ds a0 a->SameT ds' a1 a) (hk:∀ x s,K x s->K' x s) (hq:RK σ0 h0 w0 ds a0 K e a w):RK σ0 h0 w0 ds' a1 K' e a w:=by
 unfold RK at *
 cases hx:exOfR e with
 | none=>rw [hx] at hq; exact hq.elim
 | some x =>
  rw [hx] at hq
  obtain ⟨σ,s,i1,i2,i3,i4⟩:=hq
  exact ⟨σ,s,i1,i2,hs i3,hk x s i4⟩

theorem rdwp_sound (hΓ:SndΓ P Γ):∀ (c:Code) (d:DC),compC P c=some d->d.simple=true->∀ (s:St) (a:Act) (w:World) (σ:Sg) (K:Ex->St->Prop),
  Inv σ0 h0 w0 σ s.h s.ls w->TRel σ s.t a.tmps s.h.length s.ls.length->dwp Γ h0.length d s K->c.wpIn (wideR ro) n P (RK σ0 h0 w0 d.dsts a K) a w
 | .skip,d,hc,hs,s,a,w, σ,K,H,hT,hK=>by
  simp only [compC,Option.some.injEq] at hc; subst hc
  exact wpIn_skip ⟨σ,s,H,hT, .refl _ _,hK⟩
 | .region id ops false,d,hc,hs,s,a,w, σ,K,H,hT,hK=>by
  simp only [compC] at hc
  cases hg:compGs P ops ops.toList with
  | none=>simp [hg] at hc
  | some gl =>
   simp only [hg,Option.map_some,Option.some.injEq] at hc
   subst hc
   simp only [dwp] at hK
   refine wpIn_region_list (rwpIn_sound hΓ ops.toList gl hg σ s.t a s.ls s.h w _ _ H hT hK ?_ (fun σ' t' ls' h' w' a' i1 i2 i3 i5 i4=>⟨σ',⟨t',ls',h'⟩,i1,i2,i5,i4⟩))
   rintro e ⟨_,a1,w1,hq⟩
   simp [RK,exOfR] at hq
 | .region id ops true,d,hc,hs,s,a,w, σ,K,H,hT,hK=>by
  exfalso
  simp only [compC] at hc
  cases hg:compGs P ops ops.toList with
  | none=>simp [hg] at hc
  | some gl =>
   simp only [hg] at hc
   rw [compDr_simple hc] at hs; cases hs
 | .seq x y,d,hc,hs,s,a,w, σ,K,H,hT,hK=>by
  simp only [compC] at hc
  split at hc
  ·rename_i d1 d2 h1 h2
   cases hc
   simp only [DC.simple,Bool.and_eq_true] at hs
   simp only [dwp] at hK
   refine wpIn_seq (wpIn_mono (rdwp_sound hΓ x d1 h1 hs.1 s a w σ _ H hT hK) ?_)
   rintro e a' w' hq
   unfold RK at hq
   split at hq
   ·rename_i x' hx
    obtain ⟨σ',s',i1,i2,i3,i4⟩:=hq
    cases e<;>simp only [exOfR] at hx
    case normal =>
     cases hx
     obtain ⟨s2,iW,i4⟩:=i4
     obtain ⟨σ2,j1,j2⟩:=iW.sound i1 i2
     refine wpIn_mono (rdwp_sound hΓ y d2 h2 hs.2 s2 a' w' σ2 K j1 j2 i4) fun e a2 w2 hq=>?_
     exact hq.map (fun hs=>i3.trans hs) (fun _ _ h=>h)
    case exit id =>
     split at hx
     ·rename_i hid
      cases hx
      show RK σ0 h0 w0 _ a K (.exit id) a' w'
      unfold RK
      simp only [exOfR,if_pos hid]
      exact ⟨σ',s',i1,i2,i3.left _,i4⟩
     ·cases hx
    case ret =>
     cases hx
     exact ⟨σ',s',i1,i2,i3.left _,i4⟩
    all_goals cases hx
   ·exact hq.elim
  ·cases hc
 | .cond c x y,d,hc,hs,s,a,w, σ,K,H,hT,hK=>by
  simp only [compC] at hc
  split at hc
  ·rename_i c' d1 d2 h0 h1 h2
   cases hc
   simp only [DC.simple,Bool.and_eq_true] at hs
   simp only [dwp] at hK
   obtain ⟨_,e2⟩:=ev_is hT h0
   split at hK
   ·rename_i q hq
    rw [hq] at e2
    have hv:=e2.eq (by simp)
    simp only [V.tr,S.tr] at hv
    refine wpIn_cond hv ?_
    cases q
    ·simp only [bcase,Bool.false_eq_true,if_false] at hK ⊢
     obtain ⟨s',hW,hK⟩:=hK
     obtain ⟨σ,H,hT⟩:=hW.sound H hT
     exact wpIn_mono (rdwp_sound hΓ y d2 h2 hs.2 s' a w σ K H hT hK) fun e a2 w2 hq=>hq.map (fun hs=>hs.right _) (fun _ _ h=>h)
    ·simp only [bcase,if_true] at hK ⊢
     obtain ⟨s',hW,hK⟩:=hK
     obtain ⟨σ,H,hT⟩:=hW.sound H hT
     exact wpIn_mono (rdwp_sound hΓ x d1 h1 hs.1 s' a w σ K H hT hK) fun e a2 w2 hq=>hq.map (fun hs=>hs.left _) (fun _ _ h=>h)
   ·exact hK.elim
  ·cases hc
 | .block id x,d,hc,hs,s,a,w, σ,K,H,hT,hK=>by
  simp only [compC] at hc
  split at hc
  rotate_left
  ·cases hc
  rename_i hid
  cases h1:compC P x with
  | none=>simp [h1] at hc
  | some d1 =>
   simp only [h1,Option.map_some,Option.some.injEq] at hc
   subst hc
   have hs:d1.simple=true:=hs
   simp only [dwp] at hK
   refine wpIn_block (wpIn_mono (rdwp_sound hΓ x d1 h1 hs s a w σ _ H hT hK) ?_)
   rintro e a' w' hq
   unfold RK at hq
   split at hq
   ·rename_i x' hx
    obtain ⟨σ',s',i1,i2,i3,i4⟩:=hq
    cases e<;>simp only [exOfR] at hx
    case normal=>cases hx; exact ⟨σ',s',i1,i2,i3,i4⟩
    case ret=>cases hx; exact ⟨σ',s',i1,i2,i3,i4⟩
    case exit j =>
     split at hx
     ·rename_i hj
      cases hx
      simp only [Exit.inBlock]
      by_cases hji:j=id
      ·simp only [hji,if_true] at i4 ⊢
       exact ⟨σ',s',i1,i2,i3,i4⟩
      ·simp only [hji,if_false] at i4 ⊢
       unfold RK
       simp only [exOfR,if_pos hj]
       exact ⟨σ',s',i1,i2,i3,i4⟩
     ·cases hx
    all_goals cases hx
   ·exact hq.elim
 | .exit id,d,hc,hs,s,a,w, σ,K,H,hT,hK=>by
  simp only [compC] at hc
  split at hc
  ·rename_i hlt
   cases hc
   refine wpIn_exit ?_
   unfold RK
   simp only [exOfR,if_pos hlt]
   exact ⟨σ,s,H,hT, .refl _ _,hK⟩
  ·cases hc
 | .label l,d,hc,hs,s,a,w, σ,K,H,hT,hK=>by
  simp only [compC,Option.some.injEq] at hc; subst hc
  exact wpIn_label ⟨σ,s,H,hT, .refl _ _,hK⟩
 | .goto l,d,hc,hs,_,_,_,_,_,_,_,_=>by
  simp only [compC,Option.some.injEq] at hc; subst hc
  simp only [DC.simple,decide_eq_true_eq] at hs
  unfold goId at hs
  omega
 | .loop x,d,hc,hs,_,_,_,_,_,_,_,_=>by
  simp only [compC] at hc
  cases h1:compC P x with
  | none=>simp [h1] at hc
  | some d1 =>
   simp only [h1,Option.map_some,Option.some.injEq] at hc
   subst hc
   simp [DC.simple] at hs
 | .scope x,d,hc,hs,s,a,w, σ,K,H,hT,hK=>by
  simp only [compC] at hc
  split at hc
  ·rename_i hl
   exact scopeIn_plain (fun l'=>findLabel_not (by rw [hl]; simp)) (rdwp_sound hΓ x d hc hs s a w σ K H hT hK)
  ·rename_i l hl
   split at hc
   ·cases hc; simp [DC.simple] at hs
   ·cases hc
  ·cases hc
 | .ret,d,hc,hs,s,a,w, σ,K,H,hT,hK=>by
  simp only [compC,Option.some.injEq] at hc; subst hc
  exact wpIn_ret ⟨σ,s,H,hT, .refl _ _,hK⟩
 | .rangeFunc ..,d,hc,hs,_,_,_,_,_,_,_,_=>by
  simp only [compC] at hc
  split at hc
  ·cases hc; simp [DC.simple] at hs
  ·cases hc
 | .refuse _,d,hc,_,_,_,_,_,_,_,_,_=>by simp [compC] at hc
end

/-! ### the record -/
def codeOf:Option Ex->Option Code
 | some .ret=>some .ret
 | some (.ext id)=>some (.exit id)
 | _=>none
def recAt (r:Loop) (p:Option Ex):Loop:={ r with state:=if p.isNone then .ready else .done,pending:=codeOf p }

theorem cell?_loop {w:World} {l:Nat} {r r':Loop} (hl:w.heap[l]?=some (.loop r)) (a:Addr):(w.putObj l (.loop r')).cell? a=w.cell? a/\(w.putObj l (.loop r')).frozen? a=w.frozen? a:=by
 by_cases e:a.block=l
 ·have h1:(w.putObj l (.loop r')).heap[a.block]?=some (.loop r'):=by rw [e]; exact World.putObj_heap_same (Array.getElem?_eq_some_iff.1 hl).1
  have h2:w.heap[a.block]?=some (.loop r):=by rw [e]; exact hl
  simp [World.cell?,World.frozen?,h1,h2]
 ·have h1:(w.putObj l (.loop r')).heap[a.block]?=w.heap[a.block]?:=World.putObj_heap_other e
  simp [World.cell?,World.frozen?,h1]
theorem Sim.putLoop {σ:Sg} {h ls:List Blk} {w:World} {l:Nat} {r r':Loop} (hl:w.heap[l]?=some (.loop r)) (H:Sim σ h ls w):Sim σ h ls (w.putObj l (.loop r')):=by
 have hc:=fun a=>cell?_loop (r':=r') hl a
 refine ⟨fun q B hb=>?_,H.sep,H.gval,H.lval⟩
 have:=H.ok q B hb
 unfold OkBlk Holds at *
 cases hst:B.st<;>rw [hst] at this
 ·simp only [World.putObj_size,fun a=>(hc a).1,fun a=>(hc a).2]
  exact this
 ·simp only [World.putObj_size,fun a=>(hc a).1]
  exact this
 ·trivial
section
variable {σ0:Sg} {h0:List Blk} {w0:Base} {σ:Sg} {h ls:List Blk} {w:World}
theorem Inv.putLoop {l:Nat} {r:Loop} (r':Loop) (hl:w.heap[l]?=some (.loop r)) (hp:¬ w0.pt l) (H:Inv σ0 h0 w0 σ h ls w):Inv σ0 h0 w0 σ h ls (w.putObj l (.loop r')):=by
 refine ⟨H.sim.putLoop hl,⟨⟨H.kept.same.os,H.kept.same.tape,H.kept.same.output,by rw [World.putObj_size]; exact H.kept.same.size⟩,fun b hb hno=>?_⟩,H.len,H.old,H.mine,H.new,H.live,H.gl⟩
 have hne:b≠l:=fun e=>hp (e ▸ hb)
 rw [World.putObj_heap_other hne]
 exact H.kept.keep b hb hno
end

theorem cell?_defd {w:World} {l:Nat} {r r':Option (List Deferred)} (hl:w.heap[l]?=some (.deferred r)) (a:Addr):(w.putObj l (.deferred r')).cell? a=w.cell? a/\(w.putObj l (.deferred r')).frozen? a=w.frozen? a:=by
 by_cases e:a.block=l
 ·have h1:(w.putObj l (.deferred r')).heap[a.block]?=some (.deferred r'):=by rw [e]; exact World.putObj_heap_same (Array.getElem?_eq_some_iff.1 hl).1
  have h2:w.heap[a.block]?=some (.deferred r):=by rw [e]; exact hl
  simp [World.cell?,World.frozen?,h1,h2]
 ·have h1:(w.putObj l (.deferred r')).heap[a.block]?=w.heap[a.block]?:=World.putObj_heap_other e
  simp [World.cell?,World.frozen?,h1]
theorem Inv.putDefd {σ0:Sg} {h0:List Blk} {w0:Base} {σ:Sg} {h ls:List Blk} {w:World} {l:Nat} {r:Option (List Deferred)} (r':Option (List Deferred)) (hl:w.heap[l]?=some (.deferred r)) (hp:¬ w0.pt l) (H:Inv σ0 h0 w0 σ h ls w):Inv σ0 h0 w0 σ h ls (w.putObj l (.deferred r')):=by
 have hc:=fun a=>cell?_defd (r':=r') hl a
 refine ⟨⟨fun q B hb=>?_,H.sim.sep,H.sim.gval,H.sim.lval⟩,⟨⟨H.kept.same.os,H.kept.same.tape,H.kept.same.output,by rw [World.putObj_size]; exact H.kept.same.size⟩,fun b hb hno=>?_⟩,H.len,H.old,H.mine,H.new,H.live,H.gl⟩
 ·have:=H.sim.ok q B hb
  unfold OkBlk Holds at *
  cases hst:B.st<;>rw [hst] at this
  ·simp only [World.putObj_size,fun a=>(hc a).1,fun a=>(hc a).2]
   exact this
  ·simp only [World.putObj_size,fun a=>(hc a).1]
   exact this
  ·trivial
 ·have hne:b≠l:=fun e=>hp (e ▸ hb)
  rw [World.putObj_heap_other hne]
  exact H.kept.keep b hb hno

theorem bindT_rel {σ:Sg} {n m:Nat}:∀ (ps:List Nat) (args:List V) (t:List V) (tm:Array Value),TRel σ t tm n m->args.all (V.val n m)=true ->
  TRel σ (bindT t ps args) ((ps.zip (args.map (V.tr σ))).foldl (fun t p=>t.setIfInBounds p.1 p.2) tm) n m
 | [],args,t,tm,hT,_=>by simpa [bindT] using hT
 | p::ps,[],t,tm,hT,_=>by simpa [bindT] using hT
 | p::ps,v::vs,t,tm,hT,hv=>by
  simp only [List.all_cons,Bool.and_eq_true] at hv
  have h1:TRel σ (t.set p v) (tm.setIfInBounds p (v.tr σ)) n m:=(TRel.put (a:={ tmps:=tm,defers:=[] }) hT (some p) hv.1 (Is.mk v))
  have:=bindT_rel ps vs _ _ h1 hv.2
  simpa [bindT] using this
theorem bindT_same:∀ (ps:List Nat) (vs:List Value) (tm:Array Value),((ps.zip vs).foldl (fun t p=>t.setIfInBounds p.1 p.2) tm).size=tm.size/\∀ i,i∉ps->((ps.zip vs).foldl (fun t p=>t.setIfInBounds p.1 p.2) tm)[i]?=tm[i]?
 | [],vs,tm=>⟨by simp,fun i _=>by simp⟩
 | p::ps,[],tm=>⟨by simp,fun i _=>by simp⟩
 | p::ps,v::vs,tm=>by
  obtain ⟨h1,h2⟩:=bindT_same ps vs (tm.setIfInBounds p v)
  refine ⟨by simpa using h1,fun i hi=>?_⟩
  simp only [List.mem_cons,not_or] at hi
  simp only [List.zip_cons_cons,List.foldl_cons]
  rw [h2 i hi.2]
  exact Array.getElem?_setIfInBounds_ne (Ne.symm hi.1)
theorem maskT_get:∀ (ds:List Nat) (t:List V),(maskT ds t).length=t.length/\∀ (i:Nat) (v:V),(maskT ds t)[i]?=some v->(v=.s .u/\i<t.length)\/(i∉ds/\t[i]?=some v)
 | [],t=>⟨rfl,fun i v h=>.inr ⟨by simp,h⟩⟩
 | d::ds,t=>by
  obtain ⟨h1,h2⟩:=maskT_get ds (t.set d (.s .u))
  refine ⟨by simpa [maskT] using h1,fun i v h=>?_⟩
  simp only [maskT] at h
  rcases h2 i v h with ⟨e,hl⟩|⟨hn,e⟩
  ·exact .inl ⟨e,by simpa using hl⟩
  ·by_cases hd:d=i
   ·subst hd
    have hl:=(List.getElem?_eq_some_iff.1 e).1
    rw [List.getElem?_set_self (by simpa using hl)] at e
    exact .inl ⟨(Option.some.inj e).symm,by simpa using hl⟩
   ·rw [List.getElem?_set_ne hd] at e
    exact .inr ⟨by simp only [List.mem_cons,not_or]; exact ⟨Ne.symm hd,hn⟩,e⟩
theorem maskT_rel {σ:Sg} {n m:Nat} {ds:List Nat} {t:List V} {tm tm0:Array Value} (hT:TRel σ t tm n m) (hs:tm.size=tm0.size) (ha:∀ i,i∉ds->tm[i]?=tm0[i]?):TRel σ (maskT ds t) tm0 n m:=by
 obtain ⟨h1,h2⟩:=maskT_get ds t
 refine ⟨h1.trans (hT.size.trans hs),fun i v hi=>?_⟩
 rcases h2 i v hi with ⟨rfl,hl⟩|⟨hn,e⟩
 ·exact ⟨rfl,_,Array.getElem?_eq_getElem (by rw [<-hs,<-hT.size]; exact hl), .inl rfl⟩
 ·obtain ⟨a1,x,a2,a3⟩:=hT.at_ i v e
  exact ⟨a1,x,(ha i hn).symm.trans a2,a3⟩

section
variable {P:Program} {Γ:FuncId->FSpec} {n:Nat} {l:Nat} {r:Loop} {σi0:Sg} {hi0:List Blk} {Bi:Base} {σu0:Sg} {hu0:List Blk} {Bu:Base}

def okP (p:Option Ex):Prop:=∀ id,p=some (.ext id)->id<1000000
def RSnd (P:Program) (n l:Nat) (r:Loop) (σi0:Sg) (hi0:List Blk) (Bi:Base) (σu0:Sg) (hu0:List Blk) (Bu:Base) (np:Nat) (R:Rnd):Prop :=
 ∀ (σi σu:Sg) (lsi:List Blk) (u:U) (h:List Blk) (w:World) (args:List V) (K:Option Ex->U->List Blk->Prop),Two l σi0 hi0 Bi σu0 hu0 Bu σi lsi σu u.2 h w->TRel σu u.1 r.tmps h.length u.2.length->allRw u.2=true->allRw lsi=true ->
  w.heap[l]?=some (.loop (recAt r none))->args.length=np->args.all (V.val h.length 0)=true->R args u h K ->
  ∃ tm,(Instr.yield l (args.map (V.tr σi)).toArray).run P w=.ok (.round l r.fn tm r.assign r.body) w/\RoundIn Fence.wide n P l r.fn tm r.assign r.body w fun e w' =>
   ∃ (p:Option Ex) (u':U) (h':List Blk) (σu':Sg),e=.returned (.bool p.isNone)/\Two l σi0 hi0 Bi σu0 hu0 Bu (mix σi σu') lsi σu' u'.2 h' w'/\TRel σu' u'.1 r.tmps h'.length u'.2.length/\allRw u'.2=true /\
    w'.heap[l]?=some (.loop (recAt r p))/\(∀ k,k<h.length->σu' (.g k)=σi (.g k))/\h.length<=h'.length/\okP p/\K p u' h'

def rndOf (Γ:FuncId->FSpec) (ps:List Nat) (asg body:DC):Rnd:=fun args u h R=>∃ s0,Wk h.length ⟨bindT u.1 ps args,u.2,h⟩ s0/\dwp Γ h.length asg s0 fun e s=>match e with
 | .nrm=>∃ s',Wk s.h.length s s'/\dwp Γ s.h.length body s' fun e s3=>∃ s4,Wk s.h.length s3 s4/\ob (allRw s4.ls=true) (R (stopOf e) (maskT (ps++(asg.dsts++body.dsts)) s4.t,s4.ls) s4.h)
 | _=>False

theorem rnd_sound (hΓ:SndΓ P Γ) {da db:DC} (hst:r.state=.ready) (hpe:r.pending=none) (hca:compC P r.assign=some da) (hcb:compC P r.body=some db) (hsa:da.simple=true) (hsb:db.simple=true) :
  RSnd P n l r σi0 hi0 Bi σu0 hu0 Bu r.params.toList.length (rndOf Γ r.params.toList da db):=by
 intro σi σu lsi u h w args K T hT hru hri hl hlen hav hR
 have hrec:recAt r none=r:=by cases r; simp only at hst hpe; subst hst; subst hpe; rfl
 have hls:l<w.heap.size:=T.lt
 -- yield
 have hy:=run_yield (P:=P) (args:=(args.map (V.tr σi)).toArray) hl (by rw [hrec]; simp [hlen])
 rw [hrec] at hy hl
 refine ⟨_,hy,roundIn_of_wpIn trivial ?_⟩
 have hargs:args.map (V.tr σi)=args.map (V.tr σu):=by
  simp only [List.all_eq_true] at hav
  refine List.map_congr_left fun v hv=>(V.tr_congr (n:=h.length) (m:=0) (fun q hq=>?_) v (hav v hv))
  cases q with
  | g k=>exact T.ag k (by simpa [R.val] using hq)
  | l k=>simp [R.val] at hq
 have htm:(r.params.zip (args.map (V.tr σi)).toArray).foldl (fun tmps (t,a)=>tmps.setIfInBounds t a) r.tmps=(r.params.toList.zip (args.map (V.tr σu))).foldl (fun t p=>t.setIfInBounds p.1 p.2) r.tmps:=by
  rw [<-hargs,<-Array.foldl_toList,Array.toList_zip]
 rw [htm]
 have hT0:=bindT_rel r.params.toList args u.1 r.tmps hT (by
  simp only [List.all_eq_true] at hav ⊢
  exact fun v hv=>V.val_mono (Nat.le_refl _) (Nat.zero_le _) (hav v hv))
 obtain ⟨hs0,hs1⟩:=bindT_same r.params.toList (args.map (V.tr σu)) r.tmps
 generalize hg:(r.params.toList.zip (args.map (V.tr σu))).foldl (fun t p=>t.setIfInBounds p.1 p.2) r.tmps=tm at *
 have hpl:(actB σu u.2 w).pt l:=⟨hls,fun j X hj hX=>T.nb (.l j) X hj hX⟩
 have hng:∀ k B,h[k]?=some B->B.st=.rw->(σu (.g k)).1≠l:=fun k B hk hB=>T.nb (.g k) B hk hB
 have hpu:¬ (actL l σu u.2 w).pt l:=fun hb=>hb.1.2 rfl
 -- the assignments
 obtain ⟨s0,W0,hR⟩:=hR
 obtain ⟨σ0',HA,hTA⟩:=W0.sound T.B.act hT0
 refine wpIn_mono (rdwp_sound (ro:=some l) hΓ r.assign da hca hsa _ { tmps:=tm,defers:=[] } w σ0' _ HA hTA hR) ?_
 rintro e a1 w1 hq
 unfold RK at hq
 cases e with
 | normal =>
  simp only [exOfR] at hq
  obtain ⟨σ1,s1,i1,i2,i3,s2,iW,i4⟩:=hq
  have hl1:w1.heap[l]?=some (.loop r):=(i1.at_act hpl hng).trans hl
  have hn1:=i1.noAt_act hpl hng
  refine ⟨_,run_beginRound hl1 hst, ?_⟩
  have hl2:(w1.putObj l (.loop { r with state:=.busy })).heap[l]?=some (.loop { r with state:=.busy }):=World.putObj_heap_same (Array.getElem?_eq_some_iff.1 hl1).1
  obtain ⟨w2,hw2⟩:∃ w2,w1.putObj l (.loop { r with state:=.busy })=w2:=⟨_,rfl⟩
  rw [hw2] at hl2 ⊢
  -- the base without the record
  have k1:Inv σu h (actL l σu u.2 w) σ1 s1.h s1.ls w2:=by
   rw [<-hw2]
   refine (i1.less (B2:=actL l σu u.2 w) rfl (fun b hb=>⟨hb.1.1,hb.2⟩) (fun x hx=>?_)).putLoop _ hl1 hpu
   have:=T.B.cells_act x hx
   exact ⟨⟨this.1,T.cl x hx⟩,this.2⟩
  have hp2:(actB σ1 s1.ls w2).pt l:=⟨(Array.getElem?_eq_some_iff.1 hl2).1,fun j X hj hX=>hn1 (.l j) X hj hX⟩
  have hng2:∀ k B,s1.h[k]?=some B->B.st=.rw->(σ1 (.g k)).1≠l:=fun k B hk hB=>hn1 (.g k) B hk hB
  -- the body
  obtain ⟨σ2,j1,j2⟩:=iW.sound k1.act i2
  refine wpIn_mono (rdwp_sound (ro:=some l) hΓ r.body db hcb hsb s2 a1 w2 σ2 _ j1 j2 i4) ?_
  have fin:∀ (x:Ex) (jump:Option Code) (a3:Act) (w3:World) (σ3:Sg) (s3:St),Inv σ1 s1.h (actB σ1 s1.ls w2) σ3 s3.h s3.ls w3->TRel σ3 s3.t a3.tmps s3.h.length s3.ls.length->SameT db.dsts a1 a3 ->
    (∃ s4,Wk s1.h.length s3 s4/\ob (allRw s4.ls=true) (K (stopOf x) (maskT (r.params.toList++(da.dsts++db.dsts)) s4.t,s4.ls) s4.h))->jump.isNone=(stopOf x).isNone->jump=codeOf (stopOf x)->okP (stopOf x) ->
    ∃ v w',(Instr.endRound l jump).run P w3=.ok v w'/\∃ (p:Option Ex) (u':U) (h':List Blk) (σu':Sg),Ending.returned v=.returned (.bool p.isNone)/\Two l σi0 hi0 Bi σu0 hu0 Bu (mix σi σu') lsi σu' u'.2 h' w'/\TRel σu' u'.1 r.tmps h'.length u'.2.length/\allRw u'.2=true /\
     w'.heap[l]?=some (.loop (recAt r p))/\(∀ k,k<h.length->σu' (.g k)=σi (.g k))/\h.length<=h'.length/\okP p/\K p u' h':=by
   rintro x jump a3 w3 σ3 s3 m1 m2 m3 ⟨s4,W4,m4,m5⟩ hj1 hj2 hj3
   obtain ⟨σ3,m1,m2⟩:=W4.sound m1 m2
   have hl3:w3.heap[l]?=some (.loop { r with state:=.busy }):=(m1.at_act hp2 hng2).trans hl2
   refine ⟨_,_,run_endRound jump hl3,stopOf x,(maskT (r.params.toList++(da.dsts++db.dsts)) s4.t,s4.ls),s4.h, σ3,by rw [hj1], ?_, ?_,m4, ?_, ?_, ?_,hj3,m5⟩
   ·have q1:Inv σu h (actL l σu u.2 w) σ3 s4.h s4.ls w3:=k1.next rfl (fun b hb=>k1.act_pt hb) m1
    have q2:=q1.putLoop { r with state:=if jump.isNone then .ready else .done,pending:=jump } hl3 hpu
    exact (T.symm.step hri (m1.noAt_act hp2 hng2) q2).symm
   ·refine maskT_rel m2 ((m3.size.trans i3.size).trans hs0) fun i hi=>?_
    simp only [List.mem_append,not_or] at hi
    exact (m3.at_ i hi.2.2).trans ((i3.at_ i hi.2.1).trans (hs1 i hi.1))
   ·rw [World.putObj_heap_same (Array.getElem?_eq_some_iff.1 hl3).1,hj1,hj2]; rfl
   ·intro k hk
    have a1:k<s1.h.length:=Nat.lt_of_lt_of_le hk i1.len
    rw [m1.old k a1,i1.old k hk,T.ag k hk]
   ·exact Nat.le_trans i1.len m1.len
  rintro e a3 w3 hq
  unfold RK at hq
  cases e with
  | normal =>
   simp only [exOfR] at hq
   obtain ⟨σ3,s3,m1,m2,m3,m4⟩:=hq
   exact fin .nrm none a3 w3 σ3 s3 m1 m2 m3 m4 rfl rfl (fun id e=>by cases e)
  | ret =>
   simp only [exOfR] at hq
   obtain ⟨σ3,s3,m1,m2,m3,m4⟩:=hq
   exact fin .ret (some .ret) a3 w3 σ3 s3 m1 m2 m3 m4 rfl rfl (fun id e=>by cases e)
  | exit id =>
   simp only [exOfR] at hq
   split at hq
   ·rename_i x hx
    split at hx
    ·rename_i hid
     cases hx
     obtain ⟨σ3,s3,m1,m2,m3,m4⟩:=hq
     exact fin (.ext id) (some (.exit id)) a3 w3 σ3 s3 m1 m2 m3 m4 rfl rfl (fun j e=>by cases e; exact hid)
    ·cases hx
   ·exact hq.elim
  | goto t=>simp [exOfR] at hq
  | panic c=>simp [exOfR] at hq
  | outgrown=>simp [exOfR] at hq
 | exit id =>
  simp only [exOfR] at hq
  split at hq
  ·rename_i x hx
   split at hx
   ·cases hx; obtain ⟨_,_,_,_,_,hf⟩:=hq; exact hf.elim
   ·cases hx
  ·exact hq.elim
 | ret=>simp only [exOfR] at hq; obtain ⟨_,_,_,_,_,hf⟩:=hq; exact hf.elim
 | goto t=>simp [exOfR] at hq
 | panic c=>simp [exOfR] at hq
 | outgrown=>simp [exOfR] at hq
end

/-! ### iterators -/
theorem callv_inv {P:Program} {o:Oper} {f:Opd} {ys:List Opd} (h:compI P o=some (.callv f ys)):∃ c i,o.op=.call c/\c.callee=.value (.tmp i)/\f=.t i/\compXs c.args.toList=some ys:=by
 unfold compI at h
 cases ho:o.op<;>simp only [ho] at h
 case call c =>
  cases hc:c.callee<;>simp only [hc] at h
  case value x =>
   cases x<;>simp only at h
   case tmp i =>
    cases hx:compXs c.args.toList with
    | none=>simp [hx] at h
    | some l =>
     simp only [hx,Option.map_some,Option.some.injEq,I.callv.injEq] at h
     obtain ⟨rfl,rfl⟩:=h
     exact ⟨c,i,rfl,hc,rfl,hx⟩
   all_goals (repeat' split at h)<;>simp_all
  all_goals (repeat' split at h)<;>simp_all
 all_goals (repeat' split at h)<;>simp_all

section
variable {P:Program} {Γ:FuncId->FSpec} {n:Nat} {l:Nat} {r:Loop} {σi0:Sg} {hi0:List Blk} {Bi:Base} {σu0:Sg} {hu0:List Blk} {Bu:Base} {np:Nat} {R:Rnd}

structure YS (l:Nat) (r:Loop) (σi0:Sg) (hi0:List Blk) (Bi:Base) (σu0:Sg) (hu0:List Blk) (Bu:Base) (σi σu:Sg) (t:List V) (ls h:List Blk) (u:U) (p:Option Ex) (tm:Array Value) (w:World):Prop where
 two:Two l σi0 hi0 Bi σu0 hu0 Bu σi ls σu u.2 h w
 ti:TRel σi t tm h.length ls.length
 tu:TRel σu u.1 r.tmps h.length u.2.length
 ru:allRw u.2=true
 rc:w.heap[l]?=some (.loop (recAt r p))
 po:okP p

theorem YS.piece {σi σu:Sg} {t:List V} {ls h:List Blk} {u:U} {p:Option Ex} {tm:Array Value} {w:World} (Y:YS l r σi0 hi0 Bi σu0 hu0 Bu σi σu t ls h u p tm w)
  {σ':Sg} {t':List V} {ls' h':List Blk} {tm':Array Value} {w':World} (H1:Inv σi h (actB σi ls w) σ' h' ls' w') (hT:TRel σ' t' tm' h'.length ls'.length):YS l r σi0 hi0 Bi σu0 hu0 Bu σ' (mix σu σ') t' ls' h' u p tm' w':=by
 have hpl:(actB σi ls w).pt l:=⟨Y.two.lt,fun j X hj hX=>Y.two.na (.l j) X hj hX⟩
 have hng:∀ k B,h[k]?=some B->B.st=.rw->(σi (.g k)).1≠l:=fun k B hk hB=>Y.two.na (.g k) B hk hB
 have H2:Inv σi h (actL l σi ls w) σ' h' ls' w':=H1.less rfl (fun b hb=>⟨hb.1.1,hb.2⟩) (fun x hx=>by
  have:=Y.two.A.cells_act x hx
  exact ⟨⟨this.1,Y.two.cl x hx⟩,this.2⟩)
 refine ⟨Y.two.step Y.ru (H1.noAt_act hpl hng) H2,hT,Y.tu.mono (mix_agree (H1.reb Y.two.ag) _) H1.len (Nat.le_refl _),Y.ru,(H1.at_act hpl hng).trans Y.rc,Y.po⟩
theorem YS.put {σi σu:Sg} {t:List V} {ls h:List Blk} {u:U} {p:Option Ex} {a:Act} {w:World} (Y:YS l r σi0 hi0 Bi σu0 hu0 Bu σi σu t ls h u p a.tmps w) (d:Option Nat) {v:V} {x:Value} (hv:v.val h.length ls.length=true) (hx:Is σi v x) :
  YS l r σi0 hi0 Bi σu0 hu0 Bu σi σu (putD t d v) ls h u p (a.put d x).tmps w:=⟨Y.two,Y.ti.put d hv hx,Y.tu,Y.ru,Y.rc,Y.po⟩
theorem YS.wk {σi σu:Sg} {s s':St} {u:U} {p:Option Ex} {tm:Array Value} {w:World} (Y:YS l r σi0 hi0 Bi σu0 hu0 Bu σi σu s.t s.ls s.h u p tm w) (W:Wk s.h.length s s') :
  ∃ σi' σu',YS l r σi0 hi0 Bi σu0 hu0 Bu σi' σu' s'.t s'.ls s'.h u p tm w:=by
 obtain ⟨σ',H,hT⟩:=W.sound Y.two.A.act Y.ti
 exact ⟨_,_,Y.piece H hT⟩

theorem yieldOf_some {x:GI} {t args:List V} {l':Nat} (h:yieldOf x t=some (l',args)):∃ f ys,x.op=.callv f ys/\x.g=none/\ev t f=.s (.yl l')/\args=ys.map (ev t):=by
 unfold yieldOf at h
 split at h
 ·rename_i f ys ho hg
  split at h
  ·rename_i l2 he
   cases h
   exact ⟨f,ys,ho,hg,he,rfl⟩
  ·cases h
 ·cases h

theorem ywp_sound (hΓ:SndΓ P Γ) (hR:RSnd P n l r σi0 hi0 Bi σu0 hu0 Bu np R) {ops:Array Oper}:∀ (os:List Oper) (gl:List GI),compGs P ops os=some gl->∀ (σi σu:Sg) (t:List V) (a:Act) (ls h:List Blk) (u:U) (p:Option Ex) (w:World) (K:List V->List Blk->List Blk->U->Option Ex->Prop) (Q:Exit->Act->World->Prop),
  YS l r σi0 hi0 Bi σu0 hu0 Bu σi σu t ls h u p a.tmps w->ywp Γ l np R gl t ls h u p K ->
  (∀ σi' σu' t' ls' h' u' p' w' a',YS l r σi0 hi0 Bi σu0 hu0 Bu σi' σu' t' ls' h' u' p' a'.tmps w'->a'.defers=a.defers->K t' ls' h' u' p'->Q .normal a' w') ->
  wpListIn Fence.wide (n+1) P ops Q os a w
 | [],gl,hc, σi, σu,t,a,ls,h,u,p,w,K,Q,Y,hK,hn=>by
  simp only [compGs,Option.some.injEq] at hc
  subst hc
  exact hn σi σu t ls h u p w a Y rfl hK
 | o::os,gl,hc, σi, σu,t,a,ls,h,u,p,w,K,Q,Y,hK,hn=>by
  obtain ⟨g,gl',rfl,hg,hl⟩:=compGs_cons hc
  obtain ⟨hi,hdst,hgd⟩:=compG_spec hg
  simp only [ywp] at hK
  have hab:∀ f,o.about P w a.eval=some f->Fence.wide.fn f:=fun f _=>trivial
  split at hK
  ·rename_i l' args hy
   obtain ⟨⟨hl',rfl,hlen,hkn,hno,hrw⟩,hK⟩:=hK
   obtain ⟨f,ys,e1,e2,e3,rfl⟩:=yieldOf_some hy
   rw [hl'] at e3
   rw [e1] at hi
   obtain ⟨c,i,ho,hc2,rfl,hx⟩:=callv_inv hi
   have hgn:o.guard=none:=by
    rcases hgd with ⟨h1,_⟩|⟨j,want,oj,d,_,_,_,h4⟩
    ·exact h1
    ·rw [e2] at h4; cases h4
   obtain ⟨v1,v2⟩:=args_is Y.ti hx hkn
   have hav:(ys.map (ev t)).all (V.val h.length 0)=true:=by
    simp only [List.all_eq_true] at v2 hno ⊢
    exact fun x hx=>V.val_noL (v2 x hx) (hno x hx)
   obtain ⟨tm,hyr,hround⟩:=hR σi σu ls u h w _ _ Y.two Y.tu Y.ru hrw Y.rc hlen hav hK
   have hev:a.eval (.tmp i)=.func (.yield l) #[] #[]:=by
    have:=(ev_is (x:=.tmp i) (y:=.t i) Y.ti rfl).2
    rw [e3] at this
    exact this.eq (by simp)
   have hargs:c.args.map a.eval=((ys.map (ev t)).map (V.tr σi)).toArray:=by
    rw [<-v1,<-Array.toList_map,Array.toArray_toList]
   unfold wpListIn
   rw [if_pos (by simp [Region.wanted,hgn])]
   refine ⟨hab, ?_⟩
   have hrun:(o.semAt Fence.wide.round a.eval).run P w=.ok (.round l r.fn tm r.assign r.body) w:=by
    rw [Oper.semAt_eq _ _ _ (compI_no_defer hi)]
    generalize ((ys.map (ev t)).map (V.tr σi)).toArray=vs at hargs hyr
    simp [execOp,ho,resolve,hc2,hev,Deferred.ofValue,invoke,hargs,hyr]
   rw [hrun,Oper.uponIn_round]
   refine ⟨fun hd=>by simp [Fence.wide] at hd,hround.mono ?_⟩
   rintro e w' ⟨p',u',h', σu',rfl,T',hT',hru',hrc',hag,hlen',hpo,hK'⟩
   have hA:Agree h.length ls.length σi (mix σi σu'):=by
    intro q hq
    cases q with
    | g k=>exact hag k (by simpa [Go.D.R.val] using hq)
    | l k=>rfl
   rw [hdst] at hK'
   have Y':YS l r σi0 hi0 Bi σu0 hu0 Bu (mix σi σu') σu' t ls h' u' p' a.tmps w':=⟨T',Y.ti.mono hA hlen' (Nat.le_refl _),hT',hru',hrc',hpo⟩
   exact ywp_sound hΓ hR os gl' hl _ _ _ _ ls h' u' p' w' K Q (Y'.put o.dst (v:=.s (.b p'.isNone)) rfl (Is.mk _)) hK' (fun σi2 σu2 t2 ls2 h2 u2 p2 w2 a2 i1 i2 i3=>hn σi2 σu2 t2 ls2 h2 u2 p2 w2 a2 i1 (by rw [i2,put_defers]) i3)
  ·have hdo:iwp Γ g.op t ls h (fun t v ls h=>ywp Γ l np R gl' (putD t g.dst v) ls h u p K)->o.wpIn Fence.wide (n+1) P a w (wpListIn Fence.wide (n+1) P ops Q os) Q:=fun hK=>by
    refine wpIn_of_wp (ro:=none) (compI_no_defer hi) (acts_all hΓ hi σi h (actB σi ls w) σi t a ls h w _ _ Q Y.two.A.act Y.ti hK (fun σ' t' v x ls' h' w' H' hT' hv hx hK'=>?_))
    rw [hdst] at hK'
    exact ywp_sound hΓ hR os gl' hl _ _ _ _ ls' h' u p w' K Q ((Y.piece H' hT').put o.dst hv hx) hK' (fun σi2 σu2 t2 ls2 h2 u2 p2 w2 a2 i1 i2 i3=>hn σi2 σu2 t2 ls2 h2 u2 p2 w2 a2 i1 (by rw [i2,put_defers]) i3)
   have hskip:ywp Γ l np R gl' (putD t g.dst (.tup [])) ls h u p K->wpListIn Fence.wide (n+1) P ops Q os (a.put o.dst undef) w:=fun hK=>by
    rw [hdst] at hK
    exact ywp_sound hΓ hR os gl' hl _ _ _ _ ls h u p w K Q (Y.put o.dst rfl (.inr rfl)) hK (fun σi2 σu2 t2 ls2 h2 u2 p2 w2 a2 i1 i2 i3=>hn σi2 σu2 t2 ls2 h2 u2 p2 w2 a2 i1 (by rw [i2,put_defers]) i3)
   unfold wpListIn
   unfold gwp at hK
   rcases hgd with ⟨h1,h2⟩|⟨j,want,oj,d,h1,h2,h3,h4⟩
   ·rw [h2] at hK
    rw [if_pos (by simp [Region.wanted,h1])]
    exact hdo hK
   ·rw [h4] at hK
    simp only at hK
    obtain ⟨g1,g2⟩:=guard_wanted Y.ti h1 h2 h3
    split at hK
    ·rename_i q hq
     rw [g1 q hq]
     cases q
     ·simp only [bcase] at hK
      rw [set_getD hq (by simp)] at hK
      split at hK
      ·rename_i hw; rw [if_pos hw]; exact hdo hK
      ·rename_i hw; rw [if_neg hw]; exact ⟨hab,hskip hK⟩
     ·simp only [bcase] at hK
      rw [set_getD hq (by simp)] at hK
      split at hK
      ·rename_i hw; rw [if_pos hw]; exact hdo hK
      ·rename_i hw; rw [if_neg hw]; exact ⟨hab,hskip hK⟩
    ·rename_i hq
     rw [g2 hq,if_neg (by simp)]
     exact ⟨hab,hskip hK⟩
    ·exact hK.elim
def YK (l:Nat) (r:Loop) (σi0:Sg) (hi0:List Blk) (Bi:Base) (σu0:Sg) (hu0:List Blk) (Bu:Base) (K:Ex->St->U->Option Ex->Prop):Exit->Act->World->Prop:=fun e a w =>
 match exOfR e with
 | some x=>∃ (σi σu:Sg) (s:St) (u:U) (p:Option Ex),YS l r σi0 hi0 Bi σu0 hu0 Bu σi σu s.t s.ls s.h u p a.tmps w/\a.defers=[]/\K x s u p
 | none=>False
def LoopAtW (P:Program) (c:Code) (Q:Exit->Act->World->Prop) (a:Act) (w:World):Prop :=
 ∀ (b:Frame) (k:List Item) (cs:List Frame),b.roundOf=none->∃ e a' w',Q e a' w'/\ArrivesIn (Machine.fenced P Fence.wide) P (lone (b.atR a (.code c::.inLoop c::k)) cs w) b k cs e a' w'
theorem fcalm {fr:Frame} {cs:List Frame} {w:World} (ha:fr.about P w=none):(lone fr cs w).fenced P Fence.wide:=fenced_calm (n:=0) trivial (room_wide _) ha
theorem loopW_of_at {c:Code} {Q:Exit->Act->World->Prop} {a:Act} {w:World} (h:LoopAtW P c Q a w):(Code.loop c).wpIn Fence.wide n P Q a w:=fun b k cs hro _ _=>by
 obtain ⟨e,a',w',hq,harr⟩:=h b k cs hro
 exact ⟨e,a',w',hq, .of_steps (.one (fcalm rfl) stepR_loop) harr⟩
theorem atW_of_round {c:Code} {Q:Exit->Act->World->Prop} {a:Act} {w:World} (h:c.wpIn Fence.wide n P (Exit.then (LoopAtW P c Q) Q) a w):LoopAtW P c Q a w:=fun b k cs hro=>by
 obtain ⟨e,a₁,w₁,hq,harr⟩:=h b (.inLoop c::k) cs hro trivial (room_wide _)
 cases e with
 | normal =>
  obtain ⟨e₂,a₂,w₂,hq₂,harr₂⟩:=hq b k cs hro
  exact ⟨e₂,a₂,w₂,hq₂, .of_steps (StepsIn.trans harr (.one (fcalm rfl) stepR_inLoop)) harr₂⟩
 | exit id=>exact ⟨_,a₁,w₁,hq, .pass (x:=.inLoop c) rfl (fun _ _=>.inl (by simp)) harr⟩
 | goto l=>exact ⟨_,a₁,w₁,hq, .pass (x:=.inLoop c) rfl (fun _ _=>.inl (by simp)) harr⟩
 | ret=>exact ⟨_,a₁,w₁,hq, .pass (x:=.inLoop c) rfl (fun _ _=>.inl (by simp)) harr⟩
 | panic ch=>exact ⟨_,a₁,w₁,hq, .pass (x:=.inLoop c) rfl (fun _ _=>.inl (by simp)) harr⟩
 | outgrown=>exact ⟨_,a₁,w₁,hq, .pass (x:=.inLoop c) rfl (fun _ _=>.inl (by simp)) harr⟩

theorem ydwp_sound (hΓ:SndΓ P Γ) (hR:RSnd P n l r σi0 hi0 Bi σu0 hu0 Bu np R):∀ (c:Code) (d:DC),compC P c=some d->∀ (s:St) (u:U) (p:Option Ex) (a:Act) (w:World) (σi σu:Sg) (K:Ex->St->U->Option Ex->Prop),
  YS l r σi0 hi0 Bi σu0 hu0 Bu σi σu s.t s.ls s.h u p a.tmps w->a.defers=[]->ydwp Γ l np R d s u p K->c.wpIn Fence.wide (n+1) P (YK l r σi0 hi0 Bi σu0 hu0 Bu K) a w
 | .skip,d,hc,s,u,p,a,w, σi, σu,K,Y,hd,hK=>by
  simp only [compC,Option.some.injEq] at hc; subst hc
  exact wpIn_skip ⟨σi, σu,s,u,p,Y,hd,hK⟩
 | .region id ops false,d,hc,s,u,p,a,w, σi, σu,K,Y,hd,hK=>by
  simp only [compC] at hc
  cases hg:compGs P ops ops.toList with
  | none=>simp [hg] at hc
  | some gl =>
   simp only [hg,Option.map_some,Option.some.injEq] at hc
   subst hc
   simp only [ydwp] at hK
   exact wpIn_region_list (ywp_sound hΓ hR ops.toList gl hg σi σu s.t a s.ls s.h u p w _ _ Y hK (fun σi' σu' t' ls' h' u' p' w' a' i1 i2 i3=>⟨σi', σu',⟨t',ls',h'⟩,u',p',i1,by rw [i2,hd],i3⟩))
 | .region id ops true,d,hc,s,u,p,a,w, σi, σu,K,Y,hd,hK=>by
  exfalso
  simp only [compC] at hc
  cases hg:compGs P ops ops.toList with
  | none=>simp [hg] at hc
  | some gl =>
   simp only [hg] at hc
   have hne:∀ l,d≠.reg l:=fun l e=>by have:=compDr_simple hc; rw [e] at this; cases this
   unfold compDr at hc
   (repeat' split at hc)
   all_goals first|(cases hc; done)|(cases hc; simp only [ydwp] at hK; done)
 | .seq x y,d,hc,s,u,p,a,w, σi, σu,K,Y,hd,hK=>by
  simp only [compC] at hc
  split at hc
  ·rename_i d1 d2 h1 h2
   cases hc
   simp only [ydwp] at hK
   refine wpIn_seq (wpIn_mono (ydwp_sound hΓ hR x d1 h1 s u p a w σi σu _ Y hd hK) ?_)
   rintro e a' w' hq
   cases e with
   | normal =>
    unfold YK at hq
    simp only [exOfR] at hq
    obtain ⟨σi', σu',s',u',p',Y',i2,s2,iW,i4⟩:=hq
    obtain ⟨σ2, σ3,Y2⟩:=Y'.wk iW
    exact ydwp_sound hΓ hR y d2 h2 s2 u' p' a' w' σ2 σ3 K Y2 i2 i4
   | ret=>exact hq
   | exit id =>
    show YK l r σi0 hi0 Bi σu0 hu0 Bu K (.exit id) a' w'
    unfold YK at hq ⊢
    by_cases hid:id<1000000
    ·simp only [exOfR,if_pos hid] at hq ⊢; exact hq
    ·simp only [exOfR,if_neg hid] at hq
   | goto t=>simp [YK,exOfR] at hq
   | panic c=>simp [YK,exOfR] at hq
   | outgrown=>simp [YK,exOfR] at hq
  ·cases hc
 | .cond c x y,d,hc,s,u,p,a,w, σi, σu,K,Y,hd,hK=>by
  simp only [compC] at hc
  split at hc
  ·rename_i c' d1 d2 h0 h1 h2
   cases hc
   simp only [ydwp] at hK
   obtain ⟨_,e2⟩:=ev_is Y.ti h0
   split at hK
   ·rename_i q hq
    rw [hq] at e2
    have hv:=e2.eq (by simp)
    simp only [V.tr,S.tr] at hv
    refine wpIn_cond hv ?_
    cases q
    ·simp only [bcase,Bool.false_eq_true,if_false] at hK ⊢
     obtain ⟨s',hW,hK⟩:=hK
     obtain ⟨σ2, σ3,Y2⟩:=Y.wk hW
     exact ydwp_sound hΓ hR y d2 h2 s' u p a w σ2 σ3 K Y2 hd hK
    ·simp only [bcase,if_true] at hK ⊢
     obtain ⟨s',hW,hK⟩:=hK
     obtain ⟨σ2, σ3,Y2⟩:=Y.wk hW
     exact ydwp_sound hΓ hR x d1 h1 s' u p a w σ2 σ3 K Y2 hd hK
   ·exact hK.elim
  ·cases hc
 | .block id x,d,hc,s,u,p,a,w, σi, σu,K,Y,hd,hK=>by
  simp only [compC] at hc
  split at hc
  rotate_left
  ·cases hc
  rename_i hid
  cases h1:compC P x with
  | none=>simp [h1] at hc
  | some d1 =>
   simp only [h1,Option.map_some,Option.some.injEq] at hc
   subst hc
   simp only [ydwp] at hK
   refine wpIn_block (wpIn_mono (ydwp_sound hΓ hR x d1 h1 s u p a w σi σu _ Y hd hK.2) ?_)
   rintro e a' w' hq
   cases e with
   | normal=>exact hq
   | ret=>exact hq
   | exit j =>
    simp only [Exit.inBlock]
    unfold YK at hq ⊢
    by_cases hj:j<1000000
    ·simp only [exOfR,if_pos hj] at hq
     by_cases hji:j=id
     ·simp only [hji,if_true,exOfR] at hq ⊢; exact hq
     ·simp only [hji,if_false,exOfR,if_pos hj] at hq ⊢; exact hq
    ·simp only [exOfR,if_neg hj] at hq
   | goto t=>simp [YK,exOfR] at hq
   | panic c=>simp [YK,exOfR] at hq
   | outgrown=>simp [YK,exOfR] at hq
 | .loop x,d,hc,s,u,p,a,w, σi, σu,K,Y,hd,hK=>by
  simp only [compC] at hc
  cases h1:compC P x with
  | none=>simp [h1] at hc
  | some d1 =>
   simp only [h1,Option.map_some,Option.some.injEq] at hc
   subst hc
   simp only [ydwp] at hK
   refine loopW_of_at ?_
   refine hK (fun s u p=>∀ (a:Act) (w:World) (σi σu:Sg),YS l r σi0 hi0 Bi σu0 hu0 Bu σi σu s.t s.ls s.h u p a.tmps w->a.defers=[]->LoopAtW P x (YK l r σi0 hi0 Bi σu0 hu0 Bu K) a w) ?_ a w σi σu Y hd
   intro s u p hs a w σi σu Y hd
   obtain ⟨s2,hW,hs⟩:=hs
   obtain ⟨σ2, σ3,Y2⟩:=Y.wk hW
   refine atW_of_round (wpIn_mono (ydwp_sound hΓ hR x d1 h1 s2 u p a w σ2 σ3 _ Y2 hd hs) ?_)
   rintro e a' w' hq
   cases e with
   | normal =>
    unfold YK at hq
    simp only [exOfR] at hq
    obtain ⟨σi', σu',s',u',p',Y',i2,i4⟩:=hq
    exact i4 a' w' σi' σu' Y' i2
   | ret=>exact hq
   | exit id =>
    show YK l r σi0 hi0 Bi σu0 hu0 Bu K (.exit id) a' w'
    unfold YK at hq ⊢
    by_cases hid:id<1000000
    ·simp only [exOfR,if_pos hid] at hq ⊢; exact hq
    ·simp only [exOfR,if_neg hid] at hq
   | goto t=>simp [YK,exOfR] at hq
   | panic c=>simp [YK,exOfR] at hq
   | outgrown=>simp [YK,exOfR] at hq
 | .exit id,d,hc,s,u,p,a,w, σi, σu,K,Y,hd,hK=>by
  simp only [compC] at hc
  split at hc
  ·rename_i hlt
   cases hc
   refine wpIn_exit ?_
   unfold YK
   simp only [exOfR,if_pos hlt]
   exact ⟨σi, σu,s,u,p,Y,hd,hK.2⟩
  ·cases hc
 | .label _,d,hc,s,u,p,a,w, σi, σu,K,Y,hd,hK=>by
  simp only [compC,Option.some.injEq] at hc; subst hc
  exact wpIn_label ⟨σi, σu,s,u,p,Y,hd,hK⟩
 | .goto t,d,hc,s,u,p,a,w, σi, σu,K,Y,hd,hK=>by
  simp only [compC,Option.some.injEq] at hc; subst hc
  have h1:=hK.1
  unfold goId at h1
  omega
 | .scope x,d,hc,s,u,p,a,w, σi, σu,K,Y,hd,hK=>by
  simp only [compC] at hc
  split at hc
  ·rename_i hl
   exact scopeIn_plain (ro:=none) (fun l'=>findLabel_not (by rw [hl]; simp)) (ydwp_sound hΓ hR x d hc s u p a w σi σu K Y hd hK)
  ·rename_i l hl
   split at hc
   ·cases hc
    have h1:=hK.1
    unfold outId at h1
    omega
   ·cases hc
  ·cases hc
 | .ret,d,hc,s,u,p,a,w, σi, σu,K,Y,hd,hK=>by
  simp only [compC,Option.some.injEq] at hc; subst hc
  exact wpIn_ret ⟨σi, σu,s,u,p,Y,hd,hK⟩
 | .rangeFunc ..,d,hc,s,u,p,a,w, σi, σu,K,Y,hd,hK=>by
  simp only [compC] at hc
  split at hc
  ·cases hc; simp only [ydwp] at hK
  ·cases hc
 | .refuse _,d,hc,_,_,_,_,_,_,_,_,_,_,_=>by simp [compC] at hc
end

/-! ### the statement -/
section
variable {P:Program} {Γ:FuncId->FSpec} {σ0:Sg} {h0:List Blk} {w0:Base} {σ:Sg} {h ls:List Blk} {w:World}

theorem Sim.allocObj (H:Sim σ h ls w) (o:Obj):Sim σ h ls (w.alloc o):=by
 refine ⟨fun q B hb=>?_,H.sep,H.gval,H.lval⟩
 have hok:=H.ok q B hb
 refine hok.move (n:=h.length) (m:=ls.length) rfl (fun _ _=>rfl) (H.bval hb) (by simp) (fun hd=>Go.RowKit.Below.heap_alloc _ _ _ ?_)
 unfold OkBlk at hok
 cases hst:B.st with
 | dead=>exact absurd hst hd
 | ro=>rw [hst] at hok; exact hok.1
 | rw=>rw [hst] at hok; exact hok.1
theorem Sim.lt (H:Sim σ h ls w) {q:R} {B:Blk} (hb:blk h ls q=some B) (hd:B.st≠.dead):(σ q).1<w.heap.size:=by
 have hok:=H.ok q B hb
 unfold OkBlk at hok
 cases hst:B.st with
 | dead=>exact absurd hst hd
 | ro=>rw [hst] at hok; exact hok.1
 | rw=>rw [hst] at hok; exact hok.1

structure Ext (σ0:Sg) (h0:List Blk) (w0 w1:Base):Prop where
 pt:∀ b,w0.pt b->w1.pt b
 same:Same w0.w w1.w
 keep:∀ b,w0.pt b->(∀ k B,h0[k]?=some B->B.st=.rw->(σ0 (.g k)).1≠b)->w1.w.heap[b]?=w0.w.heap[b]?
theorem Ext.refl (σ0:Sg) (h0:List Blk) (w0:Base):Ext σ0 h0 w0 w0:=⟨fun _ h=>h,Same.refl _,fun _ _ _=>rfl⟩
theorem Ext.trans {w1 w2:Base} (h:Ext σ0 h0 w0 w1) (k:Ext σ0 h0 w1 w2):Ext σ0 h0 w0 w2 :=
 ⟨fun b hb=>k.pt b (h.pt b hb),h.same.trans k.same,fun b hb hno=>(k.keep b (h.pt b hb) hno).trans (h.keep b hb hno)⟩
theorem Inv.down {w1:Base} (E:Ext σ0 h0 w0 w1) (hg:Gl σ0 h0 w0.w/\(∀ x,x∈Tabs.cells->w0.pt x.1)/\∀ (k:Nat) (B:Blk),h0[k]?=some B->B.st≠.dead->(σ0 (.g k)).1<w0.w.heap.size) (H:Inv σ0 h0 w1 σ h ls w):Inv σ0 h0 w0 σ h ls w:=by
 refine ⟨H.sim,⟨E.same.trans H.kept.same,fun b hb hno=>(H.kept.keep b (E.pt b hb) hno).trans (E.keep b hb hno)⟩,H.len,H.old,fun r B hb hst=>?_,fun k B hk hX hd e=>H.new k B hk hX hd (E.pt _ e),H.live,hg⟩
 rcases H.mine r B hb hst with h2|h2
 ·exact .inl h2
 ·exact .inr fun e=>h2 (E.pt _ e)

def markOf (D:Nat):Deferred:={ target:=.collected D,args:=#[] }
def exitOf:Option Ex->Exit
 | some .ret=>.ret
 | some (.ext id)=>.exit id
 | _=>.normal

theorem initT {σ:Sg} {n:Nat} {args:List V} (m:Nat) (hav:args.all (V.val n 0)=true):TRel σ (args++List.replicate (m-args.length) (.tup [])) ((args.map (V.tr σ)).toArray++Array.replicate (m-(args.map (V.tr σ)).toArray.size) undef) n 0:=by
 refine ⟨by simp,fun i v hi=>?_⟩
 by_cases hlt:i<args.length
 ·rw [List.getElem?_append_left hlt] at hi
  simp only [List.all_eq_true] at hav
  refine ⟨hav v (List.mem_of_getElem? hi),v.tr σ, ?_, .inr rfl⟩
  rw [Array.getElem?_append_left (by simpa using hlt)]
  simp [hi]
 ·rw [List.getElem?_append_right (by omega),List.getElem?_replicate] at hi
  split at hi
  ·rename_i hlt2
   cases hi
   refine ⟨rfl,undef, ?_, .inr rfl⟩
   rw [Array.getElem?_append_right (by simp; omega)]
   simp [hlt2]
  ·cases hi

set_option maxHeartbeats 400000 in
theorem rf_sound {g:Operand} {ps:Array Tmp} {assign body:Code} {da db:DC} {t:List V} {a:Act} {f:FuncId} {cs:List (R×Nat)} {y:Opd} (hP:Tabs.prog=P) (hΓ:SndΓ P Γ)
  (hg:compX g=some y) (hca:compC P assign=some da) (hcb:compC P body=some db) (hsa:da.simple=true) (hsb:db.simple=true)
  (H:Inv σ0 h0 w0 σ h ls w) (hT:TRel σ t a.tmps h.length ls.length) (hrw:allRw ls=true) (hev:ev t y=.s (.fn f cs)) {K:Option Ex->U->List Blk->Prop}
  (hi:isem f (cs.map fun x=>.s (.p x.1 x.2)) ps.size (t,ls) h (rndOf Γ ps.toList da db) K)
  {Q:Exit->Act->World->Prop}
  (hQ:∀ (p:Option Ex) (u:U) (h':List Blk) (σ':Sg) (D:Nat) (w4:World) (B':Base),Ext σ0 h0 w0 B'->Inv σ0 h0 B' σ' h' u.2 w4->TRel σ' u.1 a.tmps h'.length u.2.length->B'.pt D->¬ w0.pt D->B'.w.heap[D]?=some (.deferred (some [])) ->
   (∀ k B,h0[k]?=some B->B.st=.rw->(σ0 (.g k)).1≠D)->okP p->K p u h'->Q (exitOf p) { a with defers:=markOf D::a.defers } w4) :
  (Code.rangeFunc g ps assign body).wp P Q a w:=by
 obtain ⟨Γi,F,fn,hΓi,hok,hf,hF,hres,hkn,hno,hi⟩:=hi
 rw [hP] at hΓi hok hf hF
 refine (wpIn_wide (n:=2)).1 (wpIn_rangeFunc fun fn0 _=>?_)
 have hev2:a.eval g=.func (.func f) #[] (cs.map fun x=>Value.pointer (some (adr σ x.1 x.2))).toArray:=by
  have:=(ev_is hT hg).2
  rw [hev] at this
  exact this.eq (by simp)
 have hcv:((cs.map fun x=>V.s (.p x.1 x.2)).all (V.val h.length 0))=true:=by
  have h1:=(ev_is hT hg).1
  rw [hev] at h1
  simp only [List.all_map,List.all_eq_true,V.val,S.val] at h1 hno ⊢
  intro x hx
  exact R.val_noL (h1 x hx) (by have:=hno x hx; exact this)
 obtain ⟨r,hr⟩:∃ r:Loop,r={ state:=.ready,pending:=none,fn:=fn0,tmps:=a.tmps,params:=ps,assign,body,defers:=w.heap.size }:=⟨_,rfl⟩
 obtain ⟨w1,hw1⟩:∃ w1,(w.alloc (.deferred (some []))).alloc (.loop r)=w1:=⟨_,rfl⟩
 have hsz:w1.heap.size=w.heap.size+2:=by rw [<-hw1]; simp
 have hl1:w1.heap[w.heap.size+1]?=some (.loop r):=by
  rw [<-hw1]; have:=World.alloc_heap_new (w.alloc (.deferred (some []))) (.loop r); rwa [World.size_alloc] at this
 have hD1:w1.heap[w.heap.size]?=some (.deferred (some [])):=by
  rw [<-hw1]; exact (Go.RowKit.Below.heap_alloc _ _ _ (by simp)).trans (World.alloc_heap_new w _)
 have hold:∀ b,b<w.heap.size->w1.heap[b]?=w.heap[b]?:=fun b hb=>by
  rw [<-hw1,Go.RowKit.Below.heap_alloc _ _ _ (by simp; omega),Go.RowKit.Below.heap_alloc _ _ _ hb]
 have hsame:Same w w1:=by rw [<-hw1]; exact ⟨rfl,rfl,rfl,by simp; omega⟩
 have hB0:∀ {b},w0.pt b->b<w.heap.size:=fun hb=>Nat.lt_of_lt_of_le (w0.lt _ hb) H.kept.same.size
 have hS1:Sim σ h ls w1:=by rw [<-hw1]; exact (H.sim.allocObj _).allocObj _
 obtain ⟨Bu,hBu⟩:∃ Bu:Base,Bu=⟨w1,fun b=>w0.pt b\/b=w.heap.size,fun b hb=>by rw [hsz]; exact hb.elim (fun h=>by have:=hB0 h; omega) (fun h=>by omega)⟩:=⟨_,rfl⟩
 have hBw:Bu.w=w1:=by rw [hBu]
 have hBp:∀ b,Bu.pt b↔(w0.pt b\/b=w.heap.size):=fun b=>by rw [hBu]
 have hE:Ext σ0 h0 w0 Bu:=⟨fun b hb=>(hBp b).2 (.inl hb),by rw [hBw]; exact H.kept.same.trans hsame,fun b hb hnr=>by rw [hBw,hold b (hB0 hb)]; exact H.kept.keep b hb hnr⟩
 have hGc:∀ x,x∈Tabs.cells->w1.cell? ⟨x.1,x.2.1,none⟩=some x.2.2/\x.1<w.heap.size:=fun x hx=>by
  obtain ⟨g1,g2,_⟩:=H.cellG hx
  exact ⟨by rw [<-g1]; exact cell?_block (hold x.1 g2),g2⟩
 have hrwlt:∀ q B,blk h ls q=some B->B.st=.rw->(σ q).1<w.heap.size:=fun q B hb hB=>H.sim.lt hb (by rw [hB]; simp)
 have hh0:∀ k B,h0[k]?=some B->B.st≠.dead->(σ0 (.g k)).1<w.heap.size:=fun k B hk hd=>Nat.lt_of_lt_of_le (H.gl.2.2 k B hk hd) H.kept.same.size
 have hU:Inv σ0 h0 Bu σ h ls w1:=by
  refine ⟨hS1,⟨by rw [hBw]; exact Same.refl _,fun b _ _=>by rw [hBw]⟩,H.len,H.old,fun q B hb hB=>?_,fun k B hk hX hd e=>?_,H.live,fun x hx=>?_,fun x hx=>(hBp _).2 (.inl (H.gl.2.1 x hx)),fun k B hk hd=>by rw [hBw,hsz]; have:=hh0 k B hk hd; omega⟩
  ·rcases H.mine q B hb hB with h2|h2
   ·exact .inl h2
   ·right
    intro e
    rcases (hBp _).1 e with e|e
    ·exact h2 e
    ·have:=hrwlt q B hb hB; omega
  ·rcases (hBp _).1 e with e|e
   ·exact H.new k B hk hX hd e
   ·have:=H.sim.lt (q:=.g k) hX hd; omega
  ·obtain ⟨g1,g2⟩:=hGc x hx
   rw [hBw]
   exact ⟨g1,by rw [hsz]; omega,fun k B hk hB=>(H.gl.1 x hx).2.2 k B hk hB⟩
 have hG1:Gl σ h w1:=fun x hx=>⟨(hGc x hx).1,by rw [hsz]; have:=(hGc x hx).2; omega,fun k B hk hB=>(H.cellG hx).2.2 (.g k) B hk hB⟩
 have hI:Inv σ h ⟨w1,Bu.pt,fun b hb=>by rw [<-hBw]; exact Bu.lt b hb⟩ σ h [] w1 :=
  Inv.start rfl hS1.glob hG1 (fun x hx=>(hBp _).2 (.inl (H.gl.2.1 x hx))) (fun k B hb=>by simp at hb)
 have hpl:¬ Bu.pt (w.heap.size+1):=fun e=>by
  rcases (hBp _).1 e with e|e
  ·have:=hB0 e; omega
  ·omega
 have hTw:Two (w.heap.size+1) σ h ⟨w1,Bu.pt,fun b hb=>by rw [<-hBw]; exact Bu.lt b hb⟩ σ0 h0 Bu σ [] σ ls h w1:=by
  refine ⟨hI,hU,fun _ _=>rfl,fun j k X Y hj=>by simp at hj,fun q B hb hB=>?_,fun q B hb hB=>?_,by rw [hsz]; omega,hpl,fun b=>Iff.rfl,fun x hx=>?_⟩
  ·cases q with
   | g k=>have:=hrwlt (.g k) B hb hB; omega
   | l k=>simp [blk] at hb
  ·have:=hrwlt q B hb hB; omega
  ·have:=(hGc x hx).2; omega
 obtain ⟨caps,hcaps⟩:∃ caps,(cs.map fun x=>V.s (.p x.1 x.2))=caps:=⟨_,rfl⟩
 have hcv2:(cs.map fun x=>Value.pointer (some (adr σ x.1 x.2))).toArray=(caps.map (V.tr σ)).toArray:=by
  rw [<-hcaps,List.map_map]; rfl
 rw [hcaps] at hkn hno hi hcv
 rw [hcv2] at hev2
 obtain ⟨c,hbody,d,hd,hFb,hFn⟩:∃ c,fn.body=some c/\∃ d,compC P c=some d/\F.body=d/\F.ntmps=fn.ntmps:=by
  unfold compF at hF
  split at hF
  ·rename_i c hb
   split at hF
   ·rename_i d q hd hr
    cases hF
    exact ⟨c,hb,d,hd,rfl,rfl⟩
   ·cases hF
  ·cases hF
 have hresults:fn.results.toList=[]:=by
  unfold compF at hF
  split at hF
  ·split at hF
   ·rename_i d q hd hr
    cases hF
    simp only at hres
    subst hres
    cases hl:fn.results.toList with
    | nil=>rfl
    | cons x xs =>
     rw [hl] at hr
     cases x<;>simp only [compR] at hr
     ·cases h3:compR P xs<;>simp [h3] at hr
     ·split at hr<;>cases hr
   ·cases hF
  ·cases hF
 have hT0:=initT (σ:=σ) (n:=h.length) (args:=.s (.yl (w.heap.size+1))::caps) fn.ntmps (by simp only [List.all_cons,Bool.and_eq_true]; exact ⟨rfl,hcv⟩)
 have hY:YS (w.heap.size+1) r σ h ⟨w1,Bu.pt,fun b hb=>by rw [<-hBw]; exact Bu.lt b hb⟩ σ0 h0 Bu σ σ (.s (.yl (w.heap.size+1))::caps++List.replicate (F.ntmps-(caps.length+1)) (.tup [])) [] h (t,ls) none
   (((V.s (.yl (w.heap.size+1))::caps).map (V.tr σ)).toArray++Array.replicate (fn.ntmps-((V.s (.yl (w.heap.size+1))::caps).map (V.tr σ)).toArray.size) undef) w1:=by
  refine ⟨hTw, ?_,by rw [hr]; exact hT,hrw, ?_,fun id e=>by cases e⟩
  ·rw [hFn]; exact hT0
  ·rw [hl1,hr]; rfl
 have hR:RSnd P 0 (w.heap.size+1) r σ h ⟨w1,Bu.pt,fun b hb=>by rw [<-hBw]; exact Bu.lt b hb⟩ σ0 h0 Bu ps.size (rndOf Γ ps.toList da db):=by
  have:=rnd_sound (P:=P) (n:=0) (l:=w.heap.size+1) (r:=r) (σi0:=σ) (hi0:=h) (Bi:=⟨w1,Bu.pt,fun b hb=>by rw [<-hBw]; exact Bu.lt b hb⟩) (σu0:=σ0) (hu0:=h0) (Bu:=Bu) hΓ (da:=da) (db:=db) (by rw [hr]) (by rw [hr]) (by rw [hr]; exact hca) (by rw [hr]; exact hcb) hsa hsb
  rw [hr] at this ⊢
  simpa using this
 have hcall:CallsIn Fence.wide 1 P f ((V.s (.yl (w.heap.size+1))::caps).map (V.tr σ)).toArray w1 fun e w'=>(∃ v,e=.returned v)/\∃ (σu:Sg) (u:U) (p:Option Ex) (h':List Blk),Inv σ0 h0 Bu σu h' u.2 w'/\TRel σu u.1 r.tmps h'.length u.2.length/\w'.heap[w.heap.size+1]?=some (.loop (recAt r p))/\okP p/\K p u h':=by
  obtain ⟨si,Wi,hi⟩:=hi (w.heap.size+1)
  rw [<-hcaps] at Wi
  rw [hcaps] at Wi
  obtain ⟨σ2, σ3,hY2⟩:=YS.wk (s:=⟨_,[],h⟩) hY Wi
  refine callsIn_of_wp hf hbody trivial (wpIn_mono (ydwp_sound hΓi hR c d hd _ (t,ls) none _ w1 σ2 σ3 _ hY2 rfl (by rw [<-hFb]; exact hi)) ?_)
  rintro e a' w' hq
  unfold YK at hq
  have hend:∀ (σi σu:Sg) (s:St) (u:U) (p:Option Ex),YS (w.heap.size+1) r σ h ⟨w1,Bu.pt,fun b hb=>by rw [<-hBw]; exact Bu.lt b hb⟩ σ0 h0 Bu σi σu s.t s.ls s.h u p a'.tmps w'->a'.defers=[]->K p u s.h->a'.defers=[]/\∃ v,(results fn a'.tmps).run P w'=.ok v w'/\(∃ v',Ending.returned v=.returned v')/\∃ (σu:Sg) (u:U) (p:Option Ex) (h':List Blk),Inv σ0 h0 Bu σu h' u.2 w'/\TRel σu u.1 r.tmps h'.length u.2.length/\w'.heap[w.heap.size+1]?=some (.loop (recAt r p))/\okP p/\K p u h':=fun σi σu s u p Y hd hK=>by
   refine ⟨hd, .tuple #[], ?_,⟨_,rfl⟩, σu,u,p,s.h,Y.two.B,Y.tu,Y.rc,Y.po,hK⟩
   have h3:fn.results=#[]:=by simpa using hresults
   simp [results,h3]
  cases e with
  | normal =>
   simp only [exOfR] at hq
   obtain ⟨σi, σu,s,u,p,Y,hd,hK⟩:=hq
   exact hend σi σu s u p Y hd hK
  | ret =>
   simp only [exOfR] at hq
   obtain ⟨σi, σu,s,u,p,Y,hd,hK⟩:=hq
   exact hend σi σu s u p Y hd hK
  | exit id =>
   by_cases hid:id<1000000
   ·simp only [exOfR,if_pos hid] at hq
    obtain ⟨_,_,_,_,_,_,_,hf⟩:=hq
    exact hf.elim
   ·simp only [exOfR,if_neg hid] at hq
  | goto t=>simp [exOfR] at hq
  | panic c=>simp [exOfR] at hq
  | outgrown=>simp [exOfR] at hq
 have hvs:((V.s (.yl (w.heap.size+1))::caps).map (V.tr σ)).toArray=#[.func (.yield (w.heap.size+1)) #[] #[]]++(caps.map (V.tr σ)).toArray:=by simp [V.tr,S.tr]
 rw [hvs] at hcall
 refine ⟨w.heap.size+1,[markOf w.heap.size],w1,{ target:=.fn (.func f) (caps.map (V.tr σ)).toArray,args:=#[.func (.yield (w.heap.size+1)) #[] #[]] },w1,f, #[.func (.yield (w.heap.size+1)) #[] #[]]++(caps.map (V.tr σ)).toArray,w1, ?_, ?_, ?_, ?_, ?_, ?_⟩
 ·rw [<-hw1,hr]; exact run_enterLoop_outer _ _ _ _ _
 ·simp only [resolve,hev2]
  simp [go_sem]
 ·intro f' _; trivial
 ·simp [invoke,go_sem,callFunc_run hok]
 ·intro hd; simp [Fence.wide] at hd
 ·show CallsIn Fence.wide 1 P f _ w1 _
  refine CallsIn.mono hcall ?_
  rintro e w' ⟨⟨v,rfl⟩, σu,u,p,h',I,hT',hrc,hpo,hK⟩
  have hne:(recAt r p).state≠.busy:=by
   unfold recAt
   cases p<;>simp
  simp only [rangePost]
  refine ⟨codeOf p,_,run_endLoop hrc hne, ?_⟩
  have hI4:=I.putLoop { recAt r p with state:=.exhausted } hrc hpl
  have hfin:=hQ p u h' σu w.heap.size _ Bu hE hI4 (by rw [hr] at hT'; exact hT') ((hBp _).2 (.inr rfl)) (fun e=>by have:=hB0 e; omega) (by rw [hBw]; exact hD1) (fun k B hk hB e=>by have:=hh0 k B hk (by rw [hB]; simp); omega) hpo hK
  cases p with
  | none=>exact hfin
  | some x =>
   cases x with
   | nrm=>exact hfin
   | ret=>exact wpIn_ret hfin
   | ext id=>exact wpIn_exit hfin
end
end Go.D

