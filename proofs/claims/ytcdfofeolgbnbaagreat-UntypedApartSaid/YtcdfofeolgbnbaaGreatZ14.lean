/- The machine's memory: how it stands among the blocks. -/
import Derived.Test.YtcdfofeolgbnbaaGreatZ13
import Derived.JoinedCond
import Derived.SizedLaws
import Derived.KernelRfl
import Derived.Test.YtcdfofeolgbnbaaGreatRows
import Derived.Test.YtcdfofeolgbnbaaGreatZ12
import Derived.Test.YtcdfofeolgbnbaaGreatZ11
/- A statement's step: its arguments opened,its answer closed. -/
namespace Go.D
set_option linter.all false
variable [Tabs]
open Go.ChangeShapes Go.WideShapes
section
variable {H:Type} {enc:TypeId×Value->H} {P:Program} {W W':World}

structure Still (W W':World):Prop where
 os:W'.os=W.os
 output:W'.output=W.output
 heap:∀ b,b<W.heap.size->W'.heap[b]?=W.heap[b]?

theorem Still.keptBut (h:Still W W') (may:MemPlace->Prop):W.keptBut W' may:=by
 refine ⟨h.os,h.output,fun i hi=>?_⟩
 rw [h.heap i hi]
 split
 ·rename_i e1 e2
  cases e1.symm.trans e2
  exact ⟨rfl,rfl,rfl,fun _ _=>rfl⟩
 ·rename_i e1 e2
  cases e1.symm.trans e2
  exact .inr ⟨rfl,rfl⟩
 ·rfl

theorem Still.cell (h:Still W W') {a:Addr} (ha:a.block<W.heap.size):W'.cell? a=W.cell? a:=by
 simp only [World.cell?,h.heap a.block ha]

theorem Still.same (h:Still W W') {p:MemPlace} (hp:p.block<W.heap.size):W.sameAt W' p:=by
 cases p with
 | cell b off=>exact h.cell hp
 | map b=>exact h.heap b hp

theorem law_post {T:TypeId->Prop} {f:Func} {s:ChangeSpec} {args:Array Value} {ds gs:List (DataW H)} {before:List MemPlace} {bt:TypeId} (K:Kids P T) (hz:∀ t e,T t->P.underlying t=some (.slice e)->0<P.cellsOf e)
  (hT:∀ t,t∈f.params.toList->T t) (hv:s.vars=[]) (hbt:P.underlying bt=some .bool) (hrt:f.resultTypes=#[bt]) (hfn:s.fn H (ds++gs)={ results:=[.lit (.bool true)],args:=ds }) {apart:Bool}
  (hW:DataW.Whole enc P f.params.toList s.vars apart W args.toList ds gs before) (hS:Still W W') {fresh handsOn:Bool} :
  s.post enc P f apart fresh handsOn false W args (.bool true) W':=by
 obtain ⟨p,q,hA,hV,hb,hfz,hnd⟩:=id hW
 have hlt:∀ x,x∈before->x.block<W.heap.size:=fun x hx=>hW.lt x hx
 rw [hv] at hV
 obtain ⟨rfl,rfl⟩:=trodVars_none hV
 simp only [List.append_nil] at hb hfn
 subst hb
 have hcarry:∀ {ts:List TypeId} {vs:List Value} {ds:List (DataW H)} {p:List MemPlace} {sp:Nat->Bool},DataW.TrodAll enc P W 0 sp true ts vs ds p->(∀ x,x∈p->x.block<W.heap.size)->DataW.TrodAll enc P W' 0 sp true ts vs ds p:=by
  intro ts
  induction ts with
  | nil =>
   intro vs ds p sp h _
   cases vs<;>cases ds<;>first|exact h|exact h.elim
  | cons t ts ih =>
   intro vs ds p sp h hp
   match vs,ds,h with
   | v::vs,d::ds,⟨p1,p2,⟨n,h1⟩,h2,e⟩ =>
    exact ⟨p1,p2,⟨n,DataW.trod_carry n _ _ _ h1 (fun x hx=>hS.same (hp x (by rw [e]; exact List.mem_append_left _ hx)))⟩,ih h2 (fun x hx=>hp x (by rw [e]; exact List.mem_append_right _ hx)),e⟩
 have hres:∀ (b:Nat) (sp:Nat->Bool) (hd:Bool),DataW.TrodAll enc P W' b sp hd f.resultTypes.toList ((Value.bool true).resultList f.resultTypes.size) (s.fn H (ds++[])).results []:=fun b sp hd=>by
  simp only [List.append_nil,hfn,hrt]
  exact ⟨[],[],⟨1,by simp [DataW.trod,Value.cells,hbt]⟩,rfl,rfl⟩
 have hsp:∀ sp:Nat->Bool,(∀ x,x∈before->sp x.block=true)->DataW.TrodAll enc P W' 0 sp true f.params.toList args.toList (s.fn H (ds++[])).args before:=fun sp hx=>by
  simp only [List.append_nil,hfn]
  exact hcarry (DataW.TrodAll.respare K hz hT hA hx) hlt
 have hvars:∀ sp:Nat->Bool,DataW.TrodVars enc P W' sp s.vars (s.fn H (ds++[])).vars []:=fun sp=>by
  simp only [List.append_nil,hfn,hv]; rfl
 refine ⟨ds,[],before,[],before,[],hW,hres _ _ _,hsp _ (fun x hx=>decide_eq_true (hlt x hx)),hvars _,hS.keptBut _,fun h=>Bool.noConfusion h⟩
end
end Go.D

/- A statement's row: a law whose small code answers true over whatever read-only arguments holds. -/
namespace Go.D
set_option linter.all false
variable [Tabs]
open Go.ChangeShapes Go.WideShapes

def paramTy (P:Program) (d:Nat) (t:TypeId):Option (Bool×List TY) :=
 match tyOf P d t with
 | some l=>match P.underlying t with
  | some (.struct _)=>some (true,l)
  | some (.array _ _)=>some (true,l)
  | some (.int _)=>some (false,l)
  | some .bool=>some (false,l)
  | some (.slice _)=>some (false,l)
  | _=>none
 | none=>none
def paramTys (P:Program) (d:Nat):List TypeId->Option (List (Bool×List TY))
 | []=>some []
 | t::ts=>match paramTy P d t,paramTys P d ts with
  | some x,some l=>some (x::l)
  | _,_=>none

def hasV (h:List Blk):Bool×List TY->V->Prop
 | (true,l),v=>∃ ss,v=.agg ss/\hasTs h l ss
 | (false,l),v=>∃ s,v=.s s/\hasTs h l [s]
def hasVs (h:List Blk):List (Bool×List TY)->List V->Prop
 | [],[]=>True
 | t::ts,v::vs=>hasV h t v/\hasVs h ts vs
 | _,_=>False

theorem hasV_mono {h h':List Blk} {t:Bool×List TY} {v:V} (H:hasV h t v):hasV (h++h') t v:=by
 obtain ⟨b,l⟩:=t
 cases b with
 | true=>obtain ⟨ss,e,H⟩:=H; exact ⟨ss,e,hasTs_mono H⟩
 | false=>obtain ⟨s,e,H⟩:=H; exact ⟨s,e,hasTs_mono H⟩

section
variable {H:Type} {enc:TypeId×Value->H} {P:Program} {w:World}

theorem V.tr_old {σ σ':Sg} {n:Nat} (hA:∀ k,k<n->σ' (.g k)=σ (.g k)) {v:V} (hv:v.val n 0=true):v.tr σ'=v.tr σ :=
 V.tr_congr (n:=n) (m:=0) (fun r hr=>by
  cases r with
  | g k=>exact hA k (by simpa [R.val] using hr)
  | l k=>simp [R.val] at hr) v hv

theorem open_arg {r:Reach} {base:Nat} {t:TypeId} {v:Value} {d:DataW H} {p:List MemPlace} {D:Nat} {x:Bool×List TY} {sp:Nat->Bool} {held:Bool} {b0:Nat}
  (hok:Value.okWide P w r base t v) (ht:DataW.Trod enc P w b0 sp held t v d p) (hx:paramTy P D t=some x) (hw:∀ k,k∈d.weights P t->k<=reachBytes) :
  ∀ (σ:Sg) (h:List Blk),RO σ h w->∃ (h':List Blk) (σ':Sg) (u:V),(∀ k,k<h.length->σ' (.g k)=σ (.g k))/\RO σ' (h++h') w/\hasV (h++h') x u/\u.tr σ'=v/\u.val (h++h').length 0=true/\u.known=true:=by
 obtain ⟨n,ht⟩:=ht
 unfold paramTy at hx
 split at hx
 ·rename_i l hl
  have agg:∀ cs,v=.agg cs->Row.okWide P w r base t cs->x=(true,l)->∀ (σ:Sg) (h:List Blk),RO σ h w->∃ (h':List Blk) (σ':Sg) (u:V),(∀ k,k<h.length->σ' (.g k)=σ (.g k))/\RO σ' (h++h') w/\hasV (h++h') x u/\u.tr σ'=v/\u.val (h++h').length 0=true/\u.known=true:=by
   intro cs hv hr hx σ h hR
   subst hv; subst hx
   obtain ⟨h', σ',ss,a1,a2,a3,a4,a5,a6⟩:=open_trod D n t cs.toList (d,p) l ht hl hw σ h hR
   refine ⟨h', σ', .agg ss,a1,a2,⟨ss,rfl,a3⟩, ?_,a5,a6⟩
   simp only [V.tr,trs,a4,Array.toArray_toList]
  have one:v.cells=#[v]->x=(false,l)->∀ (σ:Sg) (h:List Blk),RO σ h w->∃ (h':List Blk) (σ':Sg) (u:V),(∀ k,k<h.length->σ' (.g k)=σ (.g k))/\RO σ' (h++h') w/\hasV (h++h') x u/\u.tr σ'=v/\u.val (h++h').length 0=true/\u.known=true:=by
   intro hc hx σ h hR
   subst hx
   rw [hc] at ht
   obtain ⟨h', σ',ss,a1,a2,a3,a4,a5,a6⟩:=open_trod D n t [v] (d,p) l ht hl hw σ h hR
   match ss,a4 with
   | [s],a4 =>
    simp only [List.map_cons,List.map_nil,List.cons.injEq,and_true] at a4
    refine ⟨h', σ', .s s,a1,a2,⟨s,rfl,a3⟩,a4, ?_, ?_⟩
    ·simpa [vals,V.val] using a5
    ·simpa [known_cons,known_nil] using a6
  unfold Value.okWide at hok
  split at hx<;>rename_i hu<;>simp only [hu,Option.some.injEq] at hok hx
  ·obtain ⟨cs,hv,_,hr⟩:=hok; exact agg cs hv hr hx.symm
  ·obtain ⟨cs,hv,_,hr⟩:=hok; exact agg cs hv hr hx.symm
  ·refine one ?_ hx.symm
   unfold Cell.okWide at hok; rw [hu] at hok
   cases v<;>first|rfl|(simp [Cell.ok,hu] at hok)
  ·refine one ?_ hx.symm
   unfold Cell.okWide at hok; rw [hu] at hok
   cases v<;>first|rfl|(simp [Cell.ok,hu] at hok)
  ·refine one ?_ hx.symm
   unfold Cell.okWide at hok; rw [hu] at hok
   cases v<;>first|rfl|(simp [Cell.ok,hu] at hok)
  ·cases hx
 ·cases hx

theorem open_args {r:Reach} {base D:Nat} {sp:Nat->Bool} {held:Bool} {b0:Nat}:∀ (ts:List TypeId) (vs:List Value) (ds:List (DataW H)) (p:List MemPlace) (xs:List (Bool×List TY)),
  (∀ (j:Nat) t v,ts[j]?=some t->vs[j]?=some v->Value.okWide P w r base t v)->DataW.TrodAll enc P w b0 sp held ts vs ds p->paramTys P D ts=some xs->(∀ (j:Nat) t d,ts[j]?=some t->ds[j]?=some d->∀ k,k∈d.weights P t->k<=reachBytes) ->
  ∀ (σ:Sg) (h:List Blk),RO σ h w->∃ (h':List Blk) (σ':Sg) (us:List V),(∀ k,k<h.length->σ' (.g k)=σ (.g k))/\RO σ' (h++h') w/\hasVs (h++h') xs us/\us.map (V.tr σ')=vs/\us.all (V.val (h++h').length 0)=true/\us.all V.known=true
 | [],vs,ds,p,xs,_,ht,hx,_=>fun σ h hR=>by
  obtain ⟨rfl,rfl,rfl⟩:=trodAll_nil ht
  simp only [paramTys,Option.some.injEq] at hx
  subst hx
  exact ⟨[], σ,[],fun _ _=>rfl,by simpa using hR,trivial,rfl,rfl,rfl⟩
 | t::ts,vs,ds,p,xs,hok,ht,hx,hw=>fun σ h hR=>by
  obtain ⟨v,vs',d,ds',p',q,rfl,rfl,rfl,h0,h1⟩:=trodAll_cons ht
  simp only [paramTys] at hx
  split at hx
  ·rename_i x l hx1 hx2
   cases hx
   obtain ⟨ha, σa,u,a1,a2,a3,a4,a5,a6⟩:=open_arg (hok 0 t v rfl rfl) h0 hx1 (hw 0 t d rfl rfl) σ h hR
   obtain ⟨hb, σb,us,b1,b2,b3,b4,b5,b6⟩:=open_args ts vs' ds' q l (fun j t v ht hv=>hok (j+1) t v (by simpa using ht) (by simpa using hv)) h1 hx2 (fun j t d ht hd=>hw (j+1) t d (by simpa using ht) (by simpa using hd)) σa (h++ha) a2
   refine ⟨ha++hb, σb,u::us,fun k hk=>?_,by rw [<-List.append_assoc]; exact b2, ?_, ?_, ?_, ?_⟩
   ·rw [b1 k (by simp; omega),a1 k hk]
   ·rw [<-List.append_assoc]; exact ⟨hasV_mono a3,b3⟩
   ·rw [List.map_cons,b4,V.tr_old b1 a5,a4]
   ·rw [<-List.append_assoc,List.all_cons,Bool.and_eq_true]
    exact ⟨V.val_mono (by simp) (Nat.le_refl _) a5,b5⟩
   ·rw [List.all_cons,Bool.and_eq_true]; exact ⟨a6,b6⟩
  ·cases hx
end

def Law (S:FSpec) (xs:List (Bool×List TY)):Prop:=∀ (h:List Blk) (us:List V),hasVs h xs us->clean h.length h=true->S us h fun v _=>v=.s (.b true)

theorem law_calls {P:Program} {H:Type} {enc:TypeId×Value->H} {W:World} {f:FuncId} {S:FSpec} {r:Reach} {base D:Nat} {ts:List TypeId} {args:Array Value} {ds:List (DataW H)} {p:List MemPlace} {xs:List (Bool×List TY)} {sp:Nat->Bool} {held:Bool} {b0:Nat}
  (hT:∀ x,x∈Tabs.cells->W.cell? ⟨x.1,x.2.1,none⟩=some x.2.2/\x.1<W.heap.size) (hS:Snd P f S) (hL:Law S xs) (hok:∀ (j:Nat) t v,ts[j]?=some t->args[j]?=some v->Value.okWide P W r base t v) (ht:DataW.TrodAll enc P W b0 sp held ts args.toList ds p) (hx:paramTys P D ts=some xs) (hw:∀ (j:Nat) t d,ts[j]?=some t->ds[j]?=some d->∀ k,k∈d.weights P t->k<=reachBytes) :
  Calls P f args W fun e W'=>e=.returned (.bool true)/\Still W W':=by
 have hR0:RO (fun _=>(0,0)) [] W:=⟨fun k B hB=>by simp at hB,fun B hB=>by cases hB⟩
 obtain ⟨h, σ,us,_,hR,hV,he,hval,hk⟩:=open_args ts args.toList ds p xs (fun j t v h1 h2=>hok j t v h1 (by simpa using h2)) ht hx hw _ [] hR0
 simp only [List.nil_append] at hR hV hval
 have hcl:clean h.length h=true:=by
  simp only [clean,List.all_eq_true]
  exact hR.val
 have hc:=hS σ h W us _ hR.sim (fun x hx=>⟨(hT x hx).1,(hT x hx).2,fun k B hB hst=>absurd hst (hR.ok k B hB).1⟩) hval hk (hL h us hV hcl)
 have ha:(us.map (V.tr σ)).toArray=args:=by rw [he]
 rw [ha] at hc
 refine hc.mono fun e W' ⟨v,h', σ',e1,_,_,hI,e2⟩=>?_
 subst e2
 refine ⟨e1,hI.kept.same.os,hI.kept.same.output,fun b hb=>hI.kept.keep b hb fun k B hB hst=>?_⟩
 exact absurd hst (hR.ok k B hB).1

/-! ### the row -/
def slicesFull (P:Program):Bool:=(List.range P.types.size).all fun t=>match P.underlying t with
 | some (.slice e)=>decide (0<P.cellsOf e)
 | _=>true

theorem trodAll_length {H:Type} {enc:TypeId×Value->H} {P:Program} {w:World} {b0:Nat} {sp:Nat->Bool} {held:Bool}:∀ {ts:List TypeId} {vs:List Value} {ds:List (DataW H)} {p:List MemPlace},DataW.TrodAll enc P w b0 sp held ts vs ds p->ds.length=ts.length
 | [],vs,ds,p,h=>by obtain ⟨_,rfl,_⟩:=trodAll_nil h; rfl
 | t::ts,vs,ds,p,h=>by
  obtain ⟨v,vs',d,ds',p',q,rfl,rfl,rfl,_,h1⟩:=trodAll_cons h
  simp [trodAll_length h1]

structure RowOk (P:Program) (f:FuncId) (fn:Func) (s:ChangeSpec) (xs:List (Bool×List TY)):Prop where
 own:ownKnob P.godebug=none
 noTabs:Tabs.cells=[]
 noInit:P.inits.idxOf? f=none
 isf:P.funcs[f]?=some fn
 laid:laidOutB P=true
 rowed:mapsRowed P=true
 full:slicesFull P=true
 params:fn.params.toList.all (fun t=>decide (t<P.types.size))=true
 vars:s.vars=[]
 ret:∃ bt,fn.resultTypes=#[bt]/\P.underlying bt=some .bool
 spec:∀ (H:Type) (ds:List (DataW H)),ds.length=fn.params.toList.length->s.fn H ds={ results:=[.lit (.bool true)],args:=ds }
 tys:∃ D,paramTys P D fn.params.toList=some xs

theorem RowOk.calls {P:Program} {f:FuncId} {fn:Func} {s:ChangeSpec} {xs:List (Bool×List TY)} (R:RowOk P f fn s xs) {S:FSpec} (hS:Snd P f S) (hL:Law S xs)
  {H:Type} {enc:TypeId×Value->H} {W:World} {base:Nat} {r:Reach} {args:Array Value} {ds gs:List (DataW H)} {before:List MemPlace} {apart fresh handsOn:Bool}
  (hval:∀ (j:Nat) t v,fn.params[j]?=some t->args[j]?=some v->Value.okWide P W r base t v) (hW:DataW.Whole enc P fn.params.toList s.vars apart W args.toList ds gs before)
  (hZ:(DataW.weightsEach P (fn.params.toList++s.plain.varTypes P) (ds++gs)).all (·<=reachBytes)=true) :
  Calls P f args W fun e W'=>∃ v,e=.returned v/\s.post enc P fn apart fresh handsOn false W args v W':=by
 obtain ⟨D,hx⟩:=R.tys
 obtain ⟨bt,hrt,hbt⟩:=R.ret
 obtain ⟨p,q,hA,hV,hb,hfz,hnd⟩:=id hW
 have hc:=law_calls (fun x hx=>by rw [R.noTabs] at hx; cases hx) hS hL (fun j t v h1 h2=>hval j t v (by simpa using h1) h2) hA hx (fun j t d ht hd k hk=>by
  have h1:(fn.params.toList++s.plain.varTypes P)[j]?=some t:=by rw [List.getElem?_append_left (List.getElem?_eq_some_iff.1 ht).1]; exact ht
  have h2:(ds++gs)[j]?=some d:=by rw [List.getElem?_append_left (List.getElem?_eq_some_iff.1 hd).1]; exact hd
  have h3:=List.all_eq_true.1 hZ _ (DataW.weights_mem_each h1 h2 k hk)
  simpa using h3)
 refine hc.mono fun e W' ⟨he,hst⟩=>⟨_,he, ?_⟩
 have hgs:gs=[]:=by
  rw [R.vars] at hV; exact (trodVars_none hV).1
 subst hgs
 refine law_post (kids_rows R.laid R.rowed) (fun t e ht hu=>?_) (fun t ht=>?_) R.vars hbt hrt ?_ hW hst
 ·have:=R.full
  simp only [slicesFull,List.all_eq_true,List.mem_range] at this
  have:=this t ht
  rw [hu] at this
  simpa using this
 ·have:=R.params
  simp only [List.all_eq_true,decide_eq_true_eq] at this
  exact this t ht
 ·simp only [List.append_nil]
  exact R.spec H ds (trodAll_length hA)

theorem RowOk.lifted {C:Checked} {f:FuncId} {fn:Func} {s:ChangeSpec} {xs:List (Bool×List TY)} (R:RowOk C.prog f fn s xs) {S:FSpec} (hS:Snd C.prog f S) (hL:Law S xs) {os:Os} (started:os.Started) {H:Type} {enc:TypeId×Value->H} {conds:List PathCond} {apart fresh handsOn:Bool}
  (witness:∃ (w:World) (tape:Tape) (i:Input),w.os=os/\(w.forCall tape i).Shaped C.prog/\i.vars=[]/\Input.okWide C.prog (w.forCall tape i) .any w.heap.size f i /\
   s.pre6 enc C.prog fn conds apart (w.forCall tape i).memory i.args/\({}:Assume).holds C.prog (lone (Frame.enter C.prog f i.args .normal) [] (w.forCall tape i))) :
  ReturnsInHanded {} C os f .any (s.pre6 enc C.prog fn conds apart) (s.post enc C.prog fn apart fresh handsOn false) :=
 returnsInHanded_of_change_sized R.own started R.noInit R.isf witness fun _ _ _ _ _ _ hval hW _ hZ _=>R.calls hS hL hval hW hZ

end Go.D

/- The facts of the rows of this seat. -/
namespace Go.Proofs.YtcdfofeolgbnbaaGreat
open Go.D
set_option linter.all false
set_option maxRecDepth 100000

theorem own:ownKnob Tryz.prog.godebug=none:=by kernel_rfl
theorem laid:laidOutB Tryz.prog=true:=by kernel_rfl
theorem rowed:mapsRowed Tryz.prog=true:=by kernel_rfl
theorem full:slicesFull Tryz.prog=true:=by kernel_rfl

theorem hasTs_cons {h:List Blk} {t:TY} {ts:List TY} {ss:List S} (H:hasTs h (t::ts) ss):∃ s ss',ss=s::ss'/\hasT h t s/\hasTs h ts ss':=by
 cases ss with
 | nil=>exact H.elim
 | cons s ss=>exact ⟨s,ss,rfl,H.1,H.2⟩
theorem hasTs_nil {h:List Blk} {ss:List S} (H:hasTs h [] ss):ss=[]:=by
 cases ss with
 | nil=>rfl
 | cons s ss=>exact H.elim


def IsArr {α:Type} (c:α->List S) (h:List Blk) (s:S) (L:List α):Prop :=
 ((s=.ns\/∃ a c',s=.es a c')/\L=[])\/∃ j c' st room,s=.sl (.g j) 0 L.length c'/\h[j]?=some ⟨st,arr c L,room⟩/\(L.length≠0->st≠.dead)
theorem arr_inj {α:Type} {c:α->List S} {k:Nat} (hk:∀ x,(c x).length=k) (hc:∀ x y,c x=c y->x=y):∀ (L M:List α),L.length=M.length->arr c L=arr c M->L=M
 | [],[],_,_=>rfl
 | x::L,y::M,hl,e=>by
  simp only [arr] at e
  obtain ⟨e1,e2⟩:=List.append_inj e (by rw [hk,hk])
  rw [hc x y e1,arr_inj hk hc L M (by simpa using hl) e2]
 | [],_::_,hl,_=>by simp at hl
 | _::_,[],hl,_=>by simp at hl
class Cells {α:Type} (c:α->List S):Prop where
 len:∃ k,∀ x,(c x).length=k
 inj:∀ x y,c x=c y->x=y
theorem IsArr.uniq {α:Type} {c:α->List S} [C:Cells c] {h:List Blk} {s:S} {L M:List α} (H:IsArr c h s L) (H':IsArr c h s M):L=M:=by
 rcases H with ⟨e0,rfl⟩|⟨j,c1,st,room,rfl,e1,_⟩
 ·rcases H' with ⟨_,rfl⟩|⟨_,_,_,_,e,_⟩
  ·rfl
  ·subst e; rcases e0 with e0|⟨_,_,e0⟩<;>cases e0
 ·rcases H' with ⟨e|⟨_,_,e⟩,_⟩|⟨j',c1',st',room',e,e2,_⟩
  ·cases e
  ·cases e
  ·simp only [S.sl.injEq,R.g.injEq,true_and] at e
   obtain ⟨rfl,hl,rfl⟩:=e
   rw [e1,Option.some.injEq,Blk.mk.injEq] at e2
   obtain ⟨k,hk⟩:=C.len
   exact arr_inj hk C.inj L M hl e2.2.1
open Classical in
noncomputable def arrOf {α:Type} (c:α->List S) (h:List Blk) (s:S):Option (List α):=if hx:∃ v,IsArr c h s v then some (Classical.choose hx) else none
theorem arrOf_eq {α:Type} {c:α->List S} [Cells c] {h:List Blk} {s:S} {v:List α} (H:IsArr c h s v):arrOf c h s=some v:=by
 have hx:∃ v,IsArr c h s v:=⟨v,H⟩
 unfold arrOf
 rw [dif_pos hx,IsArr.uniq (Classical.choose_spec hx) H]
theorem arrOf_some {α:Type} {c:α->List S} {h:List Blk} {s:S} {v:List α} (e:arrOf c h s=some v):IsArr c h s v:=by
 unfold arrOf at e
 split at e
 ·rename_i hx
  have:=Classical.choose_spec hx
  rw [Option.some.injEq] at e
  rw [e] at this
  exact this
 ·cases e
def In.c (n:Int):List S:=[.i .i64 n]
theorem In.c_len (n:Int):(In.c n).length=1:=rfl
instance:Cells In.c:=⟨⟨1,In.c_len⟩,fun x y e=>by simpa [In.c] using e⟩

/-! ### a slice whose form is not looked at -/
def IsSl (q:Nat) (s:S) (n:Nat):Prop:=(s=.ns/\n=0)\/(∃ a c,s=.es a c/\n=0)\/∃ j o c,s=.sl (.g j) o n c/\j<q
section
variable {q:Nat} {s:S} {n:Nat} (H:IsSl q s n)
include H
theorem IsSl.len {ls h:List Blk}:lenR (.s s) ls h=.ok (.s (.i .i64 n)) ls h:=by
 rcases H with ⟨rfl,rfl⟩|⟨a,c,rfl,rfl⟩|⟨j,o,c,rfl,_⟩<;>rfl
theorem IsSl.known:V.known (.s s)=true:=by
 rcases H with ⟨rfl,rfl⟩|⟨a,c,rfl,rfl⟩|⟨j,o,c,rfl,_⟩<;>rfl
theorem IsSl.noL:s.noL=true:=by
 rcases H with ⟨rfl,rfl⟩|⟨a,c,rfl,rfl⟩|⟨j,o,c,rfl,_⟩<;>rfl
theorem IsSl.below (m:Nat):s.below m=true:=by
 rcases H with ⟨rfl,rfl⟩|⟨a,c,rfl,rfl⟩|⟨j,o,c,rfl,_⟩<;>rfl
theorem IsSl.names (m:Nat):s.names m=false:=by
 rcases H with ⟨rfl,rfl⟩|⟨a,c,rfl,rfl⟩|⟨j,o,c,rfl,_⟩<;>rfl
theorem IsSl.ren {ρ:R->R} (hρ:∀ k, ρ (.g k)=.g k):s.ren ρ=s:=by
 rcases H with ⟨rfl,rfl⟩|⟨a,c,rfl,rfl⟩|⟨j,o,c,rfl,_⟩<;>simp [S.ren,hρ]
theorem IsSl.pick (l:List Nat):s.ren (R.pick l)=s:=H.ren fun _=>rfl
theorem IsSl.val {k m:Nat} (hk:q<=k):s.val k m=true:=by
 rcases H with ⟨rfl,rfl⟩|⟨a,c,rfl,rfl⟩|⟨j,o,c,rfl,hj⟩
 ·rfl
 ·rfl
 ·simp only [S.val,R.val,decide_eq_true_eq]; omega
end
theorem IsArr.sl {α:Type} {c:α->List S} {h:List Blk} {s:S} {L:List α} (H:IsArr c h s L):IsSl h.length s L.length:=by
 rcases H with ⟨e0|⟨a,c',e0⟩,rfl⟩|⟨j,c',st,room,rfl,e,_⟩
 ·exact .inl ⟨e0,rfl⟩
 ·exact .inr (.inl ⟨a,c',e0,rfl⟩)
 ·exact .inr (.inr ⟨j,0,c',rfl,(List.getElem?_eq_some_iff.1 e).1⟩)
theorem IsArr.at {α:Type} {c:α->List S} {h:List Blk} {s:S} {L:List α} (H:IsArr c h s L) {i:Nat} (hi:i<L.length):∃ j c' st room,s=.sl (.g j) 0 L.length c'/\h[j]?=some ⟨st,arr c L,room⟩/\st≠.dead:=by
 rcases H with ⟨_,rfl⟩|⟨j,c',st,room,e,e1,e2⟩
 ·simp at hi
 ·exact ⟨j,c',st,room,e,e1,e2 (by omega)⟩
end Go.Proofs.YtcdfofeolgbnbaaGreat

/- The machine's memory: how it stands among the blocks. -/
namespace Go.Proofs.YtcdfofeolgbnbaaGreat
open Go.D
set_option linter.all false
set_option maxRecDepth 100000
set_option maxHeartbeats 4000000

def uw (x:Int):Int:=x%18446744073709551616
theorem uw_u (x:Int):u64 (uw x):=by simp only [u64,uw]; omega
theorem uw_of {x:Int} (h:u64 x):uw x=x:=by simp only [u64,uw] at *; omega
theorem u64_0:u64 0:=by simp only [u64]; omega

structure M where
 w:List Int
 n:Int
 u:∀ x,x∈w->u64 x
 l:w.length<=65536
theorem M.ext' {m k:M} (h1:m.w=k.w) (h2:m.n=k.n):m=k:=by
 cases m; cases k; simp only at h1 h2; subst h1; subst h2; rfl

def wc (w:List Int):List S:=w.map (S.i .u64)
theorem wc_len (w:List Int):(wc w).length=w.length:=by simp [wc]
theorem wc_get {w:List Int} {i:Nat} (h:i<w.length):(wc w)[i]?=some (.i .u64 (nth 0 w i)):=by
 simp only [wc,List.getElem?_map,nth_get (d:=0) h,Option.map_some]
theorem wc_set (w:List Int) (i:Nat) (x:Int):(wc w).set i (.i .u64 x)=wc (w.set i x):=by simp [wc,List.map_set]
theorem wc_all {p:S->Bool} (hp:∀ x,p (.i .u64 x)=true) (w:List Int):(wc w).all p=true:=by simp [wc,hp]
theorem wc_known (w:List Int):known (wc w)=true:=by unfold known; exact wc_all (fun _=>rfl) w
theorem wc_vals (n k:Nat) (w:List Int):vals n k (wc w)=true:=by unfold vals; exact wc_all (fun _=>rfl) w
theorem wc_takes (r:R) (n k:Nat) (w:List Int):(wc w).all (r.takes n k)=true:=wc_all (fun _=>by cases r<;>rfl) w
theorem wc_kept (k:List Nat) (w:List Int):(wc w).all (S.kept k)=true:=wc_all (fun _=>rfl) w
theorem wc_sub (w:List Int) (a k:Nat):sub (wc w) a k=wc ((w.drop a).take k):=by simp [wc,sub,List.map_take,List.map_drop]
theorem wc_snoc (v:List Int) (a:Int):wc (v++[a])=wc v++[.i .u64 a]:=by simp [wc]
theorem wc_nil:wc []=[]:=rfl
theorem wc_cons (x:Int) (w:List Int):wc (x::w)=.i .u64 x::wc w:=rfl
theorem wc_inj {v w:List Int} (h:wc v=wc w):v=w:=by
 induction v generalizing w with
 | nil=>cases w with
  | nil=>rfl
  | cons y w=>simp [wc] at h
 | cons x v ih=>cases w with
  | nil=>simp [wc] at h
  | cons y w =>
   simp only [wc,List.map_cons,List.cons.injEq,S.i.injEq,true_and] at h
   rw [h.1,ih h.2]
theorem wc_ren (ρ:R->R) (w:List Int):(wc w).map (S.ren ρ)=wc w:=by simp [wc,Function.comp_def,S.ren]
theorem wc_zeros (n:Nat):zeros [.i .u64 0] n=wc (List.replicate n 0):=by
 induction n with
 | zero=>rfl
 | succ n ih=>simp only [zeros,ih,List.replicate_succ,wc_cons,List.cons_append,List.nil_append]
theorem wc_map (w:List Int):w.map (S.i .u64)=wc w:=rfl

def M.at (m:M) (i:Int):Int:=nth 0 m.w i.toNat
theorem nth_mem {α:Type} {d:α} {l:List α} {i:Nat} (h:i<l.length):nth d l i∈l:=by rw [nth_eq h]; exact List.getElem_mem h
theorem nth_out {α:Type} {d:α}:∀ {l:List α} {i:Nat},l.length<=i->nth d l i=d
 | [],_,_=>rfl
 | _::_,0,h=>by simp at h
 | _::l,i+1,h=>nth_out (l:=l) (by simpa using h)
theorem M.at_u (m:M) (i:Int):u64 (m.at i):=by
 unfold M.at
 rcases Nat.lt_or_ge i.toNat m.w.length with h|h
 ·exact m.u _ (nth_mem h)
 ·rw [nth_out h]; exact u64_0

def M.put (m:M) (i:Nat) (x:Int):M:=⟨m.w.set i (uw x),m.n,fun y hy=>by
 rcases List.mem_or_eq_of_mem_set hy with h|h
 ·exact m.u y h
 ·subst h; exact uw_u x,by simpa using m.l⟩
def M.tick (m:M) (k:Int):M:=⟨m.w,IntKind.i64.wrap (m.n+k),m.u,m.l⟩
def M.fill (m:M) (a:Nat) (x:Int):Nat->M
 | 0=>m
 | k+1=>(M.fill m a x k).put (a+k) x
def M.lay (m:M) (o:Nat):List Int->M
 | []=>m
 | v::vs=>M.lay (m.put o v) (o+1) vs
def M.has (m:M) (a k:Int):Bool:=decide (0<=a/\0<=k/\a<=m.w.length/\k<=m.w.length-a)
theorem M.has_iff {m:M} {a k:Int}:m.has a k=true↔0<=a/\0<=k/\a<=m.w.length/\k<=m.w.length-a:=by simp [M.has]
theorem M.has_nat {m:M} {a k:Int} (h:m.has a k=true):∃ i j:Nat,a=i/\k=j/\i+j<=m.w.length:=by
 rw [M.has_iff] at h
 exact ⟨a.toNat,k.toNat,by omega,by omega,by omega⟩
theorem M.has_not {m:M} {a k:Int} (h:m.has a k=false):¬ (0<=a/\0<=k/\a<=m.w.length/\k<=m.w.length-a):=by simpa [M.has] using h

theorem M.put_len (m:M) (i:Nat) (x:Int):(m.put i x).w.length=m.w.length:=by simp [M.put]
theorem M.tick_len (m:M) (k:Int):(m.tick k).w.length=m.w.length:=rfl
theorem M.fill_len (m:M) (a:Nat) (x:Int):∀ k,(m.fill a x k).w.length=m.w.length
 | 0=>rfl
 | k+1=>by rw [M.fill,M.put_len,M.fill_len m a x k]
theorem M.lay_len:∀ (vs:List Int) (m:M) (o:Nat),(m.lay o vs).w.length=m.w.length
 | [],_,_=>rfl
 | v::vs,m,o=>by rw [M.lay,M.lay_len vs,M.put_len]
theorem M.put_has (m:M) (i:Nat) (x a k:Int):(m.put i x).has a k=m.has a k:=by simp only [M.has,M.put_len]
theorem M.tick_has (m:M) (j a k:Int):(m.tick j).has a k=m.has a k:=rfl
theorem M.put_n (m:M) (i:Nat) (x:Int):(m.put i x).n=m.n:=rfl
theorem M.fill_n (m:M) (a:Nat) (x:Int):∀ k,(m.fill a x k).n=m.n
 | 0=>rfl
 | k+1=>by rw [M.fill,M.put_n,M.fill_n m a x k]
theorem M.lay_n:∀ (vs:List Int) (m:M) (o:Nat),(m.lay o vs).n=m.n
 | [],_,_=>rfl
 | v::vs,m,o=>by rw [M.lay,M.lay_n vs,M.put_n]
theorem M.lay_w:∀ (vs:List Int) (m:M) (o:Nat),(∀ x,x∈vs->u64 x)->D.put (wc m.w) o (wc vs)=wc (m.lay o vs).w
 | [],_,_,_=>rfl
 | v::vs,m,o,hu=>by
  simp only [wc_cons,M.lay]
  rw [show D.put (wc m.w) o (S.i .u64 v::wc vs)=D.put ((wc m.w).set o (.i .u64 v)) (o+1) (wc vs) from rfl]
  rw [wc_set,show v=uw v from (uw_of (hu v (by simp))).symm]
  rw [show m.w.set o (uw v)=(m.put o v).w from rfl,M.lay_w vs (m.put o v) (o+1) (fun x hx=>hu x (by simp [hx]))]
  rw [<-show v=uw v from (uw_of (hu v (by simp))).symm]

/-! ### among the blocks -/
def MB (b:Nat) (m:M):Blk:=⟨.rw,[.sl (.g b) 0 m.w.length m.w.length, .i .i64 m.n],2⟩
def MW (m:M):Blk:=⟨.rw,wc m.w,m.w.length⟩
structure IsMem (h:List Blk) (a b:Nat) (m:M):Prop where
 ne:a≠b
 ha:h[a]?=some (MB b m)
 hb:h[b]?=some (MW m)
def setM (h:List Blk) (a b:Nat) (m:M):List Blk:=(h.set a (MB b m)).set b (MW m)

theorem IsMem.lta {h:List Blk} {a b:Nat} {m:M} (H:IsMem h a b m):a<h.length:=(List.getElem?_eq_some_iff.1 H.ha).1
theorem IsMem.ltb {h:List Blk} {a b:Nat} {m:M} (H:IsMem h a b m):b<h.length:=(List.getElem?_eq_some_iff.1 H.hb).1
theorem setM_len {h:List Blk} {a b:Nat} {m:M}:(setM h a b m).length=h.length:=by simp [setM]
theorem IsMem.set {h:List Blk} {a b:Nat} {m:M} (H:IsMem h a b m) (m':M):IsMem (setM h a b m') a b m':=by
 refine ⟨H.ne, ?_, ?_⟩
 ·simp only [setM]
  rw [List.getElem?_set_ne (Ne.symm H.ne),List.getElem?_set_self H.lta]
 ·simp only [setM]
  rw [List.getElem?_set_self (by simpa using H.ltb)]
theorem setM_set {h:List Blk} {a b:Nat} {m m':M} (ne:a≠b):setM (setM h a b m) a b m'=setM h a b m':=by
 simp only [setM]
 rw [List.set_comm _ _ ne,List.set_set,List.set_comm _ _ ne,List.set_set,List.set_comm _ _ (Ne.symm ne)]
theorem setM_self {h:List Blk} {a b:Nat} {m:M} (H:IsMem h a b m):setM h a b m=h:=by
 simp only [setM]
 rw [set_self H.ha,set_self H.hb]
theorem setM_fun {h:List Blk} {a b:Nat} {m m0:M} (H:IsMem h a b m0):setM (setM h a b m) a b=setM h a b:=funext fun m'=>setM_set H.ne
theorem IsMem.app {h X:List Blk} {a b:Nat} {m:M} (H:IsMem h a b m):IsMem (h++X) a b m :=
 ⟨H.ne,by rw [List.getElem?_append_left H.lta]; exact H.ha,by rw [List.getElem?_append_left H.ltb]; exact H.hb⟩
theorem setM_app {h X:List Blk} {a b:Nat} {m m':M} (H:IsMem h a b m):setM (h++X) a b m'=setM h a b m'++X:=by
 simp only [setM]
 rw [app_setl H.lta,app_setl (by simpa using H.ltb)]
theorem setM_words {h:List Blk} {a b:Nat} {m m':M} (H:IsMem h a b m) (hl:m'.w.length=m.w.length) (hn:m'.n=m.n):h.set b (MW m')=setM h a b m':=by
 simp only [setM]
 rw [show MB b m'=MB b m by simp only [MB,hl,hn],set_self H.ha]
theorem setM_steps {h:List Blk} {a b:Nat} {m m':M} (H:IsMem h a b m) (hw:m'.w=m.w):h.set a (MB b m')=setM h a b m':=by
 simp only [setM]
 rw [List.set_comm _ _ H.ne,show MW m'=MW m by simp only [MW,hw],set_self H.hb]
theorem IsMem.uniq {h:List Blk} {a b b':Nat} {m m':M} (H:IsMem h a b m) (H':IsMem h a b' m'):b=b'/\m=m':=by
 have h1:=H.ha.symm.trans H'.ha
 simp only [MB,Option.some.injEq,Blk.mk.injEq,List.cons.injEq,S.sl.injEq,R.g.injEq,S.i.injEq,true_and,and_true] at h1
 obtain ⟨⟨e,_,_⟩,e2⟩:=h1
 subst e
 have h2:=H.hb.symm.trans H'.hb
 simp only [MW,Option.some.injEq,Blk.mk.injEq,true_and] at h2
 exact ⟨rfl,M.ext' (wc_inj h2.1) e2⟩
theorem setM_clean {h:List Blk} {a b:Nat} {m m0:M} {n:Nat} (H:IsMem h a b m0) (hc:clean n h=true) (hn:b<n):clean n (setM h a b m)=true:=by
 refine clean_set (clean_set hc ?_) (wc_vals _ _ _)
 simp [MB,vals,S.val,R.val,hn]

open Classical in
noncomputable def memOf (h:List Blk) (a:Nat):Option (Nat×M):=if hx:∃ x:Nat×M,IsMem h a x.1 x.2 then some (Classical.choose hx) else none
theorem memOf_eq {h:List Blk} {a b:Nat} {m:M} (H:IsMem h a b m):memOf h a=some (b,m):=by
 have hx:∃ x:Nat×M,IsMem h a x.1 x.2:=⟨(b,m),H⟩
 unfold memOf
 rw [dif_pos hx]
 have:=IsMem.uniq (Classical.choose_spec hx) H
 rw [show Classical.choose hx=(b,m) from Prod.ext this.1 this.2]
theorem memOf_some {h:List Blk} {a b:Nat} {m:M} (e:memOf h a=some (b,m)):IsMem h a b m:=by
 unfold memOf at e
 split at e
 ·rename_i hx
  have:=Classical.choose_spec hx
  rw [Option.some.injEq] at e
  rw [e] at this
  exact this
 ·cases e

noncomputable def memF (f:Nat->M->(M->List Blk)->List V->Res):List V->List Blk->Res
 | .s (.p (.g a) 0)::rest,h=>match memOf h a with
  | some (b,m)=>f b m (setM h a b) rest
  | none=>.bad
 | _,_=>.bad
theorem memF_spec {f:Nat->M->(M->List Blk)->List V->Res} {args:List V} {h:List Blk} {K:V->List Blk->Prop} (hS:(memF f args h).spec K) :
  ∃ a b m rest,args=.s (.p (.g a) 0)::rest/\IsMem h a b m/\(f b m (setM h a b) rest).spec K:=by
 unfold memF at hS
 split at hS
 ·split at hS
  ·rename_i e
   exact ⟨_,_,_,_,rfl,memOf_some e,hS⟩
  ·exact hS.elim
 ·exact hS.elim
theorem memF_eq {f:Nat->M->(M->List Blk)->List V->Res} {h:List Blk} {a b:Nat} {m:M} {rest:List V} (H:IsMem h a b m):memF f (.s (.p (.g a) 0)::rest) h=f b m (setM h a b) rest:=by
 simp only [memF,memOf_eq H]
theorem memF_set {f:Nat->M->(M->List Blk)->List V->Res} {h:List Blk} {a b:Nat} {m m':M} {rest:List V} (H:IsMem h a b m):memF f (.s (.p (.g a) 0)::rest) (setM h a b m')=f b m' (setM h a b) rest:=by
 rw [memF_eq (H.set m'),setM_fun H]
theorem memF_app {f:Nat->M->(M->List Blk)->List V->Res} {h X:List Blk} {a b:Nat} {m m':M} {rest:List V} (H:IsMem h a b m):memF f (.s (.p (.g a) 0)::rest) (setM h a b m'++X)=f b m' (fun m=>setM h a b m++X) rest:=by
 rw [memF_eq ((H.set m').app),show setM (setM h a b m'++X) a b=fun m=>setM h a b m++X from funext fun k=>by rw [setM_app (H.set m'),setM_set H.ne]]
theorem memF_app0 {f:Nat->M->(M->List Blk)->List V->Res} {h X:List Blk} {a b:Nat} {m:M} {rest:List V} (H:IsMem h a b m):memF f (.s (.p (.g a) 0)::rest) (h++X)=f b m (fun m=>setM h a b m++X) rest:=by
 rw [memF_eq H.app,show setM (h++X) a b=fun m=>setM h a b m++X from funext fun k=>by rw [setM_app H]]

/-! ### new memories -/
def memH (h:List Blk) (m:M):List Blk:=h++[MB (h.length+1) m,MW m]
theorem memH_len {h:List Blk} {m:M}:(memH h m).length=h.length+2:=by simp [memH]
theorem memH_is (h:List Blk) (m:M):IsMem (memH h m) h.length (h.length+1) m:=by
 refine ⟨by omega, ?_, ?_⟩
 ·simp only [memH]; rw [app_get0]; rfl
 ·simp only [memH]; rw [app_getn]; rfl
theorem memH_set (h:List Blk) (m m':M):setM (memH h m) h.length (h.length+1) m'=memH h m':=by
 simp only [memH,setM]
 rw [app_set0,app_setn]; rfl
theorem memH_fun (h:List Blk) (m:M):setM (memH h m) h.length (h.length+1)=memH h:=funext (memH_set h m)
theorem memF_new {f:Nat->M->(M->List Blk)->List V->Res} {h:List Blk} {m:M} {rest:List V}:memF f (.s (.p (.g h.length) 0)::rest) (memH h m)=f (h.length+1) m (memH h) rest:=by
 rw [memF_eq (memH_is h m),memH_fun]
theorem memH_is1 (h:List Blk) (m k:M):IsMem (memH (memH h m) k) h.length (h.length+1) m:=(memH_is h m).app
theorem memH_is2 (h:List Blk) (m k:M):IsMem (memH (memH h m) k) (h.length+2) (h.length+3) k:=by
 have:=memH_is (memH h m) k
 rw [memH_len] at this
 exact this
theorem memH_set1 (h:List Blk) (m k m':M):setM (memH (memH h m) k) h.length (h.length+1) m'=memH (memH h m') k:=by
 show setM (memH h m++[MB ((memH h m).length+1) k,MW k]) _ _ _=_
 rw [setM_app (memH_is h m),memH_set]
 simp [memH]
theorem memH_set2 (h:List Blk) (m k m':M):setM (memH (memH h m) k) (h.length+2) (h.length+3) m'=memH (memH h m) m':=by
 have:=memH_set (memH h m) k m'
 rw [memH_len] at this
 exact this
end Go.Proofs.YtcdfofeolgbnbaaGreat

