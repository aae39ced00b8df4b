/- Soundness: code,functions. -/
import Derived.Test.YtcdfofeolgbnbaaGreatZ8
/- Soundness: code,functions. -/
namespace Go.D
set_option linter.all false
variable [Tabs]

def exOf:Exit->Option Ex
 | .normal=>some .nrm
 | .exit id=>if id<1000000 then some (.ext id) else none
 | .goto l=>some (.ext (goId l))
 | .ret=>some .ret
 | _=>none

def MkOk (σ0:Sg) (h0:List Blk) (w0 B':Base) (ds:List Deferred):Prop :=
 (∀ d,d∈ds->∃ D,d=markOf D/\B'.pt D/\B'.w.heap[D]?=some (.deferred (some []))/\(∀ k B,h0[k]?=some B->B.st=.rw->(σ0 (.g k)).1≠D)/\¬ w0.pt D)/\ds.Nodup
def HI (σ0:Sg) (h0:List Blk) (w0:Base) (σ:Sg) (h ls:List Blk) (w:World) (ds:List Deferred):Prop :=
 ∃ B':Base,Ext σ0 h0 w0 B'/\MkOk σ0 h0 w0 B' ds/\Inv σ0 h0 B' σ h ls w
def QB (σ0:Sg) (h0:List Blk) (w0:Base) (ds:List Deferred) (K:Ex->St->Prop):Exit->Act->World->Prop:=fun e a w =>
 match exOf e with
 | some x=>∃ (σ:Sg) (s:St),Inv σ0 h0 w0 σ s.h s.ls w/\TRel σ s.t a.tmps s.h.length s.ls.length/\a.defers=ds/\K x s
 | none=>False
def QK (σ0:Sg) (h0:List Blk) (w0:Base) (K:Ex->St->Prop):Exit->Act->World->Prop:=fun e a w =>
 match exOf e with
 | some x=>∃ (σ:Sg) (s:St),HI σ0 h0 w0 σ s.h s.ls w a.defers/\TRel σ s.t a.tmps s.h.length s.ls.length/\True/\K x s
 | none=>False
theorem QB.to {σ0:Sg} {h0:List Blk} {w0 B':Base} {ds:List Deferred} {K:Ex->St->Prop} {e:Exit} {a:Act} {w:World} (hE:Ext σ0 h0 w0 B') (hM:MkOk σ0 h0 w0 B' ds) (hq:QB σ0 h0 B' ds K e a w):QK σ0 h0 w0 K e a w:=by
 unfold QB at hq
 unfold QK
 cases hx:exOf e with
 | none=>rw [hx] at hq; exact hq.elim
 | some x =>
  rw [hx] at hq
  obtain ⟨σ,s,i1,i2,i3,i4⟩:=hq
  exact ⟨σ,s,⟨B',hE,by rw [i3]; exact hM,i1⟩,i2,trivial,i4⟩
theorem Wk.soundH {σ0:Sg} {h0:List Blk} {w0:Base} {ds:List Deferred} {s s':St} (W:Wk h0.length s s') {σ:Sg} {tm:Array Value} {w:World} (H:HI σ0 h0 w0 σ s.h s.ls w ds) (hT:TRel σ s.t tm s.h.length s.ls.length) :
  ∃ σ',HI σ0 h0 w0 σ' s'.h s'.ls w ds/\TRel σ' s'.t tm s'.h.length s'.ls.length:=by
 obtain ⟨B',h1,h2,h3⟩:=H
 obtain ⟨σ',i1,i2⟩:=W.sound h3 hT
 exact ⟨σ',⟨B',h1,h2,i1⟩,i2⟩

theorem QK.exit {σ0:Sg} {h0:List Blk} {w0:Base} {K K':Ex->St->Prop} {id:Nat} {a:Act} {w:World} (hk:∀ s,id<1000000->K (.ext id) s->K' (.ext id) s) (hq:QK σ0 h0 w0 K (.exit id) a w):QK σ0 h0 w0 K' (.exit id) a w:=by
 unfold QK at *
 by_cases h:id<1000000
 ·simp only [exOf,if_pos h] at *
  obtain ⟨σ,s,i1,i2,i3,i4⟩:=hq
  exact ⟨σ,s,i1,i2,i3,hk s h i4⟩
 ·simp only [exOf,if_neg h] at hq
theorem QK.noexit {σ0:Sg} {h0:List Blk} {w0:Base} {K:Ex->St->Prop} {id:Nat} {a:Act} {w:World} (hk:∀ s,¬ K (.ext id) s) (hq:QK σ0 h0 w0 K (.exit id) a w):False:=by
 have:=QK.exit (K':=fun _ _=>False) (fun s _ h=>hk s h) hq
 unfold QK at this
 split at this
 ·obtain ⟨_,_,_,_,_,h⟩:=this; exact h
 ·exact this

def LoopAt (P:Program) (c:Code) (Q:Exit->Act->World->Prop) (a:Act) (w:World):Prop :=
 ∀ (b:Frame) (k:List Item) (cs:List Frame),∃ e a' w',Q e a' w'/\Arrives P (lone (b.at a (.code c::.inLoop c::k)) cs w) b k cs e a' w'

theorem loop_of_at {P:Program} {c:Code} {Q:Exit->Act->World->Prop} {a:Act} {w:World} (h:LoopAt P c Q a w):(Code.loop c).wp P Q a w:=fun b k cs=>by
 obtain ⟨e,a',w',hq,harr⟩:=h b k cs
 exact ⟨e,a',w',hq, .of_steps (.one step_loop) harr⟩

theorem at_of_round {P:Program} {c:Code} {Q:Exit->Act->World->Prop} {a:Act} {w:World} (h:c.wp P (Exit.then (LoopAt P c Q) Q) a w):LoopAt P c Q a w:=fun b k cs=>by
 obtain ⟨e,a₁,w₁,hq,harr⟩:=h b (.inLoop c::k) cs
 cases e with
 | normal =>
  obtain ⟨e₂,a₂,w₂,hq₂,harr₂⟩:=hq b k cs
  exact ⟨e₂,a₂,w₂,hq₂, .of_steps (Steps.trans harr (.one step_inLoop)) harr₂⟩
 | exit id=>exact ⟨_,a₁,w₁,hq, .pass (x:=.inLoop c) rfl (fun _ _=>.inl (by simp)) harr⟩
 | goto l=>exact ⟨_,a₁,w₁,hq, .pass (x:=.inLoop c) rfl (fun _ _=>.inl (by simp)) harr⟩
 | ret=>exact ⟨_,a₁,w₁,hq, .pass (x:=.inLoop c) rfl (fun _ _=>.inl (by simp)) harr⟩
 | panic ch=>exact ⟨_,a₁,w₁,hq, .pass (x:=.inLoop c) rfl (fun _ _=>.inl (by simp)) harr⟩
 | outgrown=>exact ⟨_,a₁,w₁,hq, .pass (x:=.inLoop c) rfl (fun _ _=>.inl (by simp)) harr⟩

def ScopeAt (P:Program) (c rest:Code) (Q:Exit->Act->World->Prop) (a:Act) (w:World):Prop :=
 ∀ (b:Frame) (k:List Item) (cs:List Frame),∃ e a' w',Q e a' w'/\Arrives P (lone (b.at a (.code rest::.inScope c::k)) cs w) b k cs e a' w'

def jumpTo (l:Nat) (J:Act->World->Prop) (Q:Exit->Act->World->Prop):Exit->Act->World->Prop
 | .goto l',a,w=>if l'=l then J a w else Q (.goto l') a w
 | e,a,w=>Q e a w

theorem scope_jump {P:Program} {c:Code} {l:Nat} {m:Machine} {b:Frame} {k:List Item} {cs:List Frame} {e:Exit} {a:Act} {w:World} {J:Act->World->Prop} {Q:Exit->Act->World->Prop} {rest:Code} (hf:findLabel c l=some rest) (hn:∀ l',l'≠l->findLabel c l'=none)
  (hJ:∀ a w,J a w->ScopeAt P c rest Q a w) (hq:jumpTo l J Q e a w) (harr:Arrives P m b (.inScope c::k) cs e a w):∃ e a' w',Q e a' w'/\Arrives P m b k cs e a' w':=by
 have hg:gotoIn l (.inScope c::k)=some (.code rest::.inScope c::k):=by simp [gotoIn,hf]
 cases e with
 | normal=>exact ⟨.normal,a,w,hq,Steps.trans harr (.one step_inScope)⟩
 | exit id=>exact ⟨.exit id,a,w,hq,fun k' hk=>harr k' (by simp [exitTo,hk])⟩
 | goto l' =>
  unfold jumpTo at hq
  simp only at hq
  split at hq
  ·rename_i e; subst e
   obtain ⟨e₂,a₂,w₂,hq₂,harr₂⟩:=hJ a w hq b k cs
   exact ⟨e₂,a₂,w₂,hq₂, .of_steps (harr _ hg) harr₂⟩
  ·rename_i e
   exact ⟨.goto l',a,w,hq,fun k' hk=>harr k' (by simp [gotoIn,hn l' e,hk])⟩
 | ret=>exact ⟨_,a,w,hq,harr⟩
 | panic ch=>exact ⟨_,a,w,hq,harr⟩
 | outgrown=>exact ⟨_,a,w,hq,harr⟩

theorem scope_of {P:Program} {c:Code} {l:Nat} {a:Act} {w:World} {J:Act->World->Prop} {Q:Exit->Act->World->Prop} {rest:Code} (hf:findLabel c l=some rest) (hn:∀ l',l'≠l->findLabel c l'=none)
  (hJ:∀ a w,J a w->ScopeAt P c rest Q a w) (h:c.wp P (jumpTo l J Q) a w):(Code.scope c).wp P Q a w:=fun b k cs=>by
 obtain ⟨e,a₁,w₁,hq,harr⟩:=h b (.inScope c::k) cs
 obtain ⟨e₂,a₂,w₂,hq₂,harr₂⟩:=scope_jump hf hn hJ hq harr
 exact ⟨e₂,a₂,w₂,hq₂, .of_steps (.one step_scope) harr₂⟩

theorem scopeAt_of {P:Program} {c:Code} {l:Nat} {a:Act} {w:World} {J:Act->World->Prop} {Q:Exit->Act->World->Prop} {rest:Code} (hf:findLabel c l=some rest) (hn:∀ l',l'≠l->findLabel c l'=none)
  (hJ:∀ a w,J a w->ScopeAt P c rest Q a w) (h:rest.wp P (jumpTo l J Q) a w):ScopeAt P c rest Q a w:=fun b k cs=>by
 obtain ⟨e,a₁,w₁,hq,harr⟩:=h b (.inScope c::k) cs
 exact scope_jump hf hn hJ hq harr

theorem scope_plain {P:Program} {c:Code} {a:Act} {w:World} {Q:Exit->Act->World->Prop} (hn:∀ l',findLabel c l'=none) (h:c.wp P Q a w):(Code.scope c).wp P Q a w:=fun b k cs=>by
 obtain ⟨e,a₁,w₁,hq,harr⟩:=h b (.inScope c::k) cs
 cases e with
 | normal=>exact ⟨.normal,a₁,w₁,hq, .head step_scope (Steps.trans harr (.one step_inScope))⟩
 | exit id=>exact ⟨.exit id,a₁,w₁,hq,fun k' hk=>.head step_scope (harr k' (by simp [exitTo,hk]))⟩
 | goto l=>exact ⟨.goto l,a₁,w₁,hq,fun k' hk=>.head step_scope (harr k' (by simp [gotoIn,hn l,hk]))⟩
 | ret=>exact ⟨_,a₁,w₁,hq, .of_steps (.one step_scope) harr⟩
 | panic ch=>exact ⟨_,a₁,w₁,hq, .of_steps (.one step_scope) harr⟩
 | outgrown=>exact ⟨_,a₁,w₁,hq, .of_steps (.one step_scope) harr⟩

section
variable {P:Program} {Γ:FuncId->FSpec} {σ0:Sg} {h0:List Blk} {w0:Base}

theorem compGs_drop {ops:Array Oper}:∀ (n:Nat) (os:List Oper) (l:List GI),compGs P ops os=some l->compGs P ops (os.drop n)=some (l.drop n):=by
 intro n
 induction n with
 | zero=>intro os l h; simpa using h
 | succ n ih =>
  intro os l h
  cases os with
  | nil=>simp only [compGs,Option.some.injEq] at h; subst h; simp [compGs]
  | cons o os=>obtain ⟨g,l',rfl,_,h2⟩:=compGs_cons h; simpa using ih os l' h2

theorem still_quiet {l:List GI} (h:l.all (fun x=>x.op.still)=true):l.all (fun x=>x.op.quiet)=true:=by
 simp only [List.all_eq_true] at *
 intro x hx
 have:=h x hx
 unfold I.quiet
 split
 ·rfl
 ·exact this

theorem drawn_sound (hΓ:SndΓ P Γ) (hm:P.follows .mixedOrders=true) {id:Nat} {ops:Array Oper} {gl:List GI} (hg:compGs P ops ops.toList=some gl) {d:DC} (hc:compDr ops gl=some d) {s:St} {a:Act} {w:World} {σ:Sg} {K:Ex->St->Prop}
  (H:Inv σ0 h0 w0 σ s.h s.ls w) (hT:TRel σ s.t a.tmps s.h.length s.ls.length) {ds:List Deferred} (hd:a.defers=ds) (hK:dwp Γ h0.length d s K):(Code.region id ops true).wp P (QB σ0 h0 w0 ds K) a w:=by
 have quiet:gl.all (fun x=>x.op.quiet)=true->Region.lexB .any ops=true->dwp Γ h0.length (.drq gl) s K->(Code.region id ops true).wp P (QB σ0 h0 w0 ds K) a w:=fun hq hlex hK=>by
  simp only [dwp] at hK
  refine wp_region_quiet (C:=fun w=>Inv σ0 h0 w0 σ s.h s.ls w) hm hlex (H.drawn _) ?_
  exact rqwp_sound hΓ σ s.ls s.h ops.toList gl hg hq s.t a _ _ ⟨w,H⟩ hT hK (fun t' a' i1 i2 i3 w' hw'=>⟨σ,⟨t',s.ls,s.h⟩,hw',i1,by rw [i2,hd],i3⟩)
 unfold compDr at hc
 split at hc
 ·rename_i hq
  cases hc
  exact quiet (still_quiet hq.1) hq.2 hK
 ·split at hc
  ·rename_i hlex
   cases hc
   simp only [dwp] at hK
   have hops:ops=ops.toList.toArray:=by simp
   rw [hops]
   refine wp_region_still_tail (headLen gl) hm (by rw [<-hops]; exact hlex) ?_
   refine head_sound (Γ:=Γ) ops.toList gl (by rw [<-hops]; exact hg) (headLen gl) (Nat.le_refl _) σ s.t a s.ls s.h _ _ _ (H.drawn (w.drawn+1)) hT hK (fun t' a' i1 i2 i3=>?_)
   have hdrop:compGs P ops (ops.toList.drop (headLen gl))=some (gl.drop (headLen gl)):=compGs_drop _ _ _ hg
   exact rwp_sound hΓ _ _ (by rw [<-hops]; exact hdrop) σ t' a' s.ls s.h _ _ _ (H.drawn (w.drawn+1)) i1 i3 (fun σ' t2 ls' h' w' a2 j1 j2 j3 j4=>⟨σ',⟨t2,ls',h'⟩,j1,j2,by rw [j3,i2,hd],j4⟩)
  ·split at hc
   ·rename_i l hl
    have drm:∀ {d:DC},some (DC.drm l)=some d->dwp Γ h0.length d s K->(Code.region id ops true).wp P (QB σ0 h0 w0 ds K) a w:=fun hc hK=>by
     cases hc
     simp only [dwp] at hK
     exact drm_sound hΓ hm hg hl H hT hK (fun σ' t' ls' h' w' a' j1 j2 j3 j4=>⟨σ',⟨t',ls',h'⟩,j1,j2,by rw [j3,hd],j4⟩)
      (fun c a' w'=>by intro hh; unfold QB at hh; simp only [exOf] at hh)
    split at hc
    ·split at hc
     ·rename_i x hx
      cases hc
      simp only [dwp] at hK
      exact drx_sound hΓ hm hg hx H hT hK (fun σ' t' ls' h' w' a' j1 j2 j3 j4=>⟨σ',⟨t',ls',h'⟩,j1,j2,by rw [j3,hd],j4⟩)
       (fun c a' w'=>by intro hh; unfold QB at hh; simp only [exOf] at hh)
     ·exact drm hc hK
    ·exact drm hc hK
   ·split at hc
    ·rename_i hq
     cases hc
     exact quiet hq.1 hq.2 hK
    ·split at hc
     ·rename_i x hx
      have key:∀ {c:Bool} {x:XC},drxOfQ c ops gl=some x->some (DC.drx x)=some d->(Code.region id ops true).wp P (QB σ0 h0 w0 ds K) a w:=fun hx hc=>by
       cases hc
       simp only [dwp] at hK
       exact drx_sound hΓ hm hg hx H hT hK (fun σ' t' ls' h' w' a' j1 j2 j3 j4=>⟨σ',⟨t',ls',h'⟩,j1,j2,by rw [j3,hd],j4⟩)
        (fun c a' w'=>by intro hh; unfold QB at hh; simp only [exOf] at hh)
      split at hc
      ·split at hc
       ·rename_i y hy
        exact key hy hc
       ·exact key hx hc
      ·exact key hx hc
     ·cases hc

theorem compT_find {l:Nat}:∀ {c:Code} {r:DC},compT P l c=some r->∃ rest,findLabel c l=some rest
 | .seq a b,r,h=>by
  simp only [compT] at h
  simp only [findLabel]
  split at h
  ·rename_i x hx
   rw [hx]; exact ⟨_,rfl⟩
  ·rename_i hx
   rw [hx]
   exact compT_find h
 | .label l',r,h=>by
  simp only [compT] at h
  split at h
  ·rename_i e; exact ⟨.skip,by simp [findLabel,e]⟩
  ·cases h
 | .skip,_,h=>by simp [compT] at h
 | .region ..,_,h=>by simp [compT] at h
 | .cond ..,_,h=>by simp [compT] at h
 | .block ..,_,h=>by simp [compT] at h
 | .loop ..,_,h=>by simp [compT] at h
 | .rangeFunc ..,_,h=>by simp [compT] at h
 | .exit ..,_,h=>by simp [compT] at h
 | .scope ..,_,h=>by simp [compT] at h
 | .goto ..,_,h=>by simp [compT] at h
 | .ret,_,h=>by simp [compT] at h
 | .refuse ..,_,h=>by simp [compT] at h

mutual
theorem dwp_sound (hΓ:SndΓ P Γ) (hm:OkP P):∀ (c:Code) (d:DC),compC P c=some d->∀ (s:St) (a:Act) (w:World) (σ:Sg) (K:Ex->St->Prop),
  HI σ0 h0 w0 σ s.h s.ls w a.defers->TRel σ s.t a.tmps s.h.length s.ls.length->True->dwp Γ h0.length d s K->c.wp P (QK σ0 h0 w0 K) a w
 | .skip,d,hc,s,a,w, σ,K,H,hT,hd,hK=>by
  simp only [compC,Option.some.injEq] at hc; subst hc
  exact wp_skip ⟨σ,s,H,hT,hd,hK⟩
 | .region id ops false,d,hc,s,a,w, σ,K,H,hT,hd,hK=>by
  simp only [compC] at hc
  cases hg:compGs P ops ops.toList with
  | none=>simp [hg] at hc
  | some gl =>
   simp only [hg,Option.map_some,Option.some.injEq] at hc
   subst hc
   simp only [dwp] at hK
   obtain ⟨B',e1,e2,H⟩:=H
   exact wp_region_list (rwp_sound hΓ ops.toList gl hg σ s.t a s.ls s.h w _ _ H hT hK (fun σ' t' ls' h' w' a' i1 i2 i3 i4=>⟨σ',⟨t',ls',h'⟩,⟨B',e1,by rw [i3]; exact e2,i1⟩,i2,trivial,i4⟩))
 | .region id ops true,d,hc,s,a,w, σ,K,H,hT,hd,hK=>by
  simp only [compC] at hc
  cases hg:compGs P ops ops.toList with
  | none=>simp [hg] at hc
  | some gl =>
   simp only [hg] at hc
   obtain ⟨B',e1,e2,H⟩:=H
   exact wp_mono (drawn_sound hΓ hm.1 hg hc H hT rfl hK) fun e a w hq=>hq.to e1 e2
 | .seq x y,d,hc,s,a,w, σ,K,H,hT,hd,hK=>by
  simp only [compC] at hc
  split at hc
  ·rename_i d1 d2 h1 h2
   cases hc
   simp only [dwp] at hK
   refine wp_seq (wp_mono (dwp_sound hΓ hm x d1 h1 s a w σ _ H hT hd hK) ?_)
   rintro e a' w' hq
   by_cases he:∃ id,e=.exit id
   ·obtain ⟨id,rfl⟩:=he
    refine QK.exit ?_ hq
    intro _ _ h; exact h
   unfold QK at hq
   cases e<;>simp only [exOf] at hq
   case exit id=>exact absurd ⟨id,rfl⟩ he
   case normal =>
    obtain ⟨σ',s',i1,i2,i3,s2,iW,i4⟩:=hq
    obtain ⟨σ2,j1,j2⟩:=iW.soundH i1 i2
    exact dwp_sound hΓ hm y d2 h2 s2 a' w' σ2 K j1 j2 i3 i4
   all_goals exact hq
  ·cases hc
 | .cond c x y,d,hc,s,a,w, σ,K,H,hT,hd,hK=>by
  simp only [compC] at hc
  split at hc
  ·rename_i c' d1 d2 h0 h1 h2
   cases hc
   simp only [dwp] at hK
   obtain ⟨_,e2⟩:=ev_is hT h0
   split at hK
   ·rename_i q hq
    rw [hq] at e2
    have hv:=e2.eq (by simp)
    simp only [V.tr,S.tr] at hv
    refine wp_cond hv ?_
    cases q
    ·simp only [bcase,Bool.false_eq_true,if_false] at hK ⊢
     obtain ⟨s',hW,hK⟩:=hK
     obtain ⟨σ,H,hT⟩:=hW.soundH H hT
     exact dwp_sound hΓ hm y d2 h2 s' a w σ K H hT hd hK
    ·simp only [bcase,if_true] at hK ⊢
     obtain ⟨s',hW,hK⟩:=hK
     obtain ⟨σ,H,hT⟩:=hW.soundH H hT
     exact dwp_sound hΓ hm x d1 h1 s' a w σ K H hT hd hK
   ·exact hK.elim
  ·cases hc
 | .block id x,d,hc,s,a,w, σ,K,H,hT,hd,hK=>by
  simp only [compC] at hc
  split at hc
  rotate_left
  ·cases hc
  rename_i hid
  cases h1:compC P x with
  | none=>simp [h1] at hc
  | some d1 =>
   simp only [h1,Option.map_some,Option.some.injEq] at hc
   subst hc
   simp only [dwp] at hK
   refine wp_block (wp_mono (dwp_sound hΓ hm x d1 h1 s a w σ _ H hT hd hK) ?_)
   rintro e a' w' hq
   by_cases he:∃ j,e=.exit j
   ·obtain ⟨j,rfl⟩:=he
    simp only [Exit.inBlock]
    by_cases hj:j=id
    ·rw [if_pos hj]
     unfold QK at hq ⊢
     simp only [exOf,hj,if_pos hid] at hq ⊢
     obtain ⟨σ',s',i1,i2,i3,i4⟩:=hq
     exact ⟨σ',s',i1,i2,i3,i4⟩
    ·rw [if_neg hj]
     exact QK.exit (fun s _ h=>by simpa only [if_neg hj] using h) hq
   unfold QK at hq
   cases e<;>simp only [exOf] at hq
   case exit j=>exact absurd ⟨j,rfl⟩ he
   case goto l =>
    obtain ⟨σ',s',i1,i2,i3,i4⟩:=hq
    simp only [Exit.inBlock]
    rw [if_neg (by unfold goId; omega)] at i4
    exact ⟨σ',s',i1,i2,i3,i4⟩
   all_goals exact hq
 | .loop x,d,hc,s,a,w, σ,K,H,hT,hd,hK=>by
  simp only [compC] at hc
  cases h1:compC P x with
  | none=>simp [h1] at hc
  | some d1 =>
   simp only [h1,Option.map_some,Option.some.injEq] at hc
   subst hc
   simp only [dwp] at hK
   refine loop_of_at ?_
   refine hK (fun s=>∀ (a:Act) (w:World) (σ:Sg),HI σ0 h0 w0 σ s.h s.ls w a.defers->TRel σ s.t a.tmps s.h.length s.ls.length->True->LoopAt P x (QK σ0 h0 w0 K) a w) ?_ a w σ H hT hd
   intro s hs a w σ H hT hd
   obtain ⟨s,hW,hs⟩:=hs
   obtain ⟨σ,H,hT⟩:=hW.soundH H hT
   refine at_of_round (wp_mono (dwp_sound hΓ hm x d1 h1 s a w σ _ H hT hd hs) ?_)
   rintro e a' w' hq
   by_cases he:∃ id,e=.exit id
   ·obtain ⟨id,rfl⟩:=he
    refine QK.exit ?_ hq
    intro _ _ h; exact h
   unfold QK at hq
   cases e<;>simp only [exOf] at hq
   case exit id=>exact absurd ⟨id,rfl⟩ he
   case normal =>
    obtain ⟨σ',s',i1,i2,i3,i4⟩:=hq
    exact i4 a' w' σ' i1 i2 i3
   all_goals exact hq
 | .exit id,d,hc,s,a,w, σ,K,H,hT,hd,hK=>by
  simp only [compC] at hc
  split at hc
  ·rename_i hlt
   cases hc
   refine wp_exit ?_
   unfold QK
   simp only [exOf,if_pos hlt]
   exact ⟨σ,s,H,hT,hd,hK⟩
  ·cases hc
 | .label l,d,hc,s,a,w, σ,K,H,hT,hd,hK=>by
  simp only [compC,Option.some.injEq] at hc; subst hc
  exact wp_label ⟨σ,s,H,hT,hd,hK⟩
 | .goto l,d,hc,s,a,w, σ,K,H,hT,hd,hK=>by
  simp only [compC,Option.some.injEq] at hc; subst hc
  exact wp_goto ⟨σ,s,H,hT,hd,hK⟩
 | .scope x,d,hc,s,a,w, σ,K,H,hT,hd,hK=>by
  simp only [compC] at hc
  split at hc
  ·rename_i hl
   exact scope_plain (fun l'=>findLabel_not (by rw [hl]; simp)) (dwp_sound hΓ hm x d hc s a w σ K H hT hd hK)
  ·rename_i l hl
   split at hc
   ·rename_i d1 r h1 h2
    cases hc
    simp only [dwp] at hK
    obtain ⟨rest,hf⟩:=compT_find h2
    have hn:∀ l',l'≠l->findLabel x l'=none:=fun l' e=>findLabel_not (by rw [hl]; simpa using e)
    have ne:outId l≠goId l:=by unfold outId goId; omega
    -- what is behind the body,or behind the rest
    have hends:∀ (X:St->Prop) (J:Act->World->Prop),(∀ s,X s->∀ (a:Act) (w:World) (σ:Sg),HI σ0 h0 w0 σ s.h s.ls w a.defers->TRel σ s.t a.tmps s.h.length s.ls.length->True->J a w) ->
      ∀ (K3:Ex->St->Prop),(∀ s,K3 .nrm s->∃ s',Wk h0.length s s'/\K .nrm s')->(∀ s,K3 (.ext (goId l)) s->X s)->(∀ s j,j≠goId l->j≠outId l->K3 (.ext j) s->K (.ext j) s)->(∀ s,K3 .ret s->K .ret s) ->
      ∀ e a w,QK σ0 h0 w0 K3 e a w->jumpTo l J (QK σ0 h0 w0 K) e a w:=by
     intro X J hX K3 e1 e2 e3 e4 e a w hq
     by_cases he:∃ j,e=.exit j
     ·obtain ⟨j,rfl⟩:=he
      exact QK.exit (fun s hlt h=>e3 s j (by unfold goId; omega) (by unfold outId; omega) h) hq
     unfold QK at hq
     cases e<;>simp only [exOf] at hq
     case exit j=>exact absurd ⟨j,rfl⟩ he
     case normal =>
      obtain ⟨σ',s',i1,i2,i3,i4⟩:=hq
      obtain ⟨s2,W,k⟩:=e1 s' i4
      obtain ⟨σ2,j1,j2⟩:=W.soundH i1 i2
      exact ⟨σ2,s2,j1,j2,i3,k⟩
     case goto l' =>
      obtain ⟨σ',s',i1,i2,i3,i4⟩:=hq
      simp only [jumpTo]
      split
      ·rename_i e; subst e
       exact hX s' (e2 s' i4) a w σ' i1 i2 i3
      ·rename_i e
       exact ⟨σ',s',i1,i2,i3,e3 s' _ (by unfold goId; omega) (by unfold goId outId; omega) i4⟩
     case ret =>
      obtain ⟨σ',s',i1,i2,i3,i4⟩:=hq
      exact ⟨σ',s',i1,i2,i3,e4 s' i4⟩
    have hround:∀ (X:St->Prop) (s:St),X s->((∀ s,(∃ s',Wk h0.length s s'/\X s')->X s))->True:=fun _ _ _ _=>trivial
    refine scope_of (J:=fun a w=>ScopeAt P x rest (QK σ0 h0 w0 K) a w) hf hn (fun _ _ h=>h) (wp_mono (dwp_sound hΓ hm x d1 h1 s a w σ _ H hT hd hK) ?_)
    intro e a' w' hq
    refine hends (fun s=>∀ (a:Act) (w:World) (σ:Sg),HI σ0 h0 w0 σ s.h s.ls w a.defers->TRel σ s.t a.tmps s.h.length s.ls.length->True->ScopeAt P x rest (QK σ0 h0 w0 K) a w) _ (fun s h=>h) _ ?_ ?_ ?_ ?_ e a' w' hq
    ·rintro s ⟨s',W,h⟩
     simp only [if_neg ne,if_true] at h
     exact ⟨s',W,h⟩
    ·intro s h
     simp only [if_true] at h
     obtain ⟨s',W,h⟩:=h
     intro a w σ H hT hd
     obtain ⟨σ,H,hT⟩:=W.soundH H hT
     refine h (fun s=>∀ (a:Act) (w:World) (σ:Sg),HI σ0 h0 w0 σ s.h s.ls w a.defers->TRel σ s.t a.tmps s.h.length s.ls.length->True->ScopeAt P x rest (QK σ0 h0 w0 K) a w) ?_ a w σ H hT hd
     intro s hs a w σ H hT hd
     obtain ⟨s,hW,hs⟩:=hs
     obtain ⟨σ,H,hT⟩:=hW.soundH H hT
     refine scopeAt_of (J:=fun a w=>ScopeAt P x rest (QK σ0 h0 w0 K) a w) hf hn (fun _ _ h=>h) (wp_mono (rest_sound hΓ hm x l r h2 rest hf s a w σ _ H hT hd hs) ?_)
     intro e a' w' hq
     refine hends (fun s=>∀ (a:Act) (w:World) (σ:Sg),HI σ0 h0 w0 σ s.h s.ls w a.defers->TRel σ s.t a.tmps s.h.length s.ls.length->True->ScopeAt P x rest (QK σ0 h0 w0 K) a w) _ (fun s h=>h) _ ?_ ?_ ?_ ?_ e a' w' hq
     ·rintro s ⟨s',W,h⟩
      simp only [if_neg ne,if_true] at h
      exact ⟨s',W,h⟩
     ·intro s h
      simp only [if_true] at h
      exact h
     ·intro s j j1 j2 h
      simp only [if_neg j1,if_neg j2] at h
      exact h
     ·intro s h
      exact h
    ·intro s j j1 j2 h
     simp only [if_neg j1,if_neg j2] at h
     exact h
    ·intro s h
     exact h
   ·cases hc
  ·cases hc
 | .ret,d,hc,s,a,w, σ,K,H,hT,hd,hK=>by
  simp only [compC,Option.some.injEq] at hc; subst hc
  exact wp_ret ⟨σ,s,H,hT,hd,hK⟩
 | .rangeFunc g ps x y,d,hc,s,a,w, σ,K,H,hT,hd,hK=>by
  simp only [compC] at hc
  split at hc
  ·rename_i g' da db hg hca hcb
   cases hc
   simp only [dwp] at hK
   split at hK
   ·rename_i f cs hev
    obtain ⟨⟨hrw,hsa,hsb⟩,hK⟩:=hK
    rw [Array.length_toList] at hK
    obtain ⟨B',e1,e2,H⟩:=H
    refine rf_sound hm.2 hΓ hg hca hcb hsa hsb H hT hrw hev hK (fun p u h' σ' D w4 B2 hE hI hT2 hp hnp hD hno hpo hk=>?_)
    have hQ:HI σ0 h0 w0 σ' h' u.2 w4 (markOf D::a.defers):=by
     refine ⟨B2,e1.trans hE,⟨fun d hd=>?_, ?_⟩,hI⟩
     ·rcases List.mem_cons.1 hd with rfl|hd
      ·exact ⟨D,rfl,hp,hD,hno,fun e=>hnp (e1.pt D e)⟩
      ·obtain ⟨D',q1,q2,q3,q4,q5⟩:=e2.1 d hd
       exact ⟨D',q1,hE.pt D' q2,(hE.keep D' q2 q4).trans q3,q4,q5⟩
     ·refine List.nodup_cons.2 ⟨fun hd=>?_,e2.2⟩
      obtain ⟨D',q1,q2,_⟩:=e2.1 _ hd
      simp only [markOf,Deferred.mk.injEq,Target.collected.injEq,and_true] at q1
      exact hnp (q1 ▸ q2)
    cases p with
    | none=>exact ⟨σ',⟨u.1,u.2,h'⟩,hQ,hT2,trivial,hk⟩
    | some x =>
     cases x with
     | nrm=>exact ⟨σ',⟨u.1,u.2,h'⟩,hQ,hT2,trivial,hk⟩
     | ret=>exact ⟨σ',⟨u.1,u.2,h'⟩,hQ,hT2,trivial,hk⟩
     | ext id =>
      have hid:=hpo id rfl
      show QK σ0 h0 w0 K (.exit id) _ w4
      unfold QK
      simp only [exOf,if_pos hid]
      exact ⟨σ',⟨u.1,u.2,h'⟩,hQ,hT2,trivial,hk⟩
   ·exact hK.elim
  ·cases hc
 | .refuse _,d,hc,_,_,_,_,_,_,_,_,_=>by simp [compC] at hc
theorem rest_sound (hΓ:SndΓ P Γ) (hm:OkP P):∀ (c:Code) (l:Nat) (d:DC),compT P l c=some d->∀ rest,findLabel c l=some rest->∀ (s:St) (a:Act) (w:World) (σ:Sg) (K:Ex->St->Prop),
  HI σ0 h0 w0 σ s.h s.ls w a.defers->TRel σ s.t a.tmps s.h.length s.ls.length->True->dwp Γ h0.length d s K->rest.wp P (QK σ0 h0 w0 K) a w
 | .seq x y,l,d,hc,rest,hf,s,a,w, σ,K,H,hT,hd,hK=>by
  simp only [compT] at hc
  simp only [findLabel] at hf
  split at hc
  ·rename_i rx hx
   rw [hx] at hf
   simp only [Option.some.injEq] at hf
   subst hf
   split at hc
   ·rename_i r d2 ht h2
    cases hc
    simp only [dwp] at hK
    refine wp_seq (wp_mono (rest_sound hΓ hm x l r ht rx hx s a w σ _ H hT hd hK) ?_)
    rintro e a' w' hq
    by_cases he:∃ id,e=.exit id
    ·obtain ⟨id,rfl⟩:=he
     refine QK.exit ?_ hq
     intro _ _ h; exact h
    unfold QK at hq
    cases e<;>simp only [exOf] at hq
    case exit id=>exact absurd ⟨id,rfl⟩ he
    case normal =>
     obtain ⟨σ',s',i1,i2,i3,s2,iW,i4⟩:=hq
     obtain ⟨σ2,j1,j2⟩:=iW.soundH i1 i2
     exact dwp_sound hΓ hm y d2 h2 s2 a' w' σ2 K j1 j2 i3 i4
    all_goals exact hq
   ·cases hc
  ·rename_i hx
   rw [hx] at hf
   exact rest_sound hΓ hm y l d hc rest hf s a w σ K H hT hd hK
 | .label l',l,d,hc,rest,hf,s,a,w, σ,K,H,hT,hd,hK=>by
  simp only [compT] at hc
  simp only [findLabel] at hf
  split at hc
  ·rename_i e
   cases hc
   rw [if_pos (by simpa using e)] at hf
   cases hf
   exact wp_skip ⟨σ,s,H,hT,hd,hK⟩
  ·cases hc
 | .skip,_,_,h,_,_,_,_,_,_,_,_,_,_,_=>by simp [compT] at h
 | .region ..,_,_,h,_,_,_,_,_,_,_,_,_,_,_=>by simp [compT] at h
 | .cond ..,_,_,h,_,_,_,_,_,_,_,_,_,_,_=>by simp [compT] at h
 | .block ..,_,_,h,_,_,_,_,_,_,_,_,_,_,_=>by simp [compT] at h
 | .loop ..,_,_,h,_,_,_,_,_,_,_,_,_,_,_=>by simp [compT] at h
 | .rangeFunc ..,_,_,h,_,_,_,_,_,_,_,_,_,_,_=>by simp [compT] at h
 | .exit ..,_,_,h,_,_,_,_,_,_,_,_,_,_,_=>by simp [compT] at h
 | .scope ..,_,_,h,_,_,_,_,_,_,_,_,_,_,_=>by simp [compT] at h
 | .goto ..,_,_,h,_,_,_,_,_,_,_,_,_,_,_=>by simp [compT] at h
 | .ret,_,_,h,_,_,_,_,_,_,_,_,_,_,_=>by simp [compT] at h
 | .refuse ..,_,_,h,_,_,_,_,_,_,_,_,_,_,_=>by simp [compT] at h
end

theorem Inv.refl {σ:Sg} {h:List Blk} {w:World} (H:Sim σ h [] w) (G:Gl σ h w):Inv σ h w σ h [] w :=
 Inv.start rfl H G (fun x hx=>(G x hx).2.1) fun k B hb=>by simp at hb

/-! ### results -/
def runR (tmps:Array Value):ResultVar->Sem Value
 | .tmp t=>Pure.pure (tmps.getD t undef)
 | .cell ad t=>do loadVar t (<-asAddr (tmps.getD ad undef))

theorem rval_run {s:St} {σ:Sg} {a:Act} {w:World} (H:Sim σ s.h s.ls w) (hT:TRel σ s.t a.tmps s.h.length s.ls.length) {rv:ResultVar} {q:RV} {c:C} (hq:compR P [rv]=some [q]) (hc:rval s q=some c) (hk:c.known=true) :
  (runR a.tmps rv).run P w=.ok (c.tr σ) w/\c.val s.h.length s.ls.length=true:=by
 have hat:∀ i v,s.t.getD i (.tup [])=v->v≠.tup []->v≠.s .u->a.tmps.getD i undef=v.tr σ/\v.val s.h.length s.ls.length=true:=fun i v h hne hu=>by
  have hlt:i<s.t.length:=by
   rcases Nat.lt_or_ge i s.t.length with h'|h'
   ·exact h'
   ·rw [show s.t.getD i (.tup [])=.tup [] by simp [List.getD,List.getElem?_eq_none h']] at h; exact absurd h.symm hne
  have hi:s.t[i]?=some v:=by rw [<-h]; simp [List.getD,hlt]
  obtain ⟨h1,x,h2,h3⟩:=hT.at_ i v hi
  refine ⟨?_,h1⟩
  rw [Array.getD_eq_getD_getElem?,h2]
  exact h3.eq hu
 cases rv with
 | tmp t =>
  simp only [compR,Option.map_some,Option.some.injEq,List.cons.injEq,and_true] at hq
  subst hq
  simp only [rval] at hc
  split at hc
  ·rename_i x hx
   cases hc
   have hu:(V.s x)≠.s .u:=by intro e; cases e; simp [C.known] at hk
   have:=hat t _ hx (by simp) hu
   exact ⟨by simp only [runR,Sem.run_pure,this.1]; rfl,this.2⟩
  ·rename_i xs hx
   cases hc
   have:=hat t _ hx (by simp) (by simp)
   exact ⟨by simp only [runR,Sem.run_pure,this.1]; rfl,this.2⟩
  ·cases hc
 | cell ad T =>
  simp only [compR] at hq
  split at hq
  ·rename_i n l hn hl
   simp only [Option.some.injEq,List.cons.injEq] at hq
   obtain ⟨rfl,_⟩:=hq
   simp only [rval] at hc
   split at hc
   ·rename_i r o hx
    have hp:=hat ad _ hx (by simp) (by simp)
    simp only [V.tr,S.tr] at hp
    split at hc
    ·rename_i B hB
     split at hc
     ·cases hc
     ·rename_i hd
      split at hc
      ·cases hs:B.cells[o]? with
       | none=>simp [hs] at hc
       | some x =>
        simp only [hs,Option.map_some,Option.some.injEq] at hc
        subst hc
        have hu:x≠.u:=by rintro rfl; simp [C.known] at hk
        have hcell:=H.cell hB hd hs hu
        refine ⟨?_,vals_get (H.bval hB) hs⟩
        simp [runR,asAddr,hp.1,loadVar,run_isAgg_none w hn,hcell,C.tr]
      ·split at hc
       ·rename_i n hlen
        cases hc
        have:=run_loadCells_sub (P:=P) H hB hd hlen hk
        refine ⟨?_,vals_sub (H.bval hB)⟩
        simp [runR,asAddr,hp.1,loadVar,run_isAgg_some w hn,this,C.tr]
       ·cases hc
    ·cases hc
   ·cases hc
  ·cases hq

theorem rvals_run {s:St} {σ:Sg} {a:Act} {w:World} (H:Sim σ s.h s.ls w) (hT:TRel σ s.t a.tmps s.h.length s.ls.length):∀ {rvs:List ResultVar} {qs:List RV} {cs:List C},compR P rvs=some qs->rvals s qs=some cs->cs.all C.known=true ->
  (rvs.mapM (runR a.tmps)).run P w=.ok (cs.map (C.tr σ)) w/\cs.all (C.val s.h.length s.ls.length)=true
 | [],qs,cs,hq,hc,_=>by
  simp only [compR,Option.some.injEq] at hq; subst hq
  simp only [rvals,Option.some.injEq] at hc; subst hc
  exact ⟨by simp,rfl⟩
 | rv::rvs,qs,cs,hq,hc,hk=>by
  have hsplit:∃ q l,qs=q::l/\compR P [rv]=some [q]/\compR P rvs=some l:=by
   cases rv with
   | tmp t =>
    simp only [compR] at hq
    cases h1:compR P rvs with
    | none=>simp [h1] at hq
    | some l=>simp only [h1,Option.map_some,Option.some.injEq] at hq; exact ⟨_,l,hq.symm,by simp [compR],rfl⟩
   | cell ad T =>
    simp only [compR] at hq
    split at hq
    ·rename_i n l h1 h2; cases hq; exact ⟨_,l,rfl,by simp [compR,h1],h2⟩
    ·cases hq
  obtain ⟨q,l,rfl,h1,h2⟩:=hsplit
  simp only [rvals] at hc
  split at hc
  ·rename_i c cs' hc1 hc2
   cases hc
   simp only [List.all_cons,Bool.and_eq_true] at hk
   obtain ⟨i1,i2⟩:=rval_run H hT h1 hc1 hk.1
   obtain ⟨j1,j2⟩:=rvals_run H hT h2 hc2 hk.2
   refine ⟨?_,by simp [i2,j2]⟩
   rw [List.mapM_cons]
   simp only [Sem.run_bind,Sem.run_pure,List.map_cons]
   rw [i1]
   simp only [Result.andThen_ok,j1]
  ·cases hc

theorem result_tr (σ:Sg) (cs:List C):(result cs).tr σ=(if h:(cs.map (C.tr σ)).toArray.size=1 then (cs.map (C.tr σ)).toArray[0] else .tuple (cs.map (C.tr σ)).toArray):=by
 match cs with
 | []=>simp [result,V.tr]
 | [c]=>simp [result]; cases c<;>rfl
 | c::d::r=>simp [result,V.tr]

theorem result_val {n m:Nat} {cs:List C} (h:cs.all (C.val n m)=true):(result cs).val n m=true:=by
 match cs with
 | []=>rfl
 | [c]=>simp only [List.all_cons,List.all_nil,Bool.and_true] at h; cases c<;>exact h
 | c::d::r=>exact h

theorem result_known {cs:List C} (h:(result cs).known=true):cs.all C.known=true:=by
 match cs with
 | []=>rfl
 | [c] =>
  simp only [List.all_cons,List.all_nil,Bool.and_true]
  cases c with
  | s x=>cases x<;>first|rfl|exact h
  | agg xs=>exact h
 | c::d::r=>exact h

theorem results_run {fn:Func} {s:St} {σ:Sg} {a:Act} {w:World} {qs:List RV} {cs:List C} (H:Sim σ s.h s.ls w) (hT:TRel σ s.t a.tmps s.h.length s.ls.length) (hq:compR P fn.results.toList=some qs) (hc:rvals s qs=some cs) (hk:(result cs).known=true) :
  (results fn a.tmps).run P w=.ok ((result cs).tr σ) w/\(result cs).val s.h.length s.ls.length=true:=by
 obtain ⟨h1,h2⟩:=rvals_run H hT hq hc (result_known hk)
 refine ⟨?_,result_val h2⟩
 have hres:results fn a.tmps=(do let vs <-fn.results.mapM (runR a.tmps); Pure.pure (if h:vs.size=1 then vs[0] else .tuple vs)):=by
  unfold results
  congr 1
 have harr:(fn.results.mapM (runR a.tmps)).run P w=.ok (cs.map (C.tr σ)).toArray w:=by
  rw [Array.mapM_eq_mapM_toList]
  simp only [Sem.run_map,h1,Result.andThen_ok]
 rw [hres]
 simp only [Sem.run_bind,harr,Result.andThen_ok,Sem.run_pure,result_tr]

def keptS (σ:Sg) (n:Nat) (keep:List Nat):Sg:=fun r=>match r with
 | .g k=>if k<n then σ (.g k) else σ (.l (keep.getD (k-n) 0))
 | .l k=>σ (.l k)

theorem idxOf_get {keep:List Nat} {k:Nat} (h:keep.contains k=true):keep.idxOf k<keep.length/\keep[keep.idxOf k]?=some k:=by
 have hm:k∈keep:=by simpa using h
 have hl:=List.idxOf_lt_length_iff.2 hm
 exact ⟨hl,by rw [List.getElem?_eq_getElem hl,List.getElem_idxOf hl]⟩

theorem getAll_get {ls:List Blk}:∀ {keep:List Nat} {l:List Blk},getAll ls keep=some l->l.length=keep.length/\∀ (j:Nat) (B:Blk),l[j]?=some B->∃ k,keep[j]?=some k/\ls[k]?=some B
 | [],l,h=>by simp only [getAll,Option.some.injEq] at h; subst h; exact ⟨rfl,fun j B hb=>by simp at hb⟩
 | k::ks,l,h=>by
  simp only [getAll] at h
  split at h
  ·rename_i B l' h1 h2
   cases h
   obtain ⟨i1,i2⟩:=getAll_get h2
   refine ⟨by simp [i1],fun j X hX=>?_⟩
   cases j with
   | zero=>simp only [List.getElem?_cons_zero,Option.some.injEq] at hX; subst hX; exact ⟨k,rfl,h1⟩
   | succ j=>simp only [List.getElem?_cons_succ] at hX ⊢; exact i2 j X hX
  ·cases h

theorem prom_place {σ:Sg} {n m:Nat} {keep:List Nat} {r:R} (hv:r.val n m=true) (hk:r.kept keep=true):keptS σ n keep (r.prom n keep)=σ r/\(r.prom n keep).val (n+keep.length) 0=true:=by
 cases r with
 | g k=>simp only [R.val,decide_eq_true_eq] at hv; exact ⟨by simp [R.prom,keptS,hv],by simp only [R.prom,R.val,decide_eq_true_eq]; omega⟩
 | l k =>
  obtain ⟨h1,h2⟩:=idxOf_get (by simpa [R.kept] using hk)
  refine ⟨?_,by simp only [R.prom,R.val,decide_eq_true_eq]; omega⟩
  simp only [R.prom,keptS,if_neg (by omega:¬ n+keep.idxOf k<n)]
  congr 2
  rw [show n+keep.idxOf k-n=keep.idxOf k by omega,List.getD,h2]; rfl

theorem S.prom_tr {σ:Sg} {n m:Nat} {keep:List Nat} {s:S} (hv:s.val n m=true) (hk:s.kept keep=true):(s.ren (R.prom n keep)).tr (keptS σ n keep)=s.tr σ/\(s.ren (R.prom n keep)).val (n+keep.length) 0=true:=by
 cases s with
 | p r o=>have:=prom_place (σ:=σ) hv hk; exact ⟨by simp [S.ren,S.tr,adr,this.1],this.2⟩
 | sl r o a c=>have:=prom_place (σ:=σ) hv hk; exact ⟨by simp [S.ren,S.tr,adr,this.1],this.2⟩
 | fn f cs =>
  simp only [S.val,S.kept,List.all_eq_true] at hv hk
  refine ⟨?_, ?_⟩
  ·simp only [S.ren,S.tr,List.map_map]
   congr 2
   refine List.map_congr_left fun x hx=>?_
   simp only [Function.comp,adr,(prom_place (σ:=σ) (hv x hx) (hk x hx)).1]
  ·simp only [S.ren,S.val,List.all_map,List.all_eq_true]
   exact fun x hx=>(prom_place (σ:=σ) (hv x hx) (hk x hx)).2
 | _=>exact ⟨rfl,rfl⟩

theorem trs_prom {σ:Sg} {n m:Nat} {keep:List Nat} {xs:List S} (hv:vals n m xs=true) (hk:xs.all (S.kept keep)=true):trs (keptS σ n keep) (xs.map (S.ren (R.prom n keep)))=trs σ xs/\vals (n+keep.length) 0 (xs.map (S.ren (R.prom n keep)))=true:=by
 simp only [vals,List.all_eq_true] at hv hk
 refine ⟨?_, ?_⟩
 ·simp only [trs,List.map_map]; congr 1
  exact List.map_congr_left fun x hx=>(S.prom_tr (hv x hx) (hk x hx)).1
 ·simp only [vals,List.all_map,List.all_eq_true]
  exact fun x hx=>(S.prom_tr (σ:=σ) (hv x hx) (hk x hx)).2

theorem C.prom_tr {σ:Sg} {n m:Nat} {keep:List Nat} {c:C} (hv:c.val n m=true) (hk:c.kept keep=true):(c.ren (R.prom n keep)).tr (keptS σ n keep)=c.tr σ/\(c.ren (R.prom n keep)).val (n+keep.length) 0=true:=by
 cases c with
 | s x=>exact S.prom_tr hv hk
 | agg xs=>have:=trs_prom (σ:=σ) hv hk; exact ⟨by simp [C.ren,C.tr,this.1],this.2⟩

theorem V.prom_tr {σ:Sg} {n m:Nat} {keep:List Nat} {v:V} (hv:v.val n m=true) (hk:v.kept keep=true):(v.ren (R.prom n keep)).tr (keptS σ n keep)=v.tr σ/\(v.ren (R.prom n keep)).val (n+keep.length) 0=true:=by
 cases v with
 | s x=>exact S.prom_tr hv hk
 | agg xs=>have:=trs_prom (σ:=σ) hv hk; exact ⟨by simp [V.ren,V.tr,this.1],this.2⟩
 | tup cs =>
  simp only [V.val,V.kept,List.all_eq_true] at hv hk
  refine ⟨?_, ?_⟩
  ·simp only [V.ren,V.tr,List.map_map]; congr 2
   exact List.map_congr_left fun x hx=>(C.prom_tr (hv x hx) (hk x hx)).1
  ·simp only [V.ren,V.val,List.all_map,List.all_eq_true]
   exact fun x hx=>(C.prom_tr (σ:=σ) (hv x hx) (hk x hx)).2

theorem Inv.promote {σ:Sg} {h ls:List Blk} {w:World} (H:Inv σ0 h0 w0 σ h ls w) {keep:List Nat} {l:List Blk} (hnd:keep.Nodup) (hl:getAll ls keep=some l) (hall:l.all (fun B=>decide (B.st=.rw)&&B.cells.all (S.kept keep))=true):Inv σ0 h0 w0 (keptS σ h.length keep) (h++l.map (Blk.ren (R.prom h.length keep))) [] w:=by
 obtain ⟨hlen,hget⟩:=getAll_get hl
 have hkept:l.all (fun B=>B.cells.all (S.kept keep))=true:=by
  simp only [List.all_eq_true,Bool.and_eq_true] at hall ⊢; exact fun B hB=>(hall B hB).2
 have hown:∀ k B,B∈l->ls[k]?=some B->¬ w0.pt (σ (.l k)).1:=fun k B hB hk=>by
  have hrw:B.st=.rw:=by
   rw [List.all_eq_true] at hall
   have:=hall B hB
   simp only [Bool.and_eq_true,decide_eq_true_eq] at this; exact this.1
  rcases H.mine (.l k) B hk hrw with ⟨_,_,e,_⟩|h2
  ·cases e
  ·exact h2
 have hsz:(h++l.map (Blk.ren (R.prom h.length keep))).length=h.length+keep.length:=by simp [hlen]
 have hcase:∀ k B,(h++l.map (Blk.ren (R.prom h.length keep)))[k]?=some B->(k<h.length/\h[k]?=some B)\/(h.length<=k/\∃ B0 j,l[k-h.length]?=some B0/\keep[k-h.length]?=some j/\ls[j]?=some B0/\B=B0.ren (R.prom h.length keep)):=fun k B hb=>by
  by_cases hk:k<h.length
  ·rw [List.getElem?_append_left hk] at hb; exact .inl ⟨hk,hb⟩
  ·rw [List.getElem?_append_right (by omega),List.getElem?_map] at hb
   cases hB:l[k-h.length]? with
   | none=>simp [hB] at hb
   | some B0 =>
    simp only [hB,Option.map_some,Option.some.injEq] at hb
    obtain ⟨j,hj1,hj2⟩:=hget _ _ hB
    exact .inr ⟨by omega,B0,j,rfl,hj1,hj2,hb.symm⟩
 have hplace:∀ k j,h.length<=k->keep[k-h.length]?=some j->keptS σ h.length keep (.g k)=σ (.l j):=fun k j hk hj=>by
  simp only [keptS,if_neg (by omega:¬ k<h.length),List.getD,hj]; rfl
 have hgl:∀ k,k<h.length->keptS σ h.length keep (.g k)=σ (.g k):=fun k hk=>by simp [keptS,hk]
 refine ⟨⟨fun r B hb=>?_,fun r r' B B' hb hb' hne hst hd=>?_,fun B hB=>?_,fun B hB=>by cases hB⟩,H.kept,by rw [hsz]; have:=H.len; omega,fun k hk=>?_,fun r B hb hst=>?_,fun k X hk hX hd=>?_,fun k B0 B hk0 hk hd=>?_,H.gl⟩
 ·cases r with
  | l k=>simp [blk] at hb
  | g k =>
   rcases hcase k B hb with ⟨hk,hb2⟩|⟨hk,B0,j,h1,h2,h3,rfl⟩
   ·have hv:=H.sim.gval B (List.mem_of_getElem? hb2)
    refine (H.sim.ok (.g k) B hb2).move (n:=h.length) (m:=0) (hgl k hk) (fun r hr=>?_) hv (Nat.le_refl _) (fun _=>rfl)
    cases r with
    | g i=>exact hgl i (by simpa [R.val] using hr)
    | l i=>simp [R.val] at hr
   ·refine (H.sim.ok (.l j) B0 h3).ren (hplace k j hk h2) (fun s hs=>?_)
    have hv:=H.sim.lval B0 (List.mem_of_getElem? h3)
    simp only [vals,List.all_eq_true] at hv hkept
    exact (S.prom_tr (hv s hs) (hkept B0 (List.mem_of_getElem? h1) s hs)).1
 ·cases r with
  | l k=>simp [blk] at hb
  | g k =>
   cases r' with
   | l k'=>simp [blk] at hb'
   | g k' =>
    have hkk:k≠k':=fun e=>hne (by rw [e])
    rcases hcase k B hb with ⟨hk,hb2⟩|⟨hk,B0,j,h1,h2,h3,rfl⟩<;>rcases hcase k' B' hb' with ⟨hk',hb2'⟩|⟨hk',B0',j',h1',h2',h3',rfl⟩
    ·rw [hgl k hk,hgl k' hk']; exact H.sim.sep (.g k) (.g k') B B' hb2 hb2' hne hst hd
    ·rw [hgl k hk,hplace k' j' hk' h2']; exact H.sim.sep (.g k) (.l j') B B0' hb2 h3' (by simp) hst hd
    ·rw [hplace k j hk h2,hgl k' hk']; exact H.sim.sep (.l j) (.g k') B0 B' h3 hb2' (by simp) hst hd
    ·rw [hplace k j hk h2,hplace k' j' hk' h2']
     refine H.sim.sep (.l j) (.l j') B0 B0' h3 h3' ?_ hst hd
     intro e
     cases e
     have a1:=List.getElem?_eq_some_iff.1 h2
     have a2:=List.getElem?_eq_some_iff.1 h2'
     obtain ⟨l1,e1⟩:=a1
     obtain ⟨l2,e2⟩:=a2
     have hinj:k-h.length=k'-h.length:=by
      rcases Nat.lt_trichotomy (k-h.length) (k'-h.length) with hlt|heq|hgt
      ·exact absurd (e1.trans e2.symm) (List.pairwise_iff_getElem.1 hnd _ _ l1 l2 hlt)
      ·exact heq
      ·exact absurd (e2.trans e1.symm) (List.pairwise_iff_getElem.1 hnd _ _ l2 l1 hgt)
     omega
 ·rw [hsz]
  rcases List.mem_append.1 hB with h1|h1
  ·exact vals_mono (by omega) (Nat.le_refl _) (H.sim.gval B h1)
  ·obtain ⟨B0,hB0,rfl⟩:=List.mem_map.1 h1
   obtain ⟨j,hj⟩:=List.mem_iff_getElem?.1 hB0
   obtain ⟨k,_,hk⟩:=hget j B0 hj
   have hv:=H.sim.lval B0 (List.mem_of_getElem? hk)
   simp only [List.all_eq_true] at hkept
   exact (trs_prom (σ:=σ) hv (by simp only [List.all_eq_true]; exact hkept B0 hB0)).2
 ·rw [hgl k (by have:=H.len; omega)]; exact H.old k hk
 ·cases r with
  | l k=>simp [blk] at hb
  | g k =>
   rcases hcase k B hb with ⟨hk,hb2⟩|⟨hk,B0,j,h1,h2,h3,rfl⟩
   ·rw [hgl k hk]; exact H.mine (.g k) B hb2 hst
   ·right; rw [hplace k j hk h2]; exact hown j B0 (List.mem_of_getElem? h1) h3
 ·rcases hcase k X hX with ⟨hkh,hb2⟩|⟨hkh,B0,j,h1,h2,h3,rfl⟩
  ·rw [hgl k hkh]; exact H.new k X hk hb2 hd
  ·rw [hplace k j hkh h2]; exact hown j B0 (List.mem_of_getElem? h1) h3
 ·have hk0l:k<h0.length:=(List.getElem?_eq_some_iff.1 hk0).1
  rw [List.getElem?_append_left (by have:=H.len; omega)] at hk
  exact H.live k B0 B hk0 hk hd

theorem Wk.temps {n0:Nat} {s s':St} (W:Wk n0 s s'):s'.t.length=s.t.length/\∀ (i:Nat) (v':V),s'.t[i]?=some v'->v'.known=true->∃ v,s.t[i]?=some v/\v.known=true:=by
 induction W with
 | refl=>exact ⟨rfl,fun i v' h hk=>⟨v',h,hk⟩⟩
 | by_ ρ W =>
  refine ⟨W.size,fun i v' h hk=>?_⟩
  rcases (W.temps i v' h).2 with rfl|e
  ·simp [V.known] at hk
  ·exact ⟨_,e,by rw [V.known_ren]; exact hk⟩
 | less ht =>
  refine ⟨(leT_get ht).1,fun i v' h hk=>?_⟩
  rcases (leT_get ht).2 i v' h with rfl|e
  ·simp [V.known] at hk
  ·exact ⟨_,e,hk⟩
 | cut junk ht hb hl =>
  refine ⟨(leT_get ht).1,fun i v' h hk=>?_⟩
  rcases (leT_get ht).2 i v' h with rfl|e
  ·simp [V.known] at hk
  ·exact ⟨_,e,hk⟩
 | trans _ _ ih1 ih2 =>
  refine ⟨ih2.1.trans ih1.1,fun i v' h hk=>?_⟩
  obtain ⟨v,e,hv⟩:=ih2.2 i v' h hk
  exact ih1.2 i v e hv

theorem Wk.known {n0:Nat} {v0 v:V} {ls h ls' h':List Blk} (W:Wk n0 ⟨[v0],ls,h⟩ ⟨[v],ls',h'⟩) (hk:v.known=true):v0.known=true:=by
 obtain ⟨v1,e,hv⟩:=W.temps.2 0 v rfl hk
 simp only [List.getElem?_cons_zero,Option.some.injEq] at e
 rw [e]; exact hv

theorem leaves_marks {fn:Func} {tm:Array Value} {R:Ending->World->Prop}:∀ (ds:List Deferred) (w:World) (σ:Sg) (h ls:List Blk),Inv σ0 h0 w0 σ h ls w->(∀ d,d∈ds->∃ D,d=markOf D/\¬ w0.pt D/\w.heap[D]?=some (.deferred (some [])))->ds.Nodup ->
  (∀ w',Inv σ0 h0 w0 σ h ls w'->∃ v,(results fn tm).run P w'=.ok v w'/\R (.returned v) w')->LeavesInM Fence.wide 0 P fn tm R ds .returning w
 | [],w, σ,h,ls,H,_,_,hR=>hR w H
 | d::ds,w, σ,h,ls,H,hd,hn,hR=>by
  obtain ⟨D,rfl,h1,h2⟩:=hd d List.mem_cons_self
  obtain ⟨n1,n2⟩:=List.nodup_cons.1 hn
  refine ⟨by simp, .inl ⟨D,_,rfl,run_takeDeferred h2, ?_⟩⟩
  refine leaves_marks ds _ σ h ls (H.putDefd none h2 h1) (fun d hd2=>?_) n2 hR
  obtain ⟨D',q1,q2,q3⟩:=hd d (List.mem_cons_of_mem _ hd2)
  refine ⟨D',q1,q2, ?_⟩
  have hne:D'≠D:=fun e=>n1 (by rw [<-e,<-q1]; exact hd2)
  rw [World.putObj_heap_other hne]
  exact q3

theorem fwp_sound (hΓ:SndΓ P Γ) (hm:OkP P) {f:FuncId} {fn:Func} {F:DF} (hf:P.funcs[f]?=some fn) (hF:compF P fn=some F):Snd P f (fwp Γ F):=by
 intro σ h w args K hS hG hav hak hK
 unfold compF at hF
 split at hF
 ·rename_i c hb
  split at hF
  ·rename_i d r hd hr
   cases hF
   obtain ⟨Kf,hKf,s0,hW0,hK⟩:=hK
   have hT0:TRel σ (args++List.replicate (fn.ntmps-args.length) (.tup [])) ((args.map (V.tr σ)).toArray++Array.replicate (fn.ntmps-(args.map (V.tr σ)).toArray.size) undef) h.length 0:=by
    refine ⟨by simp,fun i v hi=>?_⟩
    by_cases hlt:i<args.length
    ·rw [List.getElem?_append_left hlt] at hi
     simp only [List.all_eq_true] at hav
     refine ⟨hav v (List.mem_of_getElem? hi),v.tr σ, ?_, .inr rfl⟩
     rw [Array.getElem?_append_left (by simpa using hlt)]
     simp [hi]
    ·rw [List.getElem?_append_right (by omega),List.getElem?_replicate] at hi
     split at hi
     ·rename_i hlt2
      cases hi
      refine ⟨rfl,undef, ?_, .inr rfl⟩
      rw [Array.getElem?_append_right (by simp; omega)]
      simp [hlt2]
     ·cases hi
   obtain ⟨σ1,H1,hT1⟩:=hW0.sound (σ0:=σ) (h0:=h) (w0:=w) (Inv.refl hS hG) hT0
   refine (callsIn_wide (n:=0)).1 (callsIn_of_wp_marks hf hb trivial (wpIn_wide.2 (wp_mono (dwp_sound (σ0:=σ) (h0:=h) (w0:=w) hΓ hm c d hd s0 _ w σ1 _ ⟨w, .refl _ _ _,⟨fun d hd=>by simp at hd,List.nodup_nil⟩,H1⟩ (by simpa using hT1) trivial hK) ?_)))
   ·rintro e a w' hq
    by_cases he:∃ id,e=.exit id
    ·obtain ⟨id,rfl⟩:=he
     exact (QK.noexit (fun s h=>(show False from hKf _ _ h)) hq).elim
    unfold QK at hq
    have hmain:∀ (σ':Sg) (s:St),HI σ h w σ' s.h s.ls w' a.defers->TRel σ' s.t a.tmps s.h.length s.ls.length->(match rvals s r with|some l=>∃ v ls h',Wk h.length ⟨[result l],s.ls,s.h⟩ ⟨[v],ls,h'⟩/\leave v ls h' K|none=>False) ->
      LeavesInM Fence.wide 0 P fn a.tmps (fun e w'=>∃ (v':V) (h':List Blk) (σ2:Sg),e=.returned (v'.tr σ2)/\v'.known=true/\v'.val h'.length 0=true/\Inv σ h w σ2 h' [] w'/\K v' h') a.defers .returning w':=fun σ' s HH hT hl=>by
     obtain ⟨B',hE,hM,HB⟩:=HH
     have H0:Inv σ h w σ' s.h s.ls w':=HB.down hE H1.gl
     refine leaves_marks a.defers w' σ' s.h s.ls H0 (fun d hd=>?_) hM.2 (fun w'' H=>?_)
     ·obtain ⟨D,q1,q2,q3,q4,q5⟩:=hM.1 d hd
      exact ⟨D,q1,q5,(HB.kept.keep D q2 q4).trans q3⟩
     split at hl
     ·rename_i l hrv
      obtain ⟨rv,ls,h',hW,hl⟩:=hl
      unfold leave at hl
      obtain ⟨hkn,hl⟩:=hl
      have hkn0:(result l).known=true:=hW.known hkn
      obtain ⟨h1,h2⟩:=results_run H.sim hT hr hrv hkn0
      refine ⟨_,h1, ?_⟩
      have hT1:TRel σ' [result l] #[(result l).tr σ'] s.h.length s.ls.length:=⟨rfl,fun i v hi=>by
       cases i with
       | zero=>simp only [List.getElem?_cons_zero,Option.some.injEq] at hi; subst hi; exact ⟨h2,_,rfl, .inr rfl⟩
       | succ i=>simp at hi⟩
      obtain ⟨σ',H,hT2⟩:=hW.sound (s:=⟨[result l],s.ls,s.h⟩) H hT1
      obtain ⟨h2,x,hx,hI⟩:=hT2.at_ 0 rv rfl
      simp only [List.getElem?_toArray,List.getElem?_cons_zero,Option.some.injEq] at hx
      subst hx
      have hI:=hI.eq (by rintro rfl; simp [V.known] at hkn)
      rw [hI]
      cases hno:rv.noL
      ·rw [hno] at hl
       simp only [bcase,Bool.false_eq_true,if_false] at hl
       obtain ⟨keep,hnd,hkv,hl⟩:=hl
       split at hl
       ·rename_i bl hbl
        obtain ⟨hall,hl⟩:=hl
        have hp:=V.prom_tr (σ:=σ') (keep:=keep) h2 hkv
        have H2:=H.promote hnd hbl hall
        have hlen:=(getAll_get hbl).1
        exact ⟨_,_,_,by rw [hp.1],by rw [V.known_ren]; exact hkn,by simp only [List.length_append,List.length_map,hlen]; exact hp.2,H2,hl⟩
       ·exact hl.elim
      ·rw [hno] at hl
       simp only [bcase,if_true] at hl
       refine ⟨_,_, σ',rfl,hkn,V.val_noL h2 hno,⟨H.sim.glob,H.kept,H.len,H.old,fun r B hb hst=>?_,H.new,H.live,H.gl⟩,hl⟩
       cases r with
       | g k=>exact H.mine (.g k) B hb hst
       | l k=>simp [blk] at hb
     ·exact hl.elim
    cases e<;>simp only [exOf] at hq
    case normal=>obtain ⟨σ',s,i1,i2,i3,i4⟩:=hq; exact hmain σ' s i1 i2 (hKf _ _ i4)
    case ret=>obtain ⟨σ',s,i1,i2,i3,i4⟩:=hq; exact hmain σ' s i1 i2 (hKf _ _ i4)
    case goto l=>obtain ⟨σ',s,i1,i2,i3,i4⟩:=hq; exact (show False from hKf _ _ i4).elim
    case exit id=>exact absurd ⟨id,rfl⟩ he
  ·cases hF
 ·cases hF

theorem Snd.weaken {f:FuncId} {S S':FSpec} (h:Snd P f S) (hs:∀ args h K,clean h.length h=true->S' args h K->S args h K):Snd P f S' :=
 fun σ h' w args K hS hG hav hak hK=>h σ h' w args K hS hG hav hak (hs args h' K (by simp only [clean,List.all_eq_true]; exact hS.gval) hK)

end
end Go.D

