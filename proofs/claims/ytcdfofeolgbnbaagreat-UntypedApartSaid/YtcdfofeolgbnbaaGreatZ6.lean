/- Soundness: regions,code,functions. -/
import Derived.Test.YtcdfofeolgbnbaaGreatZ5
/- Soundness: regions,code,functions. -/
namespace Go.D
set_option linter.all false
variable [Tabs]

section
variable {P:Program} {Γ:FuncId->FSpec} {σ0:Sg} {h0:List Blk} {w0:Base}

theorem compGs_cons {ops:Array Oper} {o:Oper} {os:List Oper} {gl:List GI} (h:compGs P ops (o::os)=some gl) :
  ∃ g l,gl=g::l/\compG P ops o=some g/\compGs P ops os=some l:=by
 simp only [compGs] at h
 split at h
 ·rename_i g l h1 h2; cases h; exact ⟨g,l,rfl,h1,h2⟩
 ·cases h

theorem compG_spec {ops:Array Oper} {o:Oper} {g:GI} (h:compG P ops o=some g) :
  compI P o=some g.op/\g.dst=o.dst/\((o.guard=none/\g.g=none)\/∃ j want oj d,o.guard=some (j,want)/\ops[j]?=some oj/\oj.dst=some d/\g.g=some (d,want)):=by
 unfold compG at h
 split at h
 ·rename_i i hi
  split at h
  ·rename_i hg; cases h; exact ⟨hi,rfl, .inl ⟨hg,rfl⟩⟩
  ·rename_i j want hg
   split at h
   ·rename_i oj hoj
    split at h
    ·rename_i d hd; cases h; exact ⟨hi,rfl, .inr ⟨j,want,oj,d,hg,hoj,hd,rfl⟩⟩
    ·cases h
   ·cases h
 ·cases h

theorem guard_wanted {σ:Sg} {t:List V} {a:Act} {n m:Nat} (hT:TRel σ t a.tmps n m) {ops:Array Oper} {o oj:Oper} {j d:Nat} {want:Bool} (hg:o.guard=some (j,want)) (hj:ops[j]?=some oj) (hd:oj.dst=some d) :
  (∀ q,t.getD d (.tup [])=.s (.b q)->Region.wanted o (yielded ops a.tmps)=(q==want))/\(t.getD d (.tup [])=.tup []->Region.wanted o (yielded ops a.tmps)=false):=by
 have hy:yielded ops a.tmps j=match a.tmps[d]? with|some (.bool b)=>some b|_=>none:=by
  simp only [yielded,hj,Option.bind_some,hd]
  rfl
 refine ⟨fun q hq=>?_,fun hq=>?_⟩
 ·have hlt:d<t.length:=by
   rcases Nat.lt_or_ge d t.length with h|h
   ·exact h
   ·rw [show t.getD d (.tup [])=.tup [] by simp [List.getD,List.getElem?_eq_none h]] at hq; cases hq
  have hi:t[d]?=some (.s (.b q)):=by rw [<-hq]; simp [List.getD,hlt]
  obtain ⟨_,x,h2,h3⟩:=hT.at_ d _ hi
  have hx:=h3.eq (by simp)
  simp only [V.tr,S.tr] at hx
  subst hx
  simp only [Region.wanted,hg,hy,h2]
  cases q<;>cases want<;>rfl
 ·rcases Nat.lt_or_ge d t.length with hlt|hge
  ·have hi:t[d]?=some (.tup []):=by rw [<-hq]; simp [List.getD,hlt]
   obtain ⟨_,x,h2,h3⟩:=hT.at_ d _ hi
   have hx:=h3.eq (by simp)
   simp only [V.tr,List.map_nil] at hx
   subst hx
   simp only [Region.wanted,hg,hy,h2]
   rfl
  ·simp only [Region.wanted,hg,hy,Array.getElem?_eq_none (by rw [<-hT.size]; exact hge)]
   rfl

theorem set_getD {t:List V} {d:Nat} {v:V} (h:t.getD d (.tup [])=v) (hv:v≠.tup []):t.set d v=t:=by
 refine set_same ?_
 rcases Nat.lt_or_ge d t.length with hlt|hge
 ·rw [<-h]; simp [List.getD,hlt]
 ·rw [show t.getD d (.tup [])=.tup [] by simp [List.getD,List.getElem?_eq_none hge]] at h; exact absurd h.symm hv

theorem put_defers (a:Act) (d:Option Tmp) (x:Value):(a.put d x).defers=a.defers:=by cases d<;>rfl

theorem rwp_sound (hΓ:SndΓ P Γ) {ops:Array Oper}:∀ (os:List Oper) (gl:List GI),compGs P ops os=some gl->∀ (σ:Sg) (t:List V) (a:Act) (ls h:List Blk) (w:World) (K:List V->List Blk->List Blk->Prop) (Q:Exit->Act->World->Prop),
  Inv σ0 h0 w0 σ h ls w->TRel σ t a.tmps h.length ls.length->rwp Γ gl t ls h K ->
  (∀ σ' t' ls' h' w' a',Inv σ0 h0 w0 σ' h' ls' w'->TRel σ' t' a'.tmps h'.length ls'.length->a'.defers=a.defers->K t' ls' h'->Q .normal a' w') ->
  wpList P ops Q os a w
 | [],gl,hc, σ,t,a,ls,h,w,K,Q,H,hT,hK,hn=>by
  simp only [compGs,Option.some.injEq] at hc
  subst hc
  exact hn σ t ls h w a H hT rfl hK
 | o::os,gl,hc, σ,t,a,ls,h,w,K,Q,H,hT,hK,hn=>by
  obtain ⟨g,l,rfl,hg,hl⟩:=compGs_cons hc
  obtain ⟨hi,hdst,hgd⟩:=compG_spec hg
  simp only [rwp] at hK
  have hdo:iwp Γ g.op t ls h (fun t v ls h=>rwp Γ l (putD t g.dst v) ls h K)->o.wp P a w (wpList P ops Q os) Q:=fun hK=>by
   refine acts_all hΓ hi σ0 h0 w0 σ t a ls h w _ _ Q H hT hK (fun σ' t' v x ls' h' w' H' hT' hv hx hK'=>?_)
   rw [hdst] at hK'
   exact rwp_sound hΓ os l hl σ' _ _ ls' h' w' K Q H' (hT'.put o.dst hv hx) hK' (fun σ2 t2 ls2 h2 w2 a2 i1 i2 i3 i4=>hn σ2 t2 ls2 h2 w2 a2 i1 i2 (by rw [i3,put_defers]) i4)
  have hskip:rwp Γ l (putD t g.dst (.tup [])) ls h K->wpList P ops Q os (a.put o.dst undef) w:=fun hK=>by
   rw [hdst] at hK
   exact rwp_sound hΓ os l hl σ _ _ ls h w K Q H (hT.put o.dst rfl (.inr rfl)) hK (fun σ2 t2 ls2 h2 w2 a2 i1 i2 i3 i4=>hn σ2 t2 ls2 h2 w2 a2 i1 i2 (by rw [i3,put_defers]) i4)
  unfold wpList
  unfold gwp at hK
  rcases hgd with ⟨h1,h2⟩|⟨j,want,oj,d,h1,h2,h3,h4⟩
  ·rw [h2] at hK
   rw [if_pos (by simp [Region.wanted,h1])]
   exact .inl (hdo hK)
  ·rw [h4] at hK
   simp only at hK
   obtain ⟨g1,g2⟩:=guard_wanted hT h1 h2 h3
   split at hK
   ·rename_i q hq
    rw [g1 q hq]
    cases q
    ·simp only [bcase] at hK
     rw [set_getD hq (by simp)] at hK
     split at hK
     ·rename_i hw; rw [if_pos hw]; exact .inl (hdo hK)
     ·rename_i hw; rw [if_neg hw]; exact hskip hK
    ·simp only [bcase] at hK
     rw [set_getD hq (by simp)] at hK
     split at hK
     ·rename_i hw; rw [if_pos hw]; exact .inl (hdo hK)
     ·rename_i hw; rw [if_neg hw]; exact hskip hK
   ·rename_i hq
    rw [g2 hq,if_neg (by simp)]
    exact hskip hK
   ·exact hK.elim

theorem head_sound {ops:Array Oper}:∀ (os:List Oper) (gl:List GI),compGs P ops os=some gl->∀ (n:Nat),n<=headLen gl->∀ (σ:Sg) (t:List V) (a:Act) (ls h:List Blk) (w:World) (K:List V->List Blk->List Blk->Prop) (R:Act->Prop),
  Inv σ0 h0 w0 σ h ls w->TRel σ t a.tmps h.length ls.length->rwp Γ gl t ls h K ->
  (∀ t' a',TRel σ t' a'.tmps h.length ls.length->a'.defers=a.defers->rwp Γ (gl.drop n) t' ls h K->R a') ->
  wpStill P ops w R (os.take n) a
 | os,gl,_,0,_, σ,t,a,ls,h,w,K,R,_,hT,hK,hn=>by
  simp only [List.take_zero,wpStill]
  exact hn t a hT rfl hK
 | [],gl,hc,n+1,hlen, σ,t,a,ls,h,w,K,R,H,hT,hK,hn=>by
  simp only [compGs,Option.some.injEq] at hc
  subst hc
  simp [headLen] at hlen
 | o::os,gl,hc,n+1,hlen, σ,t,a,ls,h,w,K,R,H,hT,hK,hn=>by
  obtain ⟨g,l,rfl,hg,hl⟩:=compGs_cons hc
  obtain ⟨hi,hdst,hgd⟩:=compG_spec hg
  simp only [headLen] at hlen
  have hst:g.op.still=true:=by
   cases hst:g.op.still
   ·rw [hst] at hlen; simp at hlen
   ·rfl
  rw [hst] at hlen
  simp only [if_true] at hlen
  simp only [rwp] at hK
  simp only [List.take_succ_cons,wpStill]
  have hdo:iwp Γ g.op t ls h (fun t v ls h=>rwp Γ l (putD t g.dst v) ls h K)->o.still P a w (wpStill P ops w R (os.take n)):=fun hK=>by
   obtain ⟨v,x,k1,k2,k3,k4⟩:=looks_all hi hst Γ σ t a ls h _ hT (fun r B hb=>H.sim.bval hb) hK
   unfold Oper.still
   rw [k4 w H.sim,Oper.stillUpon_value]
   rw [hdst] at k1
   exact head_sound os l hl n (by omega) σ _ _ ls h w K R H (hT.put o.dst k2 k3) k1 (fun t' a' i1 i2 i3=>hn t' a' i1 (by rw [i2,put_defers]) i3)
  have hskip:rwp Γ l (putD t g.dst (.tup [])) ls h K->wpStill P ops w R (os.take n) (a.put o.dst undef):=fun hK=>by
   rw [hdst] at hK
   exact head_sound os l hl n (by omega) σ _ _ ls h w K R H (hT.put o.dst rfl (.inr rfl)) hK (fun t' a' i1 i2 i3=>hn t' a' i1 (by rw [i2,put_defers]) i3)
  unfold gwp at hK
  rcases hgd with ⟨h1,h2⟩|⟨j,want,oj,d,h1,h2,h3,h4⟩
  ·rw [h2] at hK
   rw [if_pos (by simp [Region.wanted,h1])]
   exact hdo hK
  ·rw [h4] at hK
   simp only at hK
   obtain ⟨g1,g2⟩:=guard_wanted hT h1 h2 h3
   split at hK
   ·rename_i q hq
    rw [g1 q hq]
    cases q
    ·simp only [bcase] at hK
     rw [set_getD hq (by simp)] at hK
     split at hK
     ·rename_i hw; rw [if_pos hw]; exact hdo hK
     ·rename_i hw; rw [if_neg hw]; exact hskip hK
    ·simp only [bcase] at hK
     rw [set_getD hq (by simp)] at hK
     split at hK
     ·rename_i hw; rw [if_pos hw]; exact hdo hK
     ·rename_i hw; rw [if_neg hw]; exact hskip hK
   ·rename_i hq
    rw [g2 hq,if_neg (by simp)]
    exact hskip hK
   ·exact hK.elim

theorem Inv.agree {σ σ':Sg} {h ls:List Blk} {w:World} (H:Inv σ0 h0 w0 σ h ls w) (hA:Agree h.length ls.length σ σ'):Inv σ0 h0 w0 σ' h ls w:=by
 have hr:∀ r B,blk h ls r=some B->σ' r=σ r:=fun r B hb=>hA r (blk_val hb)
 refine ⟨⟨fun r B hb=>?_,fun r r' B B' hb hb'=>?_,H.sim.gval,H.sim.lval⟩,H.kept,H.len,fun k hk=>?_,fun r B hb hst=>?_,fun k X hk hX hd=>?_,H.live,H.gl⟩
 ·exact (H.sim.ok r B hb).move (hr r B hb) hA (H.sim.bval hb) (Nat.le_refl _) (fun _=>rfl)
 ·rw [hr r B hb,hr r' B' hb']; exact H.sim.sep r r' B B' hb hb'
 ·rw [hA (.g k) (by simp only [R.val,decide_eq_true_eq]; have:=H.len; omega)]; exact H.old k hk
 ·rw [hr r B hb]; exact H.mine r B hb hst
 ·rw [hr (.g k) X hX]; exact H.new k X hk hX hd

theorem rqwp_sound (hΓ:SndΓ P Γ) {ops:Array Oper} (σ:Sg) (ls h:List Blk):∀ (os:List Oper) (gl:List GI),compGs P ops os=some gl->gl.all (fun x=>x.op.quiet)=true->∀ (t:List V) (a:Act) (K:List V->Prop) (R:Act->Prop),
  (∃ w,Inv σ0 h0 w0 σ h ls w)->TRel σ t a.tmps h.length ls.length->rqwp Γ gl t ls h K ->
  (∀ t' a',TRel σ t' a'.tmps h.length ls.length->a'.defers=a.defers->K t'->R a') ->
  wpQuiet P ops (fun w=>Inv σ0 h0 w0 σ h ls w) R os a
 | [],gl,hc,_,t,a,K,R,_,hT,hK,hn=>by
  simp only [compGs,Option.some.injEq] at hc
  subst hc
  exact hn t a hT rfl hK
 | o::os,gl,hc,hq,t,a,K,R,hex,hT,hK,hn=>by
  obtain ⟨g,l,rfl,hg,hl⟩:=compGs_cons hc
  obtain ⟨hi,hdst,hgd⟩:=compG_spec hg
  simp only [List.all_cons,Bool.and_eq_true] at hq
  simp only [rqwp] at hK
  simp only [wpQuiet]
  have hdo:qwp Γ g.op t ls h (fun v=>rqwp Γ l (putD t g.dst v) ls h K)->o.quiet P a (fun w=>Inv σ0 h0 w0 σ h ls w) (wpQuiet P ops (fun w=>Inv σ0 h0 w0 σ h ls w) R os):=fun hK=>by
   by_cases hst:g.op.still=true
   ·have hK2:iwp Γ g.op t ls h (fun _ v _ _=>rqwp Γ l (putD t g.dst v) ls h K):=by
     unfold qwp at hK
     split at hK
     ·rename_i f args heq; rw [heq] at hst; cases hst
     ·rename_i f args heq; rw [heq] at hst; cases hst
     ·exact hK
    obtain ⟨w,hw⟩:=hex
    obtain ⟨v,x,k1,k2,k3,k4⟩:=looks_all hi hst Γ σ t a ls h _ hT (fun r B hb=>hw.sim.bval hb) hK2
    refine ⟨x,fun w' hw'=>?_, ?_⟩
    ·unfold Oper.quietAt
     rw [k4 w' hw'.sim]
     exact ⟨rfl,rfl⟩
    ·rw [hdst] at k1
     exact rqwp_sound hΓ σ ls h os l hl hq.2 _ _ K R ⟨w,hw⟩ (hT.put o.dst k2 k3) k1 (fun t' a' i1 i2 i3=>hn t' a' i1 (by rw [i2,put_defers]) i3)
   ·obtain ⟨f,args,hcall⟩:∃ f args,g.op=.call f args:=by
     have:=hq.1
     cases hop:g.op<;>rw [hop] at this hst<;>first|exact ⟨_,_,rfl⟩|(exfalso; exact hst this)
    rw [hcall] at hK hi
    simp only [qwp] at hK
    obtain ⟨⟨hkn,hno⟩,v,hv0,hcal,hK⟩:=hK
    have hcx:∃ c:Call,o.op=.call c/\c.callee=.value (.func f)/\compXs c.args.toList=some args:=by
     unfold compI at hi
     (repeat' split at hi)<;>(try (simp only [Option.map_eq_some_iff] at hi; obtain ⟨_,_,hi⟩:=hi))<;>(try cases hi)
     all_goals exact ⟨_,by assumption,by assumption,by assumption⟩
    obtain ⟨c,ho,hcal2,hxs⟩:=hcx
    obtain ⟨hok,hs⟩:=hΓ _ _ _ _ hcal
    obtain ⟨a1,a2⟩:=args_is hT hxs hkn
    have hval':(args.map (ev t)).all (V.val h.length 0)=true:=by
     simp only [List.all_eq_true] at a2 hno ⊢
     exact fun x hx=>V.val_noL (a2 x hx) (hno x hx)
    have hvargs:c.args.map a.eval=((args.map (ev t)).map (V.tr σ)).toArray:=by
     rw [<-a1,<-Array.toList_map,Array.toArray_toList]
    refine ⟨v.tr σ,fun w' hw'=>?_, ?_⟩
    ·unfold Oper.quietAt
     have he:a.eval (.func f)=.func (.func f) #[] #[]:=rfl
     have hrun:(execOp a.eval o).run P w'=.ok (.enter f (c.args.map a.eval)) w':=by
      simp [execOp,ho,resolve,hcal2,he,ofValue_func,invoke,callFunc_run hok]
     rw [hrun,hvargs]
     refine ⟨rfl, ?_⟩
     refine (hs σ h w' _ _ hw'.sim.glob (Inv.glb hw') hval' hkn hcal).mono ?_
     rintro e w2 ⟨v',h', σ',rfl,k1,k2,H1,rfl,rfl⟩
     refine ⟨?_, ?_⟩
     ·congr 1
      exact V.tr_congr (n:=0) (m:=0) (fun r hr=>by cases r<;>simp [Go.D.R.val] at hr) v' hv0
     ·exact (hw'.call H1).agree (fun r hr=>(mix_agree H1 _ r hr).symm)
    ·rw [hdst] at hK
     exact rqwp_sound hΓ σ ls h os l hl hq.2 _ _ K R hex (hT.put o.dst (V.val_mono (Nat.zero_le _) (Nat.zero_le _) hv0) (.inr rfl)) hK (fun t' a' i1 i2 i3=>hn t' a' i1 (by rw [i2,put_defers]) i3)
  have hskip:rqwp Γ l (putD t g.dst (.tup [])) ls h K->wpQuiet P ops (fun w=>Inv σ0 h0 w0 σ h ls w) R os (a.put o.dst undef):=fun hK=>by
   rw [hdst] at hK
   exact rqwp_sound hΓ σ ls h os l hl hq.2 _ _ K R hex (hT.put o.dst rfl (.inr rfl)) hK (fun t' a' i1 i2 i3=>hn t' a' i1 (by rw [i2,put_defers]) i3)
  unfold gqwp at hK
  rcases hgd with ⟨h1,h2⟩|⟨j,want,oj,d,h1,h2,h3,h4⟩
  ·rw [h2] at hK
   rw [if_pos (by simp [Region.wanted,h1])]
   exact hdo hK
  ·rw [h4] at hK
   simp only at hK
   obtain ⟨g1,g2⟩:=guard_wanted hT h1 h2 h3
   split at hK
   ·rename_i q hq
    rw [g1 q hq]
    cases q
    ·simp only [bcase] at hK
     rw [set_getD hq (by simp)] at hK
     split at hK
     ·rename_i hw; rw [if_pos hw]; exact hdo hK
     ·rename_i hw; rw [if_neg hw]; exact hskip hK
    ·simp only [bcase] at hK
     rw [set_getD hq (by simp)] at hK
     split at hK
     ·rename_i hw; rw [if_pos hw]; exact hdo hK
     ·rename_i hw; rw [if_neg hw]; exact hskip hK
   ·rename_i hq
    rw [g2 hq,if_neg (by simp)]
    exact hskip hK
   ·exact hK.elim

/-! ### regions whose order is drawn,with calls and new blocks -/
def Cok (σ0:Sg) (h0:List Blk) (w0:Base) (h:List Blk) (c:Sg×List Blk) (w:World):Prop:=Inv σ0 h0 w0 c.1 h c.2 w
def Cle (h:List Blk) (c c':Sg×List Blk):Prop:=Agree h.length c.2.length c.1 c'.1/\∃ ext,c'.2=c.2++ext

theorem Cle.refl (h:List Blk) (c:Sg×List Blk):Cle h c c:=⟨fun _ _=>rfl,[],by simp⟩
theorem Cle.trans {h:List Blk} {c1 c2 c3:Sg×List Blk} (h1:Cle h c1 c2) (h2:Cle h c2 c3):Cle h c1 c3:=by
 obtain ⟨a1,e1,h1⟩:=h1
 obtain ⟨a2,e2,h2⟩:=h2
 refine ⟨fun r hr=>?_,e1++e2,by rw [h2,h1,List.append_assoc]⟩
 rw [a2 r (R.val_mono (Nat.le_refl _) (by rw [h1]; simp) hr),a1 r hr]

theorem Cle.blk {h:List Blk} {c c':Sg×List Blk} (hl:Cle h c c') {r:R} {B:Blk} (hb:blk h c.2 r=some B):blk h c'.2 r=some B:=by
 obtain ⟨_,e,h2⟩:=hl
 cases r with
 | g k=>exact hb
 | l k =>
  simp only [D.blk] at hb ⊢
  rw [h2,List.getElem?_append_left (List.getElem?_eq_some_iff.1 hb).1]; exact hb

theorem Sim.down {h:List Blk} {c c':Sg×List Blk} {w w1:World} (hl:Cle h c c') (H:Sim c'.1 h c'.2 w) (H1:Sim c.1 h c.2 w1):Sim c.1 h c.2 w:=by
 have hs:∀ r B,D.blk h c.2 r=some B->c.1 r=c'.1 r:=fun r B hb=>(hl.1 r (blk_val hb)).symm
 refine ⟨fun r B hb=>?_,fun r r' B B' hb hb' hne hst hd=>?_,H1.gval,H1.lval⟩
 ·exact (H.ok r B (hl.blk hb)).move (hs r B hb) (fun r hr=>(hl.1 r hr).symm) (H1.bval hb) (Nat.le_refl _) (fun _=>rfl)
 ·rw [hs r B hb,hs r' B' hb']
  exact H.sep r r' B B' (hl.blk hb) (hl.blk hb') hne hst hd

theorem quiet_call (hΓ:SndΓ P Γ) {o:Oper} {a:Act} {σ:Sg} {ls h:List Blk} {f:FuncId} {args:List V} {vals:Array Value} {v:V} (hk:args.all V.known=true) (hno:args.all V.noL=true) (hval:args.all (V.val h.length ls.length)=true)
  (hv0:v.val 0 0=true) (hcal:Γ f args h (fun v' h'=>v'=v/\h'=h)) (hvals:vals=(args.map (V.tr σ)).toArray) (hrun:FnOk P f->∀ w',(execOp a.eval o).run P w'=.ok (.enter f vals) w') :
  ∀ c',Cle h (σ,ls) c'->∀ w',Cok σ0 h0 w0 h c' w'->o.quietAt P a (Cok σ0 h0 w0 h c') w' (v.tr σ):=fun c' hle w' hw'=>by
 obtain ⟨hok,hs⟩:=hΓ _ _ _ _ hcal
 have hval':args.all (V.val h.length 0)=true:=by
  simp only [List.all_eq_true] at hval hno ⊢
  exact fun x hx=>V.val_noL (hval x hx) (hno x hx)
 have hsame:args.map (V.tr c'.1)=args.map (V.tr σ):=List.map_congr_left fun x hx=>V.tr_congr (n:=h.length) (m:=0) (fun r hr=>hle.1 r (R.val_mono (Nat.le_refl _) (Nat.zero_le _) hr)) x (by simp only [List.all_eq_true] at hval'; exact hval' x hx)
 unfold Oper.quietAt
 rw [hrun hok,hvals,<-hsame]
 refine ⟨rfl, ?_⟩
 refine (hs c'.1 h w' _ _ hw'.sim.glob (Inv.glb hw') hval' hk hcal).mono ?_
 rintro e w2 ⟨v',h', σ',rfl,k1,k2,H1,rfl,rfl⟩
 refine ⟨?_, ?_⟩
 ·congr 1
  exact V.tr_congr (n:=0) (m:=0) (fun r hr=>by cases r<;>simp [Go.D.R.val] at hr) v' hv0
 ·exact (Inv.call hw' H1).agree (fun r hr=>(mix_agree H1 _ r hr).symm)

theorem quiet_up (hΓ:SndΓ P Γ) {ops:Array Oper} {o:Oper} {g:GI} (hg:compG P ops o=some g) (hq:(g.op.still||g.op.calls)=true) {σ:Sg} {t:List V} {a:Act} {ls h:List Blk} {K:List V->Prop} (hex:∃ w,Inv σ0 h0 w0 σ h ls w)
  (hT:TRel σ t a.tmps h.length ls.length) (hK:gqwp Γ g t ls h K) :
  ∃ v x,UpIn P ops (Cok σ0 h0 w0 h) (Cle h) o x a (σ,ls)/\TRel σ (putD t o.dst v) (a.put o.dst x).tmps h.length ls.length/\K (putD t o.dst v):=by
 obtain ⟨hi,hdst,hgd⟩:=compG_spec hg
 obtain ⟨w1,hw1⟩:=hex
 have hdo:Region.wanted o (yielded ops a.tmps)=true->qwp Γ g.op t ls h (fun v=>K (putD t g.dst v)) ->
   ∃ v x,UpIn P ops (Cok σ0 h0 w0 h) (Cle h) o x a (σ,ls)/\TRel σ (putD t o.dst v) (a.put o.dst x).tmps h.length ls.length/\K (putD t o.dst v):=fun hwant hK=>by
  by_cases hst:g.op.still=true
  ·have hK2:iwp Γ g.op t ls h (fun _ v _ _=>K (putD t g.dst v)):=by
    unfold qwp at hK
    split at hK
    ·rename_i f args heq; rw [heq] at hst; cases hst
    ·rename_i f args heq; rw [heq] at hst; cases hst
    ·exact hK
   obtain ⟨v,x,k1,k2,k3,k4⟩:=looks_all hi hst Γ σ t a ls h _ hT (fun r B hb=>hw1.sim.bval hb) hK2
   refine ⟨v,x,fun c' hle=>.inl ⟨hwant,fun w' hw'=>?_⟩,hT.put o.dst k2 k3,by rw [<-hdst]; exact k1⟩
   unfold Oper.quietAt
   rw [k4 w' (Sim.down hle (Inv.sim hw') hw1.sim)]
   exact ⟨rfl,rfl⟩
  ·have hcalls:g.op.calls=true:=by
    cases h1:g.op.still
    ·rw [h1] at hq; simpa using hq
    ·exact absurd h1 hst
   cases hop:g.op<;>rw [hop] at hcalls hK hi<;>(try (cases hcalls; done))
   ·rename_i f args
    simp only [qwp] at hK
    obtain ⟨⟨hkn,hno⟩,v,hv0,hcal,hK⟩:=hK
    have hcx:∃ c:Call,o.op=.call c/\c.callee=.value (.func f)/\compXs c.args.toList=some args:=by
     unfold compI at hi
     (repeat' split at hi)<;>(try (simp only [Option.map_eq_some_iff] at hi; obtain ⟨_,_,hi⟩:=hi))<;>(try cases hi)
     all_goals exact ⟨_,by assumption,by assumption,by assumption⟩
    obtain ⟨c,ho,hcal2,hxs⟩:=hcx
    obtain ⟨a1,a2⟩:=args_is hT hxs hkn
    refine ⟨v,v.tr σ,fun c' hle=>.inl ⟨hwant,quiet_call hΓ (vals:=c.args.map a.eval) hkn hno a2 hv0 hcal ?_ (fun hok w'=>?_) c' hle⟩,hT.put o.dst (V.val_mono (Nat.zero_le _) (Nat.zero_le _) hv0) (.inr rfl),by rw [<-hdst]; exact hK⟩
    ·rw [<-a1,<-Array.toList_map,Array.toArray_toList]
    ·have he:a.eval (.func f)=.func (.func f) #[] #[]:=rfl
     simp [execOp,ho,resolve,hcal2,he,ofValue_func,invoke,callFunc_run hok]
   ·rename_i f args
    have hcx:∃ (c:Call) (i:Tmp),o.op=.call c/\c.callee=.value (.tmp i)/\f=.t i/\compXs c.args.toList=some args:=by
     unfold compI at hi
     (repeat' split at hi)<;>(try (simp only [Option.map_eq_some_iff] at hi; obtain ⟨_,hx,hi⟩:=hi))<;>(try cases hi)
     all_goals exact ⟨_,_,by assumption,by assumption,rfl,by assumption⟩
    obtain ⟨c,i,ho,hcal2,rfl,hxs⟩:=hcx
    simp only [qwp] at hK
    obtain ⟨e1,e2⟩:=ev_is hT (x:=.tmp i) (y:=.t i) rfl
    split at hK
    ·rename_i g' cs hqv
     obtain ⟨⟨hkn,hno⟩,v,hv0,hcal,hK⟩:=hK
     rw [hqv] at e1 e2
     have hv:=e2.eq (by simp)
     simp only [V.tr,S.tr] at hv
     have hkn2:=hkn
     simp only [List.all_append,Bool.and_eq_true] at hkn2
     obtain ⟨a1,a2⟩:=args_is hT hxs hkn2.1
     refine ⟨v,v.tr σ,fun c' hle=>.inl ⟨hwant,quiet_call hΓ (vals:=c.args.map a.eval++(cs.map fun x=>Value.pointer (some (adr σ x.1 x.2))).toArray) hkn hno ?_ hv0 hcal ?_ (fun hok w'=>?_) c' hle⟩,hT.put o.dst (V.val_mono (Nat.zero_le _) (Nat.zero_le _) hv0) (.inr rfl),by rw [<-hdst]; exact hK⟩
     ·simp only [List.all_append,Bool.and_eq_true]
      refine ⟨a2, ?_⟩
      simp only [V.val,S.val,List.all_eq_true] at e1
      simp only [List.all_map,List.all_eq_true]
      exact fun x hx=>e1 x hx
     ·rw [List.map_append,List.map_map]
      have:(c.args.map a.eval)=((args.map (ev t)).map (V.tr σ)).toArray:=by rw [<-a1,<-Array.toList_map,Array.toArray_toList]
      rw [this]
      simp only [List.append_toArray]
      congr 1
      simp only [List.map_map]; rfl
     ·simp [execOp,ho,resolve,hcal2,hv,ofValue_func,invoke,callFunc_run hok]
    ·exact hK.elim
 have hskip:Region.wanted o (yielded ops a.tmps)=false->K (putD t g.dst (.tup [])) ->
   ∃ v x,UpIn P ops (Cok σ0 h0 w0 h) (Cle h) o x a (σ,ls)/\TRel σ (putD t o.dst v) (a.put o.dst x).tmps h.length ls.length/\K (putD t o.dst v):=fun hwant hK =>
  ⟨.tup [],undef,fun c' _=>.inr ⟨hwant,rfl⟩,hT.put o.dst rfl (.inr rfl),by rw [<-hdst]; exact hK⟩
 unfold gqwp at hK
 rcases hgd with ⟨h1,h2⟩|⟨j,want,oj,d,h1,h2,h3,h4⟩
 ·rw [h2] at hK
  exact hdo (by simp [Region.wanted,h1]) hK
 ·rw [h4] at hK
  simp only at hK
  obtain ⟨g1,g2⟩:=guard_wanted hT h1 h2 h3
  split at hK
  ·rename_i q hq
   cases q
   ·simp only [bcase] at hK
    rw [set_getD hq (by simp)] at hK
    split at hK
    ·rename_i hw; exact hdo (by rw [g1 _ hq]; exact hw) hK
    ·rename_i hw; exact hskip (by rw [g1 _ hq]; simpa using hw) hK
   ·simp only [bcase] at hK
    rw [set_getD hq (by simp)] at hK
    split at hK
    ·rename_i hw; exact hdo (by rw [g1 _ hq]; exact hw) hK
    ·rename_i hw; exact hskip (by rw [g1 _ hq]; simpa using hw) hK
  ·rename_i hq
   exact hskip (g2 hq) hK
  ·exact hK.elim

theorem makes {o:Oper} {op:I} (hi:compI P o=some op) (ha:op.alloc=true) {σ:Sg} {t:List V} {a:Act} {ls h:List Blk} {w:World} {K:List V->V->List Blk->List Blk->Prop} (H:Inv σ0 h0 w0 σ h ls w) (hT:TRel σ t a.tmps h.length ls.length) (hK:iwp Γ op t ls h K) :
  ∃ (σ':Sg) (B:Blk) (v:V) (x:Value) (w':World),(execOp a.eval o).run P w=.ok (.value x) w'/\Cle h (σ,ls) (σ',ls++[B])/\Inv σ0 h0 w0 σ' h (ls++[B]) w'/\TRel σ' t a.tmps h.length (ls++[B]).length/\v.val h.length (ls++[B]).length=true/\Is σ' v x/\K t v (ls++[B]) h:=by
 have fresh:∀ (cells:List S) (T:TypeId),vals h.length ls.length cells=true->∃ σ',Cle h (σ,ls) (σ',ls++[⟨.rw,cells,cells.length⟩])/\Inv σ0 h0 w0 σ' h (ls++[⟨.rw,cells,cells.length⟩]) (w.alloc (.cells (trs σ cells) T)) /\
   TRel σ' t a.tmps h.length (ls++[(⟨.rw,cells,cells.length⟩:Blk)]).length/\∀ o,adr σ' (.l ls.length) o=⟨w.heap.size,o,none⟩:=fun cells T hv=>by
  have H':=H.alloc cells T #[] hv
  simp only [Array.append_empty,Array.size_empty,Nat.add_zero] at H'
  exact ⟨lay σ (.l ls.length) (w.heap.size,0),⟨agree_lay _ _ _ _ _ (Nat.le_refl _),_,rfl⟩,H',hT.mono (agree_lay _ _ _ _ _ (Nat.le_refl _)) (Nat.le_refl _) (by simp),fun o=>by simp [adr,lay]⟩
 cases op<;>(try (cases ha; done))
 ·rename_i z
  have hcx:∃ T,o.op=.alloc T/\zeroOf P T=some z:=by
   unfold compI at hi
   (repeat' split at hi)<;>(try (simp only [Option.map_eq_some_iff] at hi; obtain ⟨_,hx,hi⟩:=hi))<;>(try cases hi)
   all_goals exact ⟨_,by assumption,hx⟩
  obtain ⟨T,ho,hz⟩:=hcx
  obtain ⟨i,v,hti,hiz,hcells,hvz,_,_⟩:=zeroOf_run hz σ
  obtain ⟨σ',c1,c2,c3,hadr⟩:=fresh z T (vals_mono (Nat.zero_le _) (Nat.zero_le _) hvz)
  simp only [iwp] at hK
  refine ⟨σ',_,_, .pointer (some ⟨w.heap.size,0,none⟩),_, ?_,c1,c2,c3, ?_, .inr ?_,hK⟩
  ·simp [execOp,ho,Instr.alloc,zeroValue,typeInfo,hti,hiz,newVar,newRow,hcells]
  ·simp [V.val,S.val,R.val]
  ·simp [V.tr,S.tr,hadr]
 ·rename_i n zz qs
  have hcx:∃ (T e:TypeId) (parts:Array (Nat×Operand)) (i:TypeInfo) (z:List S),o.op=.buildSlice T n parts/\P.underlying T=some (.slice e)/\P.info? e=some i/\zeroOf P e=some z/\n*i.size<=2^24/\i.size≠0 /\
    partsOf P (fun j=>some (j*i.size,i.size)) parts.toList=some qs/\zz=zeros z n:=by
   unfold compI at hi
   split at hi<;>(repeat' split at hi)<;>(try (simp only [Option.map_eq_some_iff] at hi; obtain ⟨_,hx,hi⟩:=hi))<;>(try cases hi)
   all_goals first|(rename_i hcond; exact ⟨_,_,_,_,_,by assumption,by assumption,by assumption,by assumption,hcond.1,hcond.2,hx,rfl⟩)
  obtain ⟨T,e,parts,i,z,ho,hu,hti,hz,hn24,hsz,hq,rfl⟩:=hcx
  simp only [iwp] at hK
  split at hK
  ·rename_i z' hz'
   obtain ⟨k,v,hk,hiz,hcells,hvz,_,hzl⟩:=zeroOf_run hz σ
   have hki:k=i:=by rw [hk] at hti; cases hti; rfl
   rw [hki] at hk hiz hzl
   clear hki
   have hzne:z≠[]:=by intro e; rw [e] at hzl; simp at hzl; omega
   obtain ⟨f1,f2⟩:=fill_run hT _ (fun j=>some (j*i.size,i.size)) (fun _ _ h=>h) parts.toList qs (zeros z n) z' hq hz' (vals_mono (Nat.zero_le _) (Nat.zero_le _) (zeros_vals hvz n))
   obtain ⟨σ',c1,c2,c3,hadr⟩:=fresh z' e f2
   refine ⟨σ',_,_, .slice (some ⟨w.heap.size,0,none⟩) n n,_, ?_,c1,c2,c3, ?_, .inr ?_,hK⟩
   ·have h24:¬ (2^24<n*i.size):=by omega
    by_cases h0:n*i.size=0
    ·have hn0:n=0:=by rcases Nat.mul_eq_zero.1 h0 with h|h; exact h; exact absurd h hsz
     subst hn0
     have f1':Instr.fill (fun j=>some (j*i.size,i.size)) #[] (parts.toList.map fun x=>(x.1,a.eval x.2))=some (trs σ z'):=f1
     simp [execOp,ho,Instr.buildSlice,run_underlying hu,sizeOf,typeInfo,hti,f1',newRow,Array.range_zero']
    ·have f1':=f1
     rw [<-zeros_trs σ z hzne n,hzl] at f1'
     simp [execOp,ho,Instr.buildSlice,run_underlying hu,sizeOf,typeInfo,hti,h24,h0,zeroValue,hiz,hcells,f1',newRow]
   ·simp [V.val,S.val,R.val]
   ·simp [V.tr,S.tr,hadr]
  ·exact hK.elim

theorem compGs_get {ops:Array Oper}:∀ {os:List Oper} {gl:List GI},compGs P ops os=some gl->∀ {k:Nat} {g:GI},gl[k]?=some g->∃ o,os[k]?=some o/\compG P ops o=some g
 | [],gl,h,k,g,hk=>by
  simp only [compGs,Option.some.injEq] at h
  subst h; simp at hk
 | o::os,gl,h,k,g,hk=>by
  obtain ⟨g',l,rfl,h1,h2⟩:=compGs_cons h
  cases k with
  | zero=>simp only [List.getElem?_cons_zero,Option.some.injEq] at hk; subst hk; exact ⟨o,rfl,h1⟩
  | succ k=>simp only [List.getElem?_cons_succ] at hk ⊢; exact compGs_get h2 hk

def segN:List Tk->Nat
 | []=>0
 | .b _::_=>0
 | .q _::r=>segN r+1
 | .e _::r=>segN r+1
def restTk:List Tk->List Tk
 | []=>[]
 | .b k::r=>.b k::r
 | .q _::r=>restTk r
 | .e _::r=>restTk r

theorem seg_length:∀ tks:List Tk,tks.length=segN tks+(restTk tks).length
 | []=>rfl
 | .b _::r=>by simp [segN,restTk]
 | .q _::r=>by simp only [segN,restTk,List.length_cons,seg_length r]; omega
 | .e _::r=>by simp only [segN,restTk,List.length_cons,seg_length r]; omega

theorem restTk_form:∀ tks:List Tk,restTk tks=[]\/∃ k r,restTk tks=.b k::r
 | []=>.inl rfl
 | .b k::r=>.inr ⟨k,r,rfl⟩
 | .q _::r=>restTk_form r
 | .e _::r=>restTk_form r

def LSeg (Γ:FuncId->FSpec) (ops:Array Oper) (gl:List GI) (h:List Blk) (n:Nat) (R:List Tk) (d0:List Deferred) (K:List V->List Blk->List Blk->Prop) (listed:Array Bool) (a:Act) (c:Sg×List Blk):Prop :=
 okTk .any ops n R listed=true/\Closed .any ops listed/\∃ l t,tkCode gl R=some l/\TRel c.1 t a.tmps h.length c.2.length/\a.defers=d0/\mwp Γ l t c.2 h K

theorem tk_K (hΓ:SndΓ P Γ) {ops:Array Oper} {gl:List GI} (hg:compGs P ops ops.toList=some gl) (hsel:Region.noSelect ops=true) {Q:Exit->Act->World->Prop} (hQ:∀ c a w,¬ Q (.panic c) a w) {h:List Blk} {n:Nat} (hbar:barB .any ops n=true)
  (d0:List Deferred) (K:List V->List Blk->List Blk->Prop) :
  ∀ (tks:List Tk) (l:List (Bool×GI)) (listed:Array Bool) (σ:Sg) (t:List V) (a:Act) (ls:List Blk),
   tkCode gl tks=some l->okTk .any ops n tks listed=true->Closed .any ops listed->(∃ w,Inv σ0 h0 w0 σ h ls w)->TRel σ t a.tmps h.length ls.length->a.defers=d0->mwp Γ l t ls h K ->
   wpK P .any ops Q (Cok σ0 h0 w0 h) (Cle h) n (LSeg Γ ops gl h n (restTk tks) d0 K) (segN tks) listed a (σ,ls)
 | [],l,listed, σ,t,a,ls,hc,hok,hcl,_,hT,hd,hK=>⟨hok,hcl,l,t,hc,hT,hd,hK⟩
 | .b k::r,l,listed, σ,t,a,ls,hc,hok,hcl,_,hT,hd,hK=>⟨hok,hcl,l,t,hc,hT,hd,hK⟩
 | .q k::r,l,listed, σ,t,a,ls,hc,hok,hcl,hex,hT,hd,hK=>by
  simp only [tkCode] at hc
  split at hc
  ·rename_i g m hgk hm
   split at hc
   ·rename_i hq
    cases hc
    obtain ⟨o,ho,hco⟩:=compGs_get hg hgk
    have ho':ops[k]?=some o:=by simpa using ho
    simp only [okTk,Bool.and_eq_true,decide_eq_true_eq] at hok
    obtain ⟨⟨⟨k1,k2⟩,k3⟩,k4⟩:=hok
    have hr:k∈Region.ready .any ops listed:=by simpa using k1
    simp only [mwp] at hK
    obtain ⟨v,x,u1,u2,u3⟩:=quiet_up hΓ hco hq hex hT hK
    refine wpK_first (Cle.refl h) (fun h1 h2=>Cle.trans h1 h2) ho' (Region.noSelect_spec hsel) hbar k3 (fun listed' a' c' hL j hj=>?_) (fun c a w hh=>absurd hh (hQ _ _ _)) (segN r) listed a (σ,ls) hcl (Region.free_spec ho' k2) hr u1 ?_
    ·obtain ⟨hL,_⟩:=hL
     rcases restTk_form (.q k::r) with e|⟨k',r',e⟩<;>rw [e] at hL<;>simp only [okTk,Bool.and_eq_true,decide_eq_true_eq] at hL
     ·rw [List.isEmpty_iff.1 hL.1] at hj; cases hj
     ·rw [hL.1.1.1] at hj
      have:j=k':=by simpa using hj
      omega
    ·exact tk_K hΓ hg hsel hQ hbar d0 K r m _ σ _ _ ls hm k4 (hcl.set hr) hex u2 (by rw [put_defers,hd]) u3
   ·cases hc
  ·cases hc
 | .e k::r,l,listed, σ,t,a,ls,hc,hok,hcl,hex,hT,hd,hK=>by
  simp only [tkCode] at hc
  split at hc
  ·rename_i g m hgk hm
   split at hc
   ·rename_i hq
    cases hc
    simp only [Bool.and_eq_true] at hq
    obtain ⟨o,ho,hco⟩:=compGs_get hg hgk
    have ho':ops[k]?=some o:=by simpa using ho
    simp only [okTk,Bool.and_eq_true,decide_eq_true_eq] at hok
    obtain ⟨⟨k1,k3⟩,k4⟩:=hok
    have hr:k∈Region.ready .any ops listed:=by rw [k1]; simp
    obtain ⟨hi,hdst,hgd⟩:=compG_spec hco
    have hgn:g.g=none:=by simpa using hq.2
    have hog:o.guard=none:=by
     rcases hgd with ⟨h1,_⟩|⟨_,_,_,_,_,_,_,h4⟩
     ·exact h1
     ·rw [hgn] at h4; cases h4
    simp only [mwp,gwp,hgn] at hK
    refine wpK_single k1 k3 fun w hw=>?_
    obtain ⟨σ',B,v,x,w',m1,m2,m3,m4,m5,m6,m7⟩:=makes hi hq.1 hw hT hK
    unfold wpOp
    simp only [ho']
    rw [if_pos (by simp [Region.wanted,hog])]
    refine .inl ?_
    unfold Oper.wp
    rw [m1]
    rw [hdst] at m7
    exact ⟨(σ',ls++[B]),m2,m3,tk_K hΓ hg hsel hQ hbar d0 K r m _ σ' _ _ _ hm k4 (hcl.set hr) ⟨w',m3⟩ (m4.put o.dst m5 m6) (by rw [put_defers,hd]) m7⟩
   ·cases hc
  ·cases hc

theorem tk_all (hΓ:SndΓ P Γ) {ops:Array Oper} {gl:List GI} (hg:compGs P ops ops.toList=some gl) (hsel:Region.noSelect ops=true) {Q:Exit->Act->World->Prop} (hQ:∀ c a w,¬ Q (.panic c) a w) (d0:List Deferred) (K:List V->List Blk->List Blk->Prop)
  (hfin:∀ σ' t' ls' h' w' a',Inv σ0 h0 w0 σ' h' ls' w'->TRel σ' t' a'.tmps h'.length ls'.length->a'.defers=d0->K t' ls' h'->Q .normal a' w') :
  ∀ (N:Nat) (tks:List Tk),tks.length<=N->∀ (n:Nat) (l:List (Bool×GI)) (listed:Array Bool) (σ:Sg) (t:List V) (a:Act) (ls h:List Blk) (w:World),barB .any ops n=true ->
   tkCode gl tks=some l->okTk .any ops n tks listed=true->Closed .any ops listed->Inv σ0 h0 w0 σ h ls w->TRel σ t a.tmps h.length ls.length->a.defers=d0->mwp Γ l t ls h K ->
   wpAny P .any ops Q tks.length listed a w:=by
 intro N
 induction N with
 | zero =>
  intro tks hN n l listed σ t a ls h w hbar hc hok hcl H hT hd hK
  have:tks=[]:=by cases tks with|nil=>rfl|cons=>simp at hN
  subst this
  simp only [okTk,Bool.and_eq_true] at hok
  simp only [tkCode,Option.some.injEq] at hc
  subst hc
  exact ⟨List.isEmpty_iff.1 hok.1,hfin σ t ls h w a H hT hd hK⟩
 | succ N ih =>
  intro tks hN n l listed σ t a ls h w hbar hc hok hcl H hT hd hK
  rw [seg_length tks]
  refine wpAny_of_wpK (g:=(restTk tks).length) (fun listed' a' c' w' hL hw'=>?_) (segN tks) listed a (σ,ls) w H (tk_K hΓ hg hsel hQ hbar d0 K tks l listed σ t a ls hc hok hcl ⟨w,H⟩ hT hd hK)
  obtain ⟨l1,l2,l',t',l3,l4,l5,l6⟩:=hL
  have hlen:=seg_length tks
  rcases restTk_form tks with e|⟨k,r,e⟩
  ·rw [e] at l1 l3 ⊢
   simp only [okTk,Bool.and_eq_true] at l1
   simp only [tkCode,Option.some.injEq] at l3
   subst l3
   exact ⟨List.isEmpty_iff.1 l1.1,hfin c'.1 t' c'.2 h w' a' hw' l4 l5 l6⟩
  ·rw [e] at l1 l3 hlen ⊢
   simp only [okTk,Bool.and_eq_true,decide_eq_true_eq] at l1
   obtain ⟨⟨⟨k1,k2⟩,k3⟩,k4⟩:=l1
   have hr:k∈Region.ready .any ops listed':=by rw [k1]; simp
   simp only [tkCode] at l3
   split at l3
   ·rename_i g m hgk hm
    cases l3
    obtain ⟨o,ho,hco⟩:=compGs_get hg hgk
    have ho':ops[k]?=some o:=by simpa using ho
    obtain ⟨hi,hdst,hgd⟩:=compG_spec hco
    simp only [List.length_cons] at hlen ⊢
    refine ⟨fun h0=>(by rw [k1] at h0; cases h0),fun i hi'=>?_⟩
    rw [k1] at hi'
    have hik:i=k:=by simpa using hi'
    subst hik
    simp only [mwp] at l6
    have go:∀ (σ2:Sg) (t2:List V) (a2:Act) (ls2 h2:List Blk) (w2:World),Inv σ0 h0 w0 σ2 h2 ls2 w2->TRel σ2 t2 a2.tmps h2.length ls2.length->a2.defers=d0->mwp Γ m t2 ls2 h2 K->wpAny P .any ops Q r.length (listed'.setIfInBounds i true) a2 w2 :=
     fun σ2 t2 a2 ls2 h2 w2 i1 i2 i3 i4=>ih r (by omega) _ m _ σ2 t2 a2 ls2 h2 w2 k3 hm k4 (l2.set hr) i1 i2 i3 i4
    have hdo:iwp Γ g.op t' c'.2 h (fun t v ls h=>mwp Γ m (putD t g.dst v) ls h K)->o.wp P a' w' (wpAny P .any ops Q r.length (listed'.setIfInBounds i true)) Q:=fun hK=>by
     refine acts_all hΓ hi σ0 h0 w0 c'.1 t' a' c'.2 h w' _ _ Q hw' l4 hK (fun σ' t2 v x ls' h' w2 H' hT' hv hx hK'=>?_)
     rw [hdst] at hK'
     exact go σ' _ _ ls' h' w2 H' (hT'.put o.dst hv hx) (by rw [put_defers,l5]) hK'
    have hskip:mwp Γ m (putD t' g.dst (.tup [])) c'.2 h K->wpAny P .any ops Q r.length (listed'.setIfInBounds i true) (a'.put o.dst undef) w':=fun hK=>by
     rw [hdst] at hK
     exact go c'.1 _ _ c'.2 h w' hw' (l4.put o.dst rfl (.inr rfl)) (by rw [put_defers,l5]) hK
    unfold wpOp
    simp only [ho']
    unfold gwp at l6
    rcases hgd with ⟨h1,h2⟩|⟨j,want,oj,d,h1,h2,h3,h4⟩
    ·rw [h2] at l6
     rw [if_pos (by simp [Region.wanted,h1])]
     exact .inl (hdo l6)
    ·rw [h4] at l6
     simp only at l6
     obtain ⟨g1,g2⟩:=guard_wanted l4 h1 h2 h3
     split at l6
     ·rename_i q hq
      rw [g1 q hq]
      cases q
      ·simp only [bcase] at l6
       rw [set_getD hq (by simp)] at l6
       split at l6
       ·rename_i hw; rw [if_pos hw]; exact .inl (hdo l6)
       ·rename_i hw; rw [if_neg hw]; exact hskip l6
      ·simp only [bcase] at l6
       rw [set_getD hq (by simp)] at l6
       split at l6
       ·rename_i hw; rw [if_pos hw]; exact .inl (hdo l6)
       ·rename_i hw; rw [if_neg hw]; exact hskip l6
     ·rename_i hq
      rw [g2 hq,if_neg (by simp)]
      exact hskip l6
     ·exact l6.elim
   ·cases l3

theorem drm_sound (hΓ:SndΓ P Γ) (hm:P.follows .mixedOrders=true) {id:Nat} {ops:Array Oper} {gl:List GI} (hg:compGs P ops ops.toList=some gl) {l:List (Bool×GI)} (hl:drmOf ops gl=some l) {σ:Sg} {t:List V} {a:Act} {ls h:List Blk} {w:World} {K:List V->List Blk->List Blk->Prop} {Q:Exit->Act->World->Prop}
  (H:Inv σ0 h0 w0 σ h ls w) (hT:TRel σ t a.tmps h.length ls.length) (hK:mwp Γ l t ls h K)
  (hn:∀ σ' t' ls' h' w' a',Inv σ0 h0 w0 σ' h' ls' w'->TRel σ' t' a'.tmps h'.length ls'.length->a'.defers=a.defers->K t' ls' h'->Q .normal a' w') (hQ:∀ c a w,¬ Q (.panic c) a w) :
  (Code.region id ops true).wp P Q a w:=by
 unfold drmOf at hl
 split at hl
 ·rename_i hsel
  split at hl
  ·rename_i tks htk
   split at hl
   ·rename_i hc
    simp only [Bool.and_eq_true,decide_eq_true_eq] at hc
    have hcl:Closed .any ops (Array.replicate ops.size false):=⟨by simp,fun j oj _ hl=>(by rw [getD_replicate_false] at hl; cases hl)⟩
    have:=tk_all hΓ hg hsel hQ a.defers K hn tks.length tks (Nat.le_refl _) _ l _ σ t a ls h _ hc.1.1 hl hc.1.2 hcl (H.drawn (w.drawn+1)) hT rfl hK
    refine wp_region_any hm ?_
    rw [hc.2] at this
    exact this
   ·cases hl
  ·cases hl
 ·cases hl

/-! ### more than one order -/
theorem pure_still {op:I} (h:op.pure=true):op.still=true:=by
 cases op<;>first|exact h|cases h
theorem pure_move {op:I} (hp:op.pure=true) {t:List V} {ls h ls' h':List Blk} {K:V->Prop} (hK:iwp Γ op t ls h fun _ v _ _=>K v):iwp Γ op t ls' h' fun _ v _ _=>K v:=by
 cases op<;>first|(cases hp; done)|(simp only [iwp] at hK ⊢; exact hK)
theorem dead_blk {n m:Nat} {r:R} {B:Blk} (h:blk (List.replicate n ⟨.dead,[],0⟩) (List.replicate m ⟨.dead,[],0⟩) r=some B):B=⟨.dead,[],0⟩:=by
 cases r with
 | g k =>
  simp only [blk,List.getElem?_replicate] at h
  split at h
  ·exact (Option.some.inj h).symm
  ·cases h
 | l k =>
  simp only [blk,List.getElem?_replicate] at h
  split at h
  ·exact (Option.some.inj h).symm
  ·cases h
theorem dead_sim (σ:Sg) (n m:Nat) (w:World):Sim σ (List.replicate n ⟨.dead,[],0⟩) (List.replicate m ⟨.dead,[],0⟩) w:=by
 refine ⟨fun r B hb=>?_,fun r r' B B' hb hb' _ hst _=>?_,fun B hB=>?_,fun B hB=>?_⟩
 ·rw [dead_blk hb]; trivial
 ·rw [dead_blk hb] at hst; cases hst
 ·rw [List.eq_of_mem_replicate hB]; rfl
 ·rw [List.eq_of_mem_replicate hB]; rfl

theorem pure_up {ops:Array Oper} {o:Oper} {g:GI} (hg:compG P ops o=some g) (hp:g.op.pure=true) {σ:Sg} {t:List V} {a:Act} {ls h:List Blk} {K:List V->Prop}
  (hT:TRel σ t a.tmps h.length ls.length) (hK:gqwp Γ g t ls h K) :
  ∃ v x,(∀ C:World->Prop,YieldsIn P ops C o x a)/\TRel σ (putD t o.dst v) (a.put o.dst x).tmps h.length ls.length/\K (putD t o.dst v):=by
 obtain ⟨hi,hdst,hgd⟩:=compG_spec hg
 have hst:=pure_still hp
 have hdo:Region.wanted o (yielded ops a.tmps)=true->qwp Γ g.op t ls h (fun v=>K (putD t g.dst v)) ->
   ∃ v x,(∀ C:World->Prop,YieldsIn P ops C o x a)/\TRel σ (putD t o.dst v) (a.put o.dst x).tmps h.length ls.length/\K (putD t o.dst v):=fun hwant hK=>by
  have hK2:iwp Γ g.op t ls h (fun _ v _ _=>K (putD t g.dst v)):=by
   unfold qwp at hK
   split at hK
   ·rename_i f args heq; rw [heq] at hst; cases hst
   ·rename_i f args heq; rw [heq] at hst; cases hst
   ·exact hK
  have hK3:=pure_move hp (ls':=List.replicate ls.length ⟨.dead,[],0⟩) (h':=List.replicate h.length ⟨.dead,[],0⟩) hK2
  obtain ⟨v,x,k1,k2,k3,k4⟩:=looks_all hi hst Γ σ t a _ _ _ (by simpa using hT) (fun r B hb=>by rw [dead_blk hb]; rfl) hK3
  simp only [List.length_replicate] at k2
  refine ⟨v,x,fun C=>.inl ⟨hwant,fun w' hw'=>?_⟩,hT.put o.dst k2 k3,by rw [<-hdst]; exact k1⟩
  unfold Oper.quietAt
  rw [k4 w' (dead_sim σ _ _ w')]
  exact ⟨rfl,rfl⟩
 have hskip:Region.wanted o (yielded ops a.tmps)=false->K (putD t g.dst (.tup [])) ->
   ∃ v x,(∀ C:World->Prop,YieldsIn P ops C o x a)/\TRel σ (putD t o.dst v) (a.put o.dst x).tmps h.length ls.length/\K (putD t o.dst v):=fun hwant hK =>
  ⟨.tup [],undef,fun C=>.inr ⟨hwant,rfl⟩,hT.put o.dst rfl (.inr rfl),by rw [<-hdst]; exact hK⟩
 unfold gqwp at hK
 rcases hgd with ⟨h1,h2⟩|⟨j,want,oj,d,h1,h2,h3,h4⟩
 ·rw [h2] at hK
  exact hdo (by simp [Region.wanted,h1]) hK
 ·rw [h4] at hK
  simp only at hK
  obtain ⟨g1,g2⟩:=guard_wanted hT h1 h2 h3
  split at hK
  ·rename_i q hq
   cases q
   ·simp only [bcase] at hK
    rw [set_getD hq (by simp)] at hK
    split at hK
    ·rename_i hw; exact hdo (by rw [g1 _ hq]; exact hw) hK
    ·rename_i hw; exact hskip (by rw [g1 _ hq]; simpa using hw) hK
   ·simp only [bcase] at hK
    rw [set_getD hq (by simp)] at hK
    split at hK
    ·rename_i hw; exact hdo (by rw [g1 _ hq]; exact hw) hK
    ·rename_i hw; exact hskip (by rw [g1 _ hq]; simpa using hw) hK
  ·rename_i hq
   exact hskip (g2 hq) hK
  ·exact hK.elim

abbrev Cx:=Sg×List Blk×List Blk
def Xok (σ0:Sg) (h0:List Blk) (w0:Base) (c:Cx) (w:World):Prop:=Inv σ0 h0 w0 c.1 c.2.2 c.2.1 w
def Xle (c c':Cx):Prop:=c'.2.2=c.2.2/\Cle c.2.2 (c.1,c.2.1) (c'.1,c'.2.1)
theorem Xle.refl (c:Cx):Xle c c:=⟨rfl,Cle.refl _ _⟩
theorem Xle.trans {c1 c2 c3:Cx} (h1:Xle c1 c2) (h2:Xle c2 c3):Xle c1 c3:=by
 obtain ⟨e1,l1⟩:=h1
 obtain ⟨e2,l2⟩:=h2
 rw [e1] at l2
 exact ⟨e2.trans e1,Cle.trans l1 l2⟩
theorem UpIn.x {ops:Array Oper} {o:Oper} {x:Value} {a:Act} {σ:Sg} {ls h:List Blk} (H:UpIn P ops (Cok σ0 h0 w0 h) (Cle h) o x a (σ,ls)):UpIn P ops (Xok σ0 h0 w0) Xle o x a (σ,ls,h):=fun c' hc=>by
 obtain ⟨e,l⟩:=hc
 have:=H (c'.1,c'.2.1) l
 have e2:Xok σ0 h0 w0 c'=Cok σ0 h0 w0 h (c'.1,c'.2.1):=by
  funext w
  simp only [Xok,Cok]
  rw [e]
 rw [e2]; exact this

theorem x_op (hΓ:SndΓ P Γ) {ops:Array Oper} {gl:List GI} (hg:compGs P ops ops.toList=some gl) {Q:Exit->Act->World->Prop} {qs:Nat->Bool} {d0:List Deferred} {K:List V->List Blk->List Blk->Prop} {q:Bool} {k:Nat} {g:GI} {m:XC}
  (hgk:gl[k]?=some g) (hkd:kdK qs gl q k=true) {W:Act->Cx->Prop} {σ:Sg} {t:List V} {a:Act} {ls h:List Blk} (hT:TRel σ t a.tmps h.length ls.length) (hd:a.defers=d0) (hK:xwp Γ (.tk q g m) t ls h K)
  (hgo:∀ (σ':Sg) (t':List V) (a':Act) (ls' h':List Blk),(∃ w,Inv σ0 h0 w0 σ' h' ls' w)->TRel σ' t' a'.tmps h'.length ls'.length->a'.defers=d0->xwp Γ m t' ls' h' K->W a' (σ',ls',h'))
  {w:World} (hw:Inv σ0 h0 w0 σ h ls w):wpOp P ops Q k (fun a' w'=>∃ c',(qs k=true->Xle (σ,ls,h) c')/\Xok σ0 h0 w0 c' w'/\W a' c') a w:=by
 obtain ⟨o,ho,hco⟩:=compGs_get hg hgk
 have ho':ops[k]?=some o:=by simpa using ho
 obtain ⟨hi,hdst,hgd⟩:=compG_spec hco
 cases q with
 | true =>
  simp only [xwp] at hK
  simp only [kdK,cond_true,stK,caK,hgk,Bool.and_eq_true] at hkd
  obtain ⟨v,x,u1,u2,u3⟩:=quiet_up hΓ hco hkd.1 ⟨w,hw⟩ hT hK
  refine wpOp_of_qOp (C:=Cok σ0 h0 w0 h (σ,ls)) (K:=fun a'=>a'=a.put o.dst x) hw (fun a' w' hok e=>?_) ((u1 _ (Cle.refl h _)).qOp ho' rfl)
  subst e
  exact ⟨(σ,ls,h),fun _=>Xle.refl _,hok,hgo σ _ _ ls h ⟨w,hw⟩ u2 (by rw [put_defers,hd]) u3⟩
 | false =>
  simp only [xwp] at hK
  simp only [kdK,cond_false,Bool.or_eq_true,Bool.not_eq_true'] at hkd
  rcases hkd with hal|hqs
  ·simp only [alK,hgk,Bool.and_eq_true] at hal
   have hgn:g.g=none:=by simpa using hal.2
   have hog:o.guard=none:=by
    rcases hgd with ⟨h1,_⟩|⟨_,_,_,_,_,_,_,h4⟩
    ·exact h1
    ·rw [hgn] at h4; cases h4
   simp only [gwp,hgn] at hK
   obtain ⟨σ',B,v,x,w',m1,m2,m3,m4,m5,m6,m7⟩:=makes hi hal.1 hw hT hK
   unfold wpOp
   simp only [ho']
   rw [if_pos (by simp [Region.wanted,hog])]
   refine .inl ?_
   unfold Oper.wp
   rw [m1]
   rw [hdst] at m7
   exact ⟨(σ',ls++[B],h),fun _=>⟨rfl,m2⟩,m3,hgo σ' _ _ _ h ⟨w',m3⟩ (m4.put o.dst m5 m6) (by rw [put_defers,hd]) m7⟩
  ·have hdo:iwp Γ g.op t ls h (fun t v ls h=>xwp Γ m (putD t g.dst v) ls h K)->o.wp P a w (fun a' w'=>∃ c',(qs k=true->Xle (σ,ls,h) c')/\Xok σ0 h0 w0 c' w'/\W a' c') Q:=fun hK=>by
    refine acts_all hΓ hi σ0 h0 w0 σ t a ls h w _ _ Q hw hT hK (fun σ' t2 v x ls' h' w2 H' hT' hv hx hK'=>?_)
    rw [hdst] at hK'
    exact ⟨(σ',ls',h'),fun e=>(by rw [hqs] at e; cases e),H',hgo σ' _ _ ls' h' ⟨w2,H'⟩ (hT'.put o.dst hv hx) (by rw [put_defers,hd]) hK'⟩
   have hskip:xwp Γ m (putD t g.dst (.tup [])) ls h K->∃ c',(qs k=true->Xle (σ,ls,h) c')/\Xok σ0 h0 w0 c' w/\W (a.put o.dst undef) c':=fun hK=>by
    rw [hdst] at hK
    exact ⟨(σ,ls,h),fun _=>Xle.refl _,hw,hgo σ _ _ ls h ⟨w,hw⟩ (hT.put o.dst rfl (.inr rfl)) (by rw [put_defers,hd]) hK⟩
   unfold wpOp
   simp only [ho']
   unfold gwp at hK
   rcases hgd with ⟨h1,h2⟩|⟨j,want,oj,d,h1,h2,h3,h4⟩
   ·rw [h2] at hK
    rw [if_pos (by simp [Region.wanted,h1])]
    exact .inl (hdo hK)
   ·rw [h4] at hK
    simp only at hK
    obtain ⟨g1,g2⟩:=guard_wanted hT h1 h2 h3
    split at hK
    ·rename_i q hq
     rw [g1 q hq]
     cases q
     ·simp only [bcase] at hK
      rw [set_getD hq (by simp)] at hK
      split at hK
      ·rename_i hw'; rw [if_pos hw']; exact .inl (hdo hK)
      ·rename_i hw'; rw [if_neg hw']; exact hskip hK
     ·simp only [bcase] at hK
      rw [set_getD hq (by simp)] at hK
      split at hK
      ·rename_i hw'; rw [if_pos hw']; exact .inl (hdo hK)
      ·rename_i hw'; rw [if_neg hw']; exact hskip hK
    ·rename_i hq
     rw [g2 hq,if_neg (by simp)]
     exact hskip hK
    ·exact hK.elim

theorem xt_sound (hΓ:SndΓ P Γ) {ops:Array Oper} {gl:List GI} (hg:compGs P ops ops.toList=some gl) (hsel:Region.noSelect ops=true) {Q:Exit->Act->World->Prop} (hQ:∀ c a w,¬ Q (.panic c) a w) {qs:Nat->Bool} (d0:List Deferred) (K:List V->List Blk->List Blk->Prop) :
  ∀ (n:Nat) (x:XT) (m:XC) (listed:Array Bool) (σ:Sg) (t:List V) (a:Act) (ls h:List Blk),xCode gl x=some m->okX .any ops (puK gl) qs (kdK qs gl) n x listed=true->Closed .any ops listed->(∃ w,Inv σ0 h0 w0 σ h ls w) ->
   TRel σ t a.tmps h.length ls.length->a.defers=d0->xwp Γ m t ls h K ->
   wpX P .any ops Q (Xok σ0 h0 w0) Xle qs (fun a c=>∃ t,TRel c.1 t a.tmps c.2.2.length c.2.1.length/\a.defers=d0/\K t c.2.1 c.2.2) n listed a (σ,ls,h):=by
 intro n
 induction n with
 | zero =>
  intro x m listed σ t a ls h hc hok hcl hex hT hd hK
  cases x with
  | done =>
   simp only [xCode,Option.some.injEq] at hc
   subst hc
   simp only [okX] at hok
   exact ⟨List.isEmpty_iff.1 hok,t,hT,hd,hK⟩
  | tk=>simp [okX] at hok
  | two=>simp [okX] at hok
  | three=>simp [okX] at hok
 | succ n ih =>
  intro x m listed σ t a ls h hc hok hcl hex hT hd hK
  cases x with
  | done=>simp [okX] at hok
  | tk q k r =>
   simp only [xCode] at hc
   split at hc
   ·rename_i g m' hgk hm
    cases hc
    simp only [okX,Bool.and_eq_true,Bool.or_eq_true,decide_eq_true_eq] at hok
    obtain ⟨⟨hkd,hway⟩,hrest⟩:=hok
    rcases hway with h1|⟨⟨⟨h1,h2⟩,h3⟩,h4⟩
    ·have hr:k∈Region.ready .any ops listed:=by rw [h1]; simp
     refine wpX_ready h1 (by simp) fun i hi w hw=>?_
     have:i=k:=by simpa using hi
     subst this
     exact x_op hΓ hg hgk hkd hT hd hK (fun σ' t' a' ls' h' i1 i2 i3 i4=>ih r m' _ σ' t' a' ls' h' hm hrest (hcl.set hr) i1 i2 i3 i4) hw
    ·subst h1
     have hr:k∈Region.ready .any ops listed:=by simpa using h2
     obtain ⟨o,ho,hco⟩:=compGs_get hg hgk
     have ho':ops[k]?=some o:=by simpa using ho
     simp only [xwp] at hK
     rcases h4 with h4|h4
     ·have hp:g.op.pure=true:=by simpa only [puK,hgk] using h4
      obtain ⟨v,x,u1,u2,u3⟩:=pure_up hco hp hT hK
      exact wpX_first (R:=fun _ _=>True) (ps:=fun _=>True) Xle.refl (fun _=>trivial) (fun _ _=>trivial) (fun _ _ _ _ _=>trivial) ho' (Region.noSelect_spec hsel) (fun c a w hh=>absurd hh (hQ _ _ _)) n listed a _ hcl (Region.free_spec ho' h3)
       (fun _ _ _ _=>trivial) hr (fun c' _=>u1 _) (ih r m' _ σ _ _ ls h hm hrest (hcl.set hr) hex u2 (by rw [put_defers,hd]) u3)
     ·simp only [kdK,cond_true,stK,caK,hgk,Bool.and_eq_true] at hkd
      obtain ⟨v,x,u1,u2,u3⟩:=quiet_up hΓ hco hkd.1 hex hT hK
      exact wpX_first (R:=Xle) (ps:=fun j=>qs j=true) Xle.refl Xle.refl Xle.trans (fun j c c' hj hle=>hle hj) ho' (Region.noSelect_spec hsel) (fun c a w hh=>absurd hh (hQ _ _ _)) n listed a _ hcl (Region.free_spec ho' h3)
       (passB_spec hcl.1 h4) hr u1.x (ih r m' _ σ _ _ ls h hm hrest (hcl.set hr) hex u2 (by rw [put_defers,hd]) u3)
   ·cases hc
  | two q1 k1 r1 q2 k2 r2 =>
   simp only [xCode] at hc
   split at hc
   ·rename_i g1 m1 g2 m2 hgk1 hm1 hgk2 hm2
    cases hc
    simp only [okX,Bool.and_eq_true,decide_eq_true_eq] at hok
    obtain ⟨⟨⟨⟨h1,hkd1⟩,hkd2⟩,hrest1⟩,hrest2⟩:=hok
    have hr1:k1∈Region.ready .any ops listed:=by rw [h1]; simp
    have hr2:k2∈Region.ready .any ops listed:=by rw [h1]; simp
    have hK1:xwp Γ (.tk q1 g1 m1) t ls h K:=hK.1
    have hK2:xwp Γ (.tk q2 g2 m2) t ls h K:=hK.2
    refine wpX_ready h1 (by simp) fun i hi w hw=>?_
    rcases List.mem_cons.1 hi with rfl|hi
    ·exact x_op hΓ hg hgk1 hkd1 hT hd hK1 (fun σ' t' a' ls' h' i1 i2 i3 i4=>ih r1 m1 _ σ' t' a' ls' h' hm1 hrest1 (hcl.set hr1) i1 i2 i3 i4) hw
    ·have:i=k2:=by simpa using hi
     subst this
     exact x_op hΓ hg hgk2 hkd2 hT hd hK2 (fun σ' t' a' ls' h' i1 i2 i3 i4=>ih r2 m2 _ σ' t' a' ls' h' hm2 hrest2 (hcl.set hr2) i1 i2 i3 i4) hw
   ·cases hc
  | three q1 k1 r1 q2 k2 r2 q3 k3 r3 =>
   simp only [xCode] at hc
   split at hc
   ·rename_i g1 m1 g2 m2 g3 m3 hgk1 hm1 hgk2 hm2 hgk3 hm3
    cases hc
    simp only [okX,Bool.and_eq_true,decide_eq_true_eq] at hok
    obtain ⟨⟨⟨⟨⟨⟨h1,hkd1⟩,hkd2⟩,hkd3⟩,hrest1⟩,hrest2⟩,hrest3⟩:=hok
    have hr1:k1∈Region.ready .any ops listed:=by rw [h1]; simp
    have hr2:k2∈Region.ready .any ops listed:=by rw [h1]; simp
    have hr3:k3∈Region.ready .any ops listed:=by rw [h1]; simp
    have hK1:xwp Γ (.tk q1 g1 m1) t ls h K:=hK.1
    have hK2:xwp Γ (.tk q2 g2 m2) t ls h K:=hK.2.1
    have hK3:xwp Γ (.tk q3 g3 m3) t ls h K:=hK.2.2
    refine wpX_ready h1 (by simp) fun i hi w hw=>?_
    rcases List.mem_cons.1 hi with rfl|hi
    ·exact x_op hΓ hg hgk1 hkd1 hT hd hK1 (fun σ' t' a' ls' h' i1 i2 i3 i4=>ih r1 m1 _ σ' t' a' ls' h' hm1 hrest1 (hcl.set hr1) i1 i2 i3 i4) hw
    ·rcases List.mem_cons.1 hi with rfl|hi
     ·exact x_op hΓ hg hgk2 hkd2 hT hd hK2 (fun σ' t' a' ls' h' i1 i2 i3 i4=>ih r2 m2 _ σ' t' a' ls' h' hm2 hrest2 (hcl.set hr2) i1 i2 i3 i4) hw
     ·have:i=k3:=by simpa using hi
      subst this
      exact x_op hΓ hg hgk3 hkd3 hT hd hK3 (fun σ' t' a' ls' h' i1 i2 i3 i4=>ih r3 m3 _ σ' t' a' ls' h' hm3 hrest3 (hcl.set hr3) i1 i2 i3 i4) hw
   ·cases hc

theorem drx_sound (hΓ:SndΓ P Γ) (hm:P.follows .mixedOrders=true) {id:Nat} {ops:Array Oper} {gl:List GI} (hg:compGs P ops ops.toList=some gl) {x:XC} {c:Bool} (hl:drxOfQ c ops gl=some x) {σ:Sg} {t:List V} {a:Act} {ls h:List Blk} {w:World} {K:List V->List Blk->List Blk->Prop} {Q:Exit->Act->World->Prop}
  (H:Inv σ0 h0 w0 σ h ls w) (hT:TRel σ t a.tmps h.length ls.length) (hK:xwp Γ x t ls h K)
  (hn:∀ σ' t' ls' h' w' a',Inv σ0 h0 w0 σ' h' ls' w'->TRel σ' t' a'.tmps h'.length ls'.length->a'.defers=a.defers->K t' ls' h'->Q .normal a' w') (hQ:∀ c a w,¬ Q (.panic c) a w) :
  (Code.region id ops true).wp P Q a w:=by
 unfold drxOfQ at hl
 split at hl
 ·rename_i hsel
  simp only at hl
  split at hl
  ·rename_i xt htk
   split at hl
   ·rename_i hc
    have hcl:Closed .any ops (Array.replicate ops.size false):=⟨by simp,fun j oj _ hl=>(by rw [getD_replicate_false] at hl; cases hl)⟩
    have hw:=H.drawn (w.drawn+1)
    have:=xt_sound (Q:=Q) hΓ hg hsel hQ a.defers K ops.size xt x _ σ t a ls h hl hc hcl ⟨_,hw⟩ hT rfl hK
    refine wp_region_any hm (wpAny_of_wpX (C:=Cx) (Ok:=Xok σ0 h0 w0) (le:=Xle) (fun a' c' w' hF hok=>?_) ops.size _ a (σ,ls,h) _ hw this)
    obtain ⟨t',i1,i2,i3⟩:=hF
    exact hn c'.1 t' c'.2.1 c'.2.2 w' a' hok i1 i2 i3
   ·cases hl
  ·cases hl
 ·cases hl
end
end Go.D

