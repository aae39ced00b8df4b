/- Package untyped: asked; the document's. -/
import Derived.Test.YtcdfofeolgbnbaaGreatZ11
import Derived.Test.YtcdfofeolgbnbaaGreatZ25
import Derived.Test.YtcdfofeolgbnbaaGreatZ23
import Derived.Test.YtcdfofeolgbnbaaGreatZ18
import Derived.Test.YtcdfofeolgbnbaaGreatZ24
import Derived.Test.YtcdfofeolgbnbaaGreatZ17
/- Package untyped: Reset: its rounds,the walk. -/
namespace Go.Proofs.YtcdfofeolgbnbaaGreat
open Go.D
set_option linter.all false
set_option maxRecDepth 100000
set_option maxHeartbeats 400000

def rsN (c:Cap):Cap:=⟨c.ty,c.obj,c.bits,(c.mark-1)/64*64,c.guard,c.gbits,c.badge,c.rights,c.asid,c.vaddr,c.line⟩
def rsS (x:Int) (m:M) (c:Cap):M:=(zeroX m (c.obj+(c.mark-1)/64*64) (c.mark-(c.mark-1)/64*64)).scX x (rsN c)
def rsW (x:Int):Nat->M->Cap->Option Int->M×Option Int×Int
 | 0,m,_,u=>(m,u,0)
 | k+1,m,c,u=>if c.mark<=0 then (m,u,0) else match u with
  | none=>rsW x k (rsS x m c) (rsN c) none
  | some v=>if v<=0 then (m,some v,3) else rsW x k (rsS x m c) (rsN c) (some (v-1))
structure CB (c:Cap):Prop where
 obj:1024<=c.obj/\c.obj<=65535
 mark:0<=c.mark/\c.mark<=32768
theorem cb_of {c:Cap} (h:rightB c=true) (h1:c.ty=1):CB c:=by
 have hb:=right_bounds h
 have h4:=hb.mark
 have h5:=hb.obj
 unfold rightB at h
 rw [if_neg (by omega),if_pos h1] at h
 split at h
 ·cases h
 ·rename_i hn
  split at h
  ·cases h
  ·rename_i h2
   have:0<uRaw c.bits:=by
    have:c.bits=4\/c.bits=5\/c.bits=6\/c.bits=7\/c.bits=8\/c.bits=9\/c.bits=10\/c.bits=11\/c.bits=12\/c.bits=13\/c.bits=14\/c.bits=15:=by omega
    rcases this with e|e|e|e|e|e|e|e|e|e|e|e<;>rw [e]<;>decide
   exact ⟨⟨by omega,h5.2⟩,h4⟩
theorem CB.n {c:Cap} (h:CB c) (h0:¬ c.mark<=0):CB (rsN c)/\(rsN c).mark<c.mark:=by
 obtain ⟨h1,h2⟩:=h
 exact ⟨⟨h1,by simp only [rsN]; omega⟩,by simp only [rsN]; omega⟩
theorem gV_cb {m:M} {x:Int} (h:(m.gV x).cap.ty=1):CB (m.gV x).cap:=by
 have:=m.gV_u x
 unfold slotRB at this
 simp only [Bool.and_eq_true] at this
 exact cb_of this.2.1 h

def uT (n:Nat):List V:=[.s .u, .s .u, .s .u, .s (.p (.l 0) 0), .s (.p (.l 1) 0), .s (.p (.l 2) 0), .s (.p (.l 3) 0), .s (.p (.l 4) 0), .s .u, .s .u, .s .u, .s .u, .s .u, .s .u, .s .u, .s .u, .s .u, .s .u, .s .u, .s .u, .s .u, .s .u, .s .u,
 .s (.fn 153 [(.g n,0)]), .s .u, .s .u, .s .u, .s .u, .s .u, .s .u, .s .u, .s .u, .s .u, .s .u, .s .u, .s .u, .s .u, .s .u, .s .u, .s .u, .s .u, .s .u, .s .u, .s .u]
def uLS (a:Nat) (x:Int) (up:S) (e:Int) (c:Cap):List Blk:=[⟨.rw,[.p (.g a) 0],1⟩,⟨.rw,[.i .i64 x],1⟩,⟨.rw,[up],1⟩,⟨.rw,[.i .i64 e],1⟩,⟨.rw,c.cl,11⟩]
def isU:Option V->Bool
 | some (.s .u)=>true
 | none=>true
 | _=>false
theorem mask_id:∀ (ds:List Nat) {t:List V},ds.all (fun d=>isU t[d]?)=true->maskT ds t=t
 | [],_,_=>rfl
 | d::ds,t,h=>by
  simp only [List.all_cons,Bool.and_eq_true] at h
  have e:t.set d (.s .u)=t:=by
   refine List.ext_getElem? fun i=>?_
   rw [List.getElem?_set]
   split
   ·rename_i e
    subst e
    have h1:=h.1
    split
    ·rename_i hl
     rw [List.getElem?_eq_getElem hl] at h1 ⊢
     unfold isU at h1
     split at h1
     ·rename_i e; exact e.symm
     ·rename_i e; cases e
     ·cases h1
    ·rename_i hl
     rw [List.getElem?_eq_none (by omega)]
   ·rfl
  simp only [maskT,e]
  exact mask_id ds h.2
noncomputable def TUr:Tab:=addT 67 cap9G (addT 41 nextG (addT 90 ckG (addT 91 unitG (addT 92 zeroG (addT 71 setCap9G (noT))))))
theorem TUr_snd:TUr.Snd Tryz.prog:=addT_snd ok67 cap9_snd (addT_snd ok41 next_snd (addT_snd ok90 ck_snd (addT_snd ok91 unit_snd (addT_snd ok92 zero_snd (addT_snd ok71 setCap9_snd ((noT_snd _)))))))
section
variable {asg body:DC} {a b:Nat} {n:Nat} {c:Cap} {x y u:Int} {h:List Blk} {m m0:M} {d:Nat}
theorem rs_r0 (hab:findRf df27.body=some (asg,body)) (hd:h[d]?=some (uB u)) (hi:i64 u) (hu:u<=0):RM (rndOf TUr.Γ [24] asg body) [.s (.i .i64 y)] (uT n,uLS a x (.p (.g d) 0) 0 c) h fun p u' h'=>p=some .ret/\u'=(uT n,uLS a x (.p (.g d) 0) 3 c)/\h'=h:=by
 intro K' hK
 cases hab
 refine rnd_rule2 (Tab.ok_Γ _) 60 1 ?_
 obtain ⟨c0,c1,c2,c3,c4,c5,c6,c7,c8,c9,c10⟩:=c
 simp only [uB] at hd
 simp (maxSteps:=999999) only [go_sem,simprocAttr,↓qT,↓qF,TUr,unitG,hd,hi,hu,uT,uLS,bindT,Cap.cl,put,fillP,sub,EVt]
 refine run_sound (Tab.ok_Γ _) 60 _ _ _ _ ?_
 simp (maxSteps:=999999) only [go_sem,simprocAttr,↓qT,↓qF,TUr,unitG,hd,hi,hu,put,fillP,sub,EVt]
 refine rndE_mk ⟨uT n,uLS a x (.p (.g d) 0) 3 ⟨c0,c1,c2,c3,c4,c5,c6,c7,c8,c9,c10⟩,h⟩ (Wk.keep 5 rfl rfl (by simp only [go_sem,simprocAttr,↓qT,↓qF,uT]) (by rfl) (by rfl)) rfl ?_
 rw [mask_id _ (by rfl)]
 exact hK _ _ _ ⟨rfl,rfl,rfl⟩
theorem rs_r1 (hab:findRf df27.body=some (asg,body)) (H:IsMem h a b m0) (hc:CB c) (h0:¬ c.mark<=0):RM (rndOf TUr.Γ [24] asg body) [.s (.i .i64 ((c.mark-1)/64*64))] (uT n,uLS a x .np 0 c) (setM h a b m++[uB y]) fun p u' h'=>p=none/\u'=(uT n,uLS a x .np 0 (rsN c))/\h'=setM h a b (rsS x m c)++[uB y]:=by
 intro K' hK
 cases hab
 refine rnd_rule2 (Tab.ok_Γ _) 60 1 ?_
 obtain ⟨⟨o1,o2⟩,⟨k1,k2⟩⟩:=hc
 unfold rsS rsN at hK
 obtain ⟨c0,c1,c2,c3,c4,c5,c6,c7,c8,c9,c10⟩:=c
 simp only at h0 o1 o2 k1 k2 hK ⊢
 obtain ⟨z,hz⟩:∃ z,(c3-1)/64*64=z:=⟨_,rfl⟩
 rw [hz] at hK ⊢
 have q1:IntKind.i64.wrap (c1+z)=c1+z:=by rw [wrap64]<;>omega
 have q2:IntKind.i64.wrap (c3-z)=c3-z:=by rw [wrap64]<;>omega
 have q3:¬ c1+z<1024:=by omega
 have hmf:=fun f m rest=>memF_app (f:=f) (X:=[uB y]) (m':=m) (rest:=rest) H
 simp only [uB] at hmf hK ⊢
 simp (maxSteps:=999999) only [go_sem,simprocAttr,↓qT,↓qF,TUr,unitG,uB,hmf,zeroG,zeroM,setCap9G,setCap9M,capF,cap_eta,q1,q2,q3,uT,uLS,bindT,Cap.cl,put,fillP,sub,EVt]
 refine run_sound (Tab.ok_Γ _) 60 _ _ _ _ ?_
 simp (maxSteps:=999999) only [go_sem,simprocAttr,↓qT,↓qF,TUr,unitG,uB,hmf,zeroG,zeroM,setCap9G,setCap9M,capF,cap_eta,q1,q2,q3,Cap.cl,put,fillP,sub,EVt]
 refine rndE_mk ⟨uT n,uLS a x .np 0 ⟨c0,c1,c2,z,c4,c5,c6,c7,c8,c9,c10⟩,_⟩ (Wk.keep 5 rfl rfl (by simp only [go_sem,simprocAttr,↓qT,↓qF,uT]) (by rfl) (by rfl)) rfl ?_
 rw [mask_id _ (by rfl)]
 exact hK _ _ _ ⟨rfl,rfl,rfl⟩
theorem rs_r2 (hab:findRf df27.body=some (asg,body)) (H:IsMem h a b m0) (hc:CB c) (h0:¬ c.mark<=0) (hi:i64 u) (hu:¬ u<=0) (hda:d≠a) (hdb:d≠b) (hdl:d<h.length):RM (rndOf TUr.Γ [24] asg body) [.s (.i .i64 ((c.mark-1)/64*64))] (uT n,uLS a x (.p (.g d) 0) 0 c) (setM (h.set d (uB u)) a b m++[uB y]) fun p u' h'=>p=none/\u'=(uT n,uLS a x (.p (.g d) 0) 0 (rsN c))/\h'=setM (h.set d (uB (u-1))) a b (rsS x m c)++[uB y]:=by
 intro K' hK
 cases hab
 refine rnd_rule2 (Tab.ok_Γ _) 60 1 ?_
 obtain ⟨⟨o1,o2⟩,⟨k1,k2⟩⟩:=hc
 unfold rsS rsN at hK
 obtain ⟨c0,c1,c2,c3,c4,c5,c6,c7,c8,c9,c10⟩:=c
 simp only at h0 o1 o2 k1 k2 hK ⊢
 obtain ⟨z,hz⟩:∃ z,(c3-1)/64*64=z:=⟨_,rfl⟩
 rw [hz] at hK ⊢
 have q1:IntKind.i64.wrap (c1+z)=c1+z:=by rw [wrap64]<;>omega
 have q2:IntKind.i64.wrap (c3-z)=c3-z:=by rw [wrap64]<;>omega
 have q3:¬ c1+z<1024:=by omega
 have H1:∀ v,IsMem (h.set d (uB v)) a b m0:=fun v=>⟨H.ne,by rw [List.getElem?_set_ne hda]; exact H.ha,by rw [List.getElem?_set_ne hdb]; exact H.hb⟩
 have hmf:=fun v f m rest=>memF_app (f:=f) (X:=[uB y]) (m':=m) (rest:=rest) (H1 v)
 have g1:(setM (h.set d (uB u)) a b m++[uB y])[d]?=some (uB u):=by
  rw [List.getElem?_append_left (by rw [setM_len,List.length_set]; exact hdl)]
  unfold setM
  rw [List.getElem?_set_ne (Ne.symm hdb),List.getElem?_set_ne (Ne.symm hda),List.getElem?_set_self hdl]
 have g2:(setM (h.set d (uB u)) a b m++[uB y]).set d (uB (u-1))=setM (h.set d (uB (u-1))) a b m++[uB y]:=by
  rw [List.set_append_left _ _ (by rw [setM_len,List.length_set]; exact hdl)]
  unfold setM
  rw [List.set_comm _ _ (Ne.symm hdb),List.set_comm _ _ (Ne.symm hda),List.set_set]
 simp only [uB] at hmf g1 g2 hK ⊢
 simp (maxSteps:=999999) only [go_sem,simprocAttr,↓qT,↓qF,TUr,unitG,uB,hi,hu,g1,g2,hmf,zeroG,zeroM,setCap9G,setCap9M,capF,cap_eta,q1,q2,q3,uT,uLS,bindT,Cap.cl,put,fillP,sub,EVt]
 refine run_sound (Tab.ok_Γ _) 60 _ _ _ _ ?_
 simp (maxSteps:=999999) only [go_sem,simprocAttr,↓qT,↓qF,TUr,unitG,uB,hi,hu,g1,g2,hmf,zeroG,zeroM,setCap9G,setCap9M,capF,cap_eta,q1,q2,q3,Cap.cl,put,fillP,sub,EVt]
 refine rndE_mk ⟨uT n,uLS a x (.p (.g d) 0) 0 ⟨c0,c1,c2,z,c4,c5,c6,c7,c8,c9,c10⟩,_⟩ (Wk.keep 5 rfl rfl (by simp only [go_sem,simprocAttr,↓qT,↓qF,uT]) (by rfl) (by rfl)) rfl ?_
 rw [mask_id _ (by rfl)]
 exact hK _ _ _ ⟨rfl,rfl,rfl⟩
end

theorem chunks1_is' {h:List Blk} {x:Int} {u:U} {R:Rnd} {K:Option Ex->U->List Blk->Prop} {k n:Nat} (hn:n=h.length) (hx:x<=1000000000000) (hw:cw R K k x h u) :
  isem 153 [.s (.p (.g n) 0)] 1 u (h++[uB x]) R K:=by subst hn; exact chunks1_is hx hw
theorem rs_cw1 {asg body:DC} {a b:Nat} {n:Nat} {x:Int} {h:List Blk} {m0:M} {K:Option Ex->U->List Blk->Prop} (hab:findRf df27.body=some (asg,body)) (H:IsMem h a b m0) :
  ∀ (k:Nat) (m:M) (c:Cap),CB c->c.mark<=k->(∀ c' y,K none (uT n,uLS a x .np 0 c') (setM h a b (rsW x k m c none).1++[uB y]))->cw (rndOf TUr.Γ [24] asg body) K k c.mark (setM h a b m) (uT n,uLS a x .np 0 c)
 | 0,m,c,_,hk,hK=>⟨by omega,hK c c.mark⟩
 | k+1,m,c,hc,hk,hK=>by
  by_cases h0:c.mark<=0
  ·simp only [rsW,h0,if_true] at hK
   simp only [cw,h0,if_true]
   exact hK c c.mark
  ·simp only [rsW,h0,if_false] at hK
   simp only [cw,h0,if_false]
   intro K' hK'
   refine rs_r1 hab H hc h0 _ fun p u' h' hh=>?_
   obtain ⟨rfl,rfl,rfl⟩:=hh
   refine hK' _ _ _ ⟨setM h a b (rsS x m c),by simp only [setM_len],rfl, ?_⟩
   obtain ⟨c1,c2⟩:=hc.n h0
   exact rs_cw1 hab H k (rsS x m c) (rsN c) c1 (by omega) hK
theorem rs_cw2 {asg body:DC} {a b:Nat} {n:Nat} {x:Int} {h:List Blk} {m0:M} {d:Nat} {K:Option Ex->U->List Blk->Prop} (hab:findRf df27.body=some (asg,body)) (H:IsMem h a b m0) (hda:d≠a) (hdb:d≠b) (hdl:d<h.length) :
  ∀ (k:Nat) (m:M) (c:Cap) (u:Int),CB c->c.mark<=k->i64 u->(∀ c' y m' u',rsW x k m c (some u)=(m',some u',0)->K none (uT n,uLS a x (.p (.g d) 0) 0 c') (setM (h.set d (uB u')) a b m'++[uB y])) ->
   (∀ c' y m' u',rsW x k m c (some u)=(m',some u',3)->K (some .ret) (uT n,uLS a x (.p (.g d) 0) 3 c') (setM (h.set d (uB u')) a b m'++[uB y]))->cw (rndOf TUr.Γ [24] asg body) K k c.mark (setM (h.set d (uB u)) a b m) (uT n,uLS a x (.p (.g d) 0) 0 c)
 | 0,m,c,u,_,hk,hi,hK,hK2=>⟨by omega,hK c c.mark _ _ rfl⟩
 | k+1,m,c,u,hc,hk,hi,hK,hK2=>by
  by_cases h0:c.mark<=0
  ·simp only [rsW,h0,if_true] at hK
   simp only [cw,h0,if_true]
   exact hK c c.mark _ _ rfl
  ·simp only [rsW,h0,if_false] at hK hK2
   simp only [cw,h0,if_false]
   intro K' hK'
   by_cases hu:u<=0
   ·simp only [hu,if_true] at hK2
    refine rs_r0 hab (d:=d) (u:=u) ?_ hi hu _ fun p u' h' hh=>?_
    ·rw [List.getElem?_append_left (by rw [setM_len,List.length_set]; exact hdl)]
     unfold setM
     rw [List.getElem?_set_ne (Ne.symm hdb),List.getElem?_set_ne (Ne.symm hda),List.getElem?_set_self hdl]
    ·obtain ⟨rfl,rfl,rfl⟩:=hh
     exact hK' _ _ _ ⟨setM (h.set d (uB u)) a b m,rfl,rfl,hK2 _ _ _ _ rfl⟩
   ·simp only [hu,if_false] at hK hK2
    refine rs_r2 hab H hc h0 hi hu hda hdb hdl _ fun p u' h' hh=>?_
    obtain ⟨rfl,rfl,rfl⟩:=hh
    refine hK' _ _ _ ⟨setM (h.set d (uB (u-1))) a b (rsS x m c),by simp only [setM_len,List.length_set],rfl, ?_⟩
    obtain ⟨c1,c2⟩:=hc.n h0
    unfold i64 at hi
    exact rs_cw2 hab H hda hdb hdl k (rsS x m c) (rsN c) (u-1) c1 (by omega) (by unfold i64; omega) hK hK2
theorem rsW_n {x:Int}:∀ (k:Nat) (m:M) (c:Cap),(rsW x k m c none).2=(none,0)
 | 0,m,c=>rfl
 | k+1,m,c=>by
  unfold rsW
  split
  ·rfl
  ·exact rsW_n k _ _

def rstR (m:M) (x:Int) (u:Option Int) (st:M->Option Int->List Blk):Res :=
 .br (decide ((m.gV x).cap.ty=1)) (.br (decide ((m.gX x).nxV x=0)) (.ok (.s (.i .i64 (rsW x (m.gV x).cap.mark.toNat ((m.gX x).nxX x) (m.gV x).cap u).2.2)) [] (st (rsW x (m.gV x).cap.mark.toNat ((m.gX x).nxX x) (m.gV x).cap u).1 (rsW x (m.gV x).cap.mark.toNat ((m.gX x).nxX x) (m.gV x).cap u).2.1))
  (.ok (.s (.i .i64 152)) [] (st ((m.gX x).nxX x) u))) (.ok (.s (.i .i64 60)) [] (st (m.gX x) u))
def rstM (b:Nat) (m:M) (st:M->List Blk):List V->Res
 | [.s (.i .i64 x), .s .np]=>rstR m x none fun m _=>st m
 | [.s (.i .i64 x), .s (.p (.g d) 0)]=>match (st m)[d]? with
  | some ⟨.rw,[.i .i64 u],1⟩=>.ob (i64 u) (rstR m x (some u) fun m u=>(st m).set d (uB (u.getD 0)))
  | _=>.bad
 | _=>.bad
noncomputable def rstG:=memF rstM
theorem cell_ne {h:List Blk} {a b d:Nat} {m:M} {u:Int} (H:IsMem h a b m) (hd:h[d]?=some (uB u)):d≠a/\d≠b/\d<h.length:=by
 refine ⟨?_, ?_, ?_⟩
 ·rintro rfl
  rw [H.ha] at hd
  simp [MB,uB] at hd
 ·rintro rfl
  rw [H.hb] at hd
  simp only [MW,uB,Option.some.injEq,Blk.mk.injEq] at hd
  obtain ⟨_,h1,_⟩:=hd
  cases hw:m.w with
  | nil=>rw [hw] at h1; simp [wc] at h1
  | cons y l=>rw [hw] at h1; simp [wc] at h1
 ·obtain ⟨h1,_⟩:=List.getElem?_eq_some_iff.1 hd
  exact h1
theorem set_back {h:List Blk} {d:Nat} {B:Blk} (hd:h[d]?=some B):h.set d B=h:=by
 obtain ⟨h1,h2⟩:=List.getElem?_eq_some_iff.1 hd
 rw [<-h2,List.set_getElem_self]
theorem cell_set {h:List Blk} {a b d:Nat} {m0 m:M} {u:Int} (hda:d≠a) (hdb:d≠b):(setM h a b m).set d (uB u)=setM (h.set d (uB u)) a b m:=by
 unfold setM
 rw [List.set_comm _ _ (Ne.symm hdb),List.set_comm _ _ (Ne.symm hda)]
theorem IsMem.cell {h:List Blk} {a b d:Nat} {m0:M} (H:IsMem h a b m0) (hda:d≠a) (hdb:d≠b) (u:Int):IsMem (h.set d (uB u)) a b m0 :=
 ⟨H.ne,by rw [List.getElem?_set_ne hda]; exact H.ha,by rw [List.getElem?_set_ne hdb]; exact H.hb⟩
theorem clean_cell {h:List Blk} {n d:Nat} {u:Int} (hc:clean n h=true):clean n (h.set d (uB u))=true:=clean_set hc (by rfl)
theorem rst_snd:Snd Tryz.prog 27 (FSpec.of rstG):=(fwp_sound (Tab.snd_Γ TUr_snd) mixed Tryz.func27 dc27).weaken fun args h K hc hS=>by
 refine fwp_runW (Tab.ok_Γ _) 200 ?_
 obtain ⟨a,b,m,rest,rfl,H,hS1⟩:=memF_spec (f:=rstM) hS
 clear hS
 have hS:=hS1
 clear hS1
 unfold rstM at hS
 split at hS
 ·rename_i x
  unfold rstR at hS
  simp only [spec_br,spec_ok,decide_eq_true_eq,decide_eq_false_iff_not] at hS
  obtain ⟨⟨c0,c1,c2,c3,c4,c5,c6,c7,c8,c9,c10⟩,hs⟩:∃ c,(m.gV x).cap=c:=⟨_,rfl⟩
  have hcb:=gV_cb (m:=m) (x:=x)
  rw [hs] at hS hcb
  simp only at hS hcb
  by_cases hty:c0=1
  rotate_left
  ·have hS:=hS.2 hty
   have hty':(c0==1)=false:=by simpa using hty
   simp (maxSteps:=999999) only [go_sem,simprocAttr,↓qT,↓qF,df27,TUr,cap9G,nextG,cap9M,nextM,ckG,memF_eq H,memF_set H,hs,hty',bne,Cap.cl,put,fillP,sub,EVt]
   refine fin_of (v:=.s (.i .i64 60)) (ls:=[]) (h:=setM h a b (m.gX x)) rfl (Wk.keep 0 rfl rfl (by simp only [go_sem,simprocAttr,↓qT,↓qF]) (by rfl) (by rfl)) ?_
   simp (maxSteps:=999999) only [go_sem,simprocAttr,↓qT,↓qF]
   exact hS
  subst hty
  have hS:=hS.1 rfl
  have hcb:=hcb rfl
  by_cases hnx:(m.gX x).nxV x=0
  rotate_left
  ·have hS:=hS.2 hnx
   have hnx':((m.gX x).nxV x==0)=false:=by simpa using hnx
   simp (maxSteps:=999999) only [go_sem,simprocAttr,↓qT,↓qF,df27,TUr,cap9G,nextG,cap9M,nextM,ckG,memF_eq H,memF_set H,hs,hnx',bne,Cap.cl,put,fillP,sub,EVt]
   refine fin_of (v:=.s (.i .i64 152)) (ls:=[]) (h:=setM h a b ((m.gX x).nxX x)) rfl (Wk.keep 0 rfl rfl (by simp only [go_sem,simprocAttr,↓qT,↓qF]) (by rfl) (by rfl)) ?_
   simp (maxSteps:=999999) only [go_sem,simprocAttr,↓qT,↓qF]
   exact hS
  have hS:=hS.1 hnx
  simp (maxSteps:=999999) only [go_sem,simprocAttr,↓qT,↓qF,df27,TUr,cap9G,nextG,cap9M,nextM,ckG,memF_eq H,memF_set H,hs,hnx,bne,setM_len,Cap.cl,put,fillP,sub,EVt]
  have hb:=hcb.mark
  simp only at hb
  refine more_wk (t':=uT h.length) (ls':=uLS a x .np 0 ⟨1,c1,c2,c3,c4,c5,c6,c7,c8,c9,c10⟩) (h':=setM h a b ((m.gX x).nxX x)++[uB c3]) (Wk.same (by rfl) (by rfl) (by simp only [go_sem,simprocAttr,↓qT,↓qF,uT])) ?_
  refine rf_rule (cs:=[(.g h.length,0)]) rfl rfl rfl rfl ?_
  refine chunks1_is' (k:=c3.toNat) (h:=setM h a b ((m.gX x).nxX x)) setM_len.symm (by omega) ?_
  rw [rsW_n] at hS
  refine rs_cw1 rfl H c3.toNat _ ⟨1,c1,c2,c3,c4,c5,c6,c7,c8,c9,c10⟩ hcb (by simp only; omega) fun c' y=>?_
  obtain ⟨d0,d1,d2,d3,d4,d5,d6,d7,d8,d9,d10⟩:=c'
  simp only [Option.getD_none]
  unfold swp
  refine run_sound (Tab.ok_Γ _) 60 _ _ _ _ ?_
  have hcm:clean h.length (setM h a b (rsW x c3.toNat ((m.gX x).nxX x) ⟨1,c1,c2,c3,c4,c5,c6,c7,c8,c9,c10⟩ none).1)=true:=setM_clean H hc H.ltb
  have hlm:(setM h a b (rsW x c3.toNat ((m.gX x).nxX x) ⟨1,c1,c2,c3,c4,c5,c6,c7,c8,c9,c10⟩ none).1).length=h.length:=setM_len
  simp (maxSteps:=999999) only [go_sem,simprocAttr,↓qT,↓qF,uT,uLS,Cap.cl,put,fillP,sub,EVt]
  refine fin_of (v:=.s (.i .i64 0)) (ls:=[]) (h:=setM h a b (rsW x c3.toNat ((m.gX x).nxX x) ⟨1,c1,c2,c3,c4,c5,c6,c7,c8,c9,c10⟩ none).1) rfl (.trans (Wk.keep 0 (ls:=[]) (t':=[.s (.i .i64 0)]) rfl rfl (by simp only [go_sem,simprocAttr,↓qT,↓qF]) (by rfl) (by rfl)) (Wk.keepH h.length (by rw [<-hlm,List.take_left' rfl]) (Nat.le_of_eq hlm.symm) (by simp only [go_sem,simprocAttr,↓qT,↓qF]) (by rfl) (by rw [hlm]; exact hcm) (by rfl))) ?_
  simp (maxSteps:=999999) only [go_sem,simprocAttr,↓qT,↓qF]
  exact hS
 ·rename_i x d
  split at hS
  ·rename_i u hd
   rw [setM_self H] at hd
   obtain ⟨hda,hdb,hdl⟩:=cell_ne H hd
   simp only [spec_ob] at hS
   obtain ⟨hi,hS⟩:=hS
   unfold rstR at hS
   have hset:∀ m u,(setM h a b m).set d (uB u)=setM (h.set d (uB u)) a b m:=fun m u=>cell_set (m0:=m) hda hdb
   have hself:=set_back hd
   change h.set d (uB u)=h at hself
   have hself':∀ m,setM (h.set d (uB u)) a b m=setM h a b m:=fun m=>by rw [hself]
   simp only [spec_br,spec_ok,decide_eq_true_eq,decide_eq_false_iff_not,hset,Option.getD_some,hself'] at hS
   obtain ⟨⟨c0,c1,c2,c3,c4,c5,c6,c7,c8,c9,c10⟩,hs⟩:∃ c,(m.gV x).cap=c:=⟨_,rfl⟩
   have hcb:=gV_cb (m:=m) (x:=x)
   rw [hs] at hS hcb
   simp only at hS hcb
   by_cases hty:c0=1
   rotate_left
   ·have hS:=hS.2 hty
    have hty':(c0==1)=false:=by simpa using hty
    simp (maxSteps:=999999) only [go_sem,simprocAttr,↓qT,↓qF,df27,TUr,cap9G,nextG,cap9M,nextM,ckG,memF_eq H,memF_set H,hs,hty',bne,Cap.cl,put,fillP,sub,EVt]
    refine fin_of (v:=.s (.i .i64 60)) (ls:=[]) (h:=setM h a b (m.gX x)) rfl (Wk.keep 0 rfl rfl (by simp only [go_sem,simprocAttr,↓qT,↓qF]) (by rfl) (by rfl)) ?_
    simp (maxSteps:=999999) only [go_sem,simprocAttr,↓qT,↓qF]
    exact hS
   subst hty
   have hS:=hS.1 rfl
   have hcb:=hcb rfl
   by_cases hnx:(m.gX x).nxV x=0
   rotate_left
   ·have hS:=hS.2 hnx
    have hnx':((m.gX x).nxV x==0)=false:=by simpa using hnx
    simp (maxSteps:=999999) only [go_sem,simprocAttr,↓qT,↓qF,df27,TUr,cap9G,nextG,cap9M,nextM,ckG,memF_eq H,memF_set H,hs,hnx',bne,Cap.cl,put,fillP,sub,EVt]
    refine fin_of (v:=.s (.i .i64 152)) (ls:=[]) (h:=setM h a b ((m.gX x).nxX x)) rfl (Wk.keep 0 rfl rfl (by simp only [go_sem,simprocAttr,↓qT,↓qF]) (by rfl) (by rfl)) ?_
    simp (maxSteps:=999999) only [go_sem,simprocAttr,↓qT,↓qF]
    exact hS
   have hS:=hS.1 hnx
   simp (maxSteps:=999999) only [go_sem,simprocAttr,↓qT,↓qF,df27,TUr,cap9G,nextG,cap9M,nextM,ckG,memF_eq H,memF_set H,hs,hnx,bne,setM_len,Cap.cl,put,fillP,sub,EVt]
   have hb:=hcb.mark
   simp only at hb
   refine more_wk (t':=uT h.length) (ls':=uLS a x (.p (.g d) 0) 0 ⟨1,c1,c2,c3,c4,c5,c6,c7,c8,c9,c10⟩) (h':=setM (h.set d (uB u)) a b ((m.gX x).nxX x)++[uB c3]) (Wk.same (by rfl) (by rw [hself']) (by simp only [go_sem,simprocAttr,↓qT,↓qF,uT])) ?_
   refine rf_rule (cs:=[(.g h.length,0)]) rfl rfl rfl rfl ?_
   refine chunks1_is' (k:=c3.toNat) (h:=setM (h.set d (uB u)) a b ((m.gX x).nxX x)) (by rw [setM_len,List.length_set]) (by omega) ?_
   have fin:∀ (e:Int) c' y m' u' (s:St),rsW x c3.toNat ((m.gX x).nxX x) ⟨1,c1,c2,c3,c4,c5,c6,c7,c8,c9,c10⟩ (some u)=(m',some u',e)->s.t=uT h.length->s.ls=uLS a x (.p (.g d) 0) e c'->s.h=setM (h.set d (uB u')) a b m'++[uB y]->fin h.length [.c 6 none] K .ret s:=fun e c' y m' u' s he e1 e2 e3=>by
    obtain ⟨t,ls,hh⟩:=s
    simp only at e1 e2 e3
    subst e1 e2 e3
    rw [he] at hS
    simp only [Option.getD_some] at hS
    obtain ⟨d0,d1,d2,d3,d4,d5,d6,d7,d8,d9,d10⟩:=c'
    have hcm:clean h.length (setM (h.set d (uB u')) a b m')=true:=setM_clean (H.cell hda hdb u') (clean_cell hc) H.ltb
    have hlm:(setM (h.set d (uB u')) a b m').length=h.length:=by rw [setM_len,List.length_set]
    refine fin_of (v:=.s (.i .i64 e)) (ls:=[]) (h:=setM (h.set d (uB u')) a b m') rfl (.trans (Wk.keep 0 (ls:=[]) (t':=[.s (.i .i64 e)]) rfl rfl (by simp only [go_sem,simprocAttr,↓qT,↓qF,uT,uLS]) (by rfl) (by rfl)) (Wk.keepH h.length (by rw [<-hlm,List.take_left' rfl]) (Nat.le_of_eq hlm.symm) (by simp only [go_sem,simprocAttr,↓qT,↓qF]) (by rfl) (by rw [hlm]; exact hcm) (by rfl))) ?_
    simp (maxSteps:=999999) only [go_sem,simprocAttr,↓qT,↓qF]
    exact hS
   refine rs_cw2 rfl H hda hdb hdl c3.toNat _ ⟨1,c1,c2,c3,c4,c5,c6,c7,c8,c9,c10⟩ u hcb (by simp only; omega) hi (fun c' y m' u' he=>?_) (fun c' y m' u' he=>?_)
   ·simp only [Option.getD_none]
    unfold swp
    refine run_sound (Tab.ok_Γ _) 60 _ _ _ _ ?_
    obtain ⟨d0,d1,d2,d3,d4,d5,d6,d7,d8,d9,d10⟩:=c'
    simp (maxSteps:=999999) only [go_sem,simprocAttr,↓qT,↓qF,uT,uLS,Cap.cl,put,fillP,sub,EVt]
    exact fin 0 ⟨d0,d1,d2,d3,d4,d5,d6,d7,d8,d9,d10⟩ y m' u' _ he rfl rfl rfl
   ·simp only [Option.getD_some]
    exact fin 3 c' y m' u' _ he rfl rfl rfl
  ·exact hS.elim
 ·exact hS.elim

end Go.Proofs.YtcdfofeolgbnbaaGreat

/- Package heap: slots,apart,within; the kernel's words. -/
namespace Go.Proofs.YtcdfofeolgbnbaaGreat
open Go.D
open Nat (reduceAdd reducePow reduceMul reduceSub reduceLeDiff reduceLT reduceEqDiff)
open Int (reduceNeg reduceLE reduceEq reduceNe reduceToNat)
open Go.D renaming istep → zy,pickR → zx,bin1R → zw,un1R → zv,eqS → zu,eq1 → zq,cmpS → zp,cmp1 → zj,isNil → zk,shows → zg,result → zZ,qT → zV,qF → zU
open List renaming set → zY,replicate → zX
open Option renaming map → zW
open Nat renaming reduceAdd → zQ,reducePow → yz,reduceMul → yy,reduceSub → yx,reduceLeDiff → yw,reduceLT → yv,reduceEqDiff → yu
open Int renaming reduceNeg → yq,reduceLE → yp,reduceEq → yj,reduceNe → yk,reduceToNat → yg,reducePow → yZ,reduceLT → yY,reduceAdd → yX,reduceSub → yW,reduceMul → yV,reduceBEq → yU,reduceBNe → yQ
set_option linter.all false
set_option maxRecDepth 100000
set_option maxHeartbeats 4000000

def slotsN (c:Cap):Int :=
 if rightB c then (if c.ty=3 then 3 else if c.ty=10 then (if c.bits=31 then 3 else IntKind.i64.wrap (1*2^min c.bits.toNat IntKind.i64.bits)) else if c.ty=2 then IntKind.i64.wrap (1*2^min c.bits.toNat IntKind.i64.bits) else 0) else 0
def slotAtV (c:Cap) (i:Int):Int:=if 0<=i/\i<slotsN c then IntKind.i64.wrap (c.obj+IntKind.i64.wrap (4*i)) else 0
def capIF (f:Cap->Int->Res):List V->Res
 | [x, .s (.i .i64 k)]=>capF (fun c=>f c k) [x]
 | _=>.bad
theorem capIF_spec {f:Cap->Int->Res} {args:List V} {K:V->List Blk->Prop} (h:(capIF f args).spec K):∃ (c:Cap) (k:Int),args=[.agg c.cl, .s (.i .i64 k)]/\(f c k).spec K:=by
 unfold capIF at h
 split at h
 ·obtain ⟨c,e,h⟩:=capF_spec h
  simp only [List.cons.injEq,and_true] at e
  subst e
  exact ⟨c,_,rfl,h⟩
 ·exact h.elim
def slotAtG (args:List V) (h:List Blk):Res:=capIF (fun c i=>.ok (.s (.i .i64 (slotAtV c i))) [] h) args
noncomputable def TSl:Tab:=addT 95 rightG (addT 96 hplaceG (noT))
theorem TSl_snd:TSl.Snd Tryz.prog:=addT_snd ok95 right_snd (addT_snd ok96 hplace_snd ((noT_snd _)))
theorem kinds3 (t:Int):t=3\/t=10\/t=2\/(¬ t=3/\¬ t=10/\¬ t=2):=by omega
theorem slotAt_snd:Snd Tryz.prog 30 (FSpec.of slotAtG):=snd_run TSl_snd mixed Tryz.func30 dc30 200 fun args h K hc hS=>by
 obtain ⟨c,i,rfl,hR⟩:=capIF_spec hS
 clear hS
 simp only [spec_ok,slotAtV] at hR
 cases hr:rightB c with
 | false =>
  have e:slotsN c=0:=by simp [slotsN,hr]
  rw [e,if_neg (by omega)] at hR
  have c1:0<=i->¬ (i<0):=by omega
  simp only [Cap.cl]
  by_cases c2:0<=i
  ·have c3:=c1 c2
   simp (maxSteps:=999999) only [EV0,zy,zx,zw,zv,zu,zq,zp,zj,zk,leT,zg,rvC,zZ,zY,zX,zW,↓zV,↓zU,reduceCtorEq,zQ,yz,yZ,yy,yx,yw,yv,yu,yq,yY,yp,yj,yk,yX,yW,yV,yg,yU,yQ,df30,TSl,rightG,hplaceG,capF,cap_eta,hr,sub,EVt,c2,c3,put]
   exact hR
  ·simp (maxSteps:=999999) only [EV0,zy,zx,zw,zv,zu,zq,zp,zj,zk,leT,zg,rvC,zZ,zY,zX,zW,↓zV,↓zU,reduceCtorEq,zQ,yz,yZ,yy,yx,yw,yv,yu,yq,yY,yp,yj,yk,yX,yW,yV,yg,yU,yQ,df30,TSl,rightG,hplaceG,capF,cap_eta,hr,sub,EVt,c2,put]
   exact hR
 | true =>
  have hb:=right_bounds hr
  have hb3:=hb.bits.1
  by_cases c2:0<=i
  ·by_cases c3:i<slotsN c
   ·rw [if_pos ⟨c2,c3⟩] at hR
    obtain ⟨t,o,b,d,e,g,i',j,k,l,m⟩:=c
    simp only [slotsN,hr,if_true] at c3 hR hb3
    simp only [Cap.cl]
    rcases kinds3 t with rfl|rfl|rfl|⟨k1,k2,k3⟩
    ·simp only [reduceEq,if_true,if_false] at c3
     simp (maxSteps:=999999) only [EV0,zy,zx,zw,zv,zu,zq,zp,zj,zk,leT,zg,rvC,zZ,zY,zX,zW,↓zV,↓zU,reduceCtorEq,zQ,yz,yZ,yy,yx,yw,yv,yu,yq,yY,yp,yj,yk,yX,yW,yV,yg,yU,yQ,df30,TSl,rightG,hplaceG,capF,cap_eta,hr,sub,EVt,c2,c3,put]
     exact hR
    ·by_cases k4:b=31
     ·subst k4
      simp only [reduceEq,if_true,if_false] at c3
      simp (maxSteps:=999999) only [EV0,zy,zx,zw,zv,zu,zq,zp,zj,zk,leT,zg,rvC,zZ,zY,zX,zW,↓zV,↓zU,reduceCtorEq,zQ,yz,yZ,yy,yx,yw,yv,yu,yq,yY,yp,yj,yk,yX,yW,yV,yg,yU,yQ,df30,TSl,rightG,hplaceG,capF,cap_eta,hr,sub,EVt,c2,c3,put]
      exact hR
     ·simp only [reduceEq,k4,if_true,if_false] at c3
      simp (maxSteps:=999999) only [EV0,zy,zx,zw,zv,zu,zq,zp,zj,zk,leT,zg,rvC,zZ,zY,zX,zW,↓zV,↓zU,reduceCtorEq,zQ,yz,yZ,yy,yx,yw,yv,yu,yq,yY,yp,yj,yk,yX,yW,yV,yg,yU,yQ,df30,TSl,rightG,hplaceG,capF,cap_eta,hr,sub,EVt,c2,k4,c3,hb3,put]
      exact hR
    ·simp only [reduceEq,if_true,if_false] at c3
     simp (maxSteps:=999999) only [EV0,zy,zx,zw,zv,zu,zq,zp,zj,zk,leT,zg,rvC,zZ,zY,zX,zW,↓zV,↓zU,reduceCtorEq,zQ,yz,yZ,yy,yx,yw,yv,yu,yq,yY,yp,yj,yk,yX,yW,yV,yg,yU,yQ,df30,TSl,rightG,hplaceG,capF,cap_eta,hr,sub,EVt,c2,c3,hb3,put]
     exact hR
    ·simp only [k1,k2,k3,if_false] at c3
     omega
   ·rw [if_neg (by omega)] at hR
    obtain ⟨t,o,b,d,e,g,i',j,k,l,m⟩:=c
    simp only [slotsN,hr,if_true] at c3 hb3
    simp only [Cap.cl]
    rcases kinds3 t with rfl|rfl|rfl|⟨k1,k2,k3⟩
    ·simp only [reduceEq,if_true,if_false] at c3
     simp (maxSteps:=999999) only [EV0,zy,zx,zw,zv,zu,zq,zp,zj,zk,leT,zg,rvC,zZ,zY,zX,zW,↓zV,↓zU,reduceCtorEq,zQ,yz,yZ,yy,yx,yw,yv,yu,yq,yY,yp,yj,yk,yX,yW,yV,yg,yU,yQ,df30,TSl,rightG,hplaceG,capF,cap_eta,hr,sub,EVt,c2,c3,put]
     exact hR
    ·by_cases k4:b=31
     ·subst k4
      simp only [reduceEq,if_true,if_false] at c3
      simp (maxSteps:=999999) only [EV0,zy,zx,zw,zv,zu,zq,zp,zj,zk,leT,zg,rvC,zZ,zY,zX,zW,↓zV,↓zU,reduceCtorEq,zQ,yz,yZ,yy,yx,yw,yv,yu,yq,yY,yp,yj,yk,yX,yW,yV,yg,yU,yQ,df30,TSl,rightG,hplaceG,capF,cap_eta,hr,sub,EVt,c2,c3,put]
      exact hR
     ·simp only [reduceEq,k4,if_true,if_false] at c3
      simp (maxSteps:=999999) only [EV0,zy,zx,zw,zv,zu,zq,zp,zj,zk,leT,zg,rvC,zZ,zY,zX,zW,↓zV,↓zU,reduceCtorEq,zQ,yz,yZ,yy,yx,yw,yv,yu,yq,yY,yp,yj,yk,yX,yW,yV,yg,yU,yQ,df30,TSl,rightG,hplaceG,capF,cap_eta,hr,sub,EVt,c2,k4,c3,hb3,put]
      exact hR
    ·simp only [reduceEq,if_true,if_false] at c3
     simp (maxSteps:=999999) only [EV0,zy,zx,zw,zv,zu,zq,zp,zj,zk,leT,zg,rvC,zZ,zY,zX,zW,↓zV,↓zU,reduceCtorEq,zQ,yz,yZ,yy,yx,yw,yv,yu,yq,yY,yp,yj,yk,yX,yW,yV,yg,yU,yQ,df30,TSl,rightG,hplaceG,capF,cap_eta,hr,sub,EVt,c2,c3,hb3,put]
     exact hR
    ·simp only [k1,k2,k3,if_false] at c3
     simp (maxSteps:=999999) only [EV0,zy,zx,zw,zv,zu,zq,zp,zj,zk,leT,zg,rvC,zZ,zY,zX,zW,↓zV,↓zU,reduceCtorEq,zQ,yz,yZ,yy,yx,yw,yv,yu,yq,yY,yp,yj,yk,yX,yW,yV,yg,yU,yQ,df30,TSl,rightG,hplaceG,capF,cap_eta,hr,sub,EVt,c2,c3,k1,k2,k3,put]
     exact hR
  ·rw [if_neg (by omega)] at hR
   obtain ⟨t,o,b,d,e,g,i',j,k,l,m⟩:=c
   simp only at hb3
   simp only [Cap.cl]
   rcases kinds3 t with rfl|rfl|rfl|⟨k1,k2,k3⟩
   ·simp (maxSteps:=999999) only [EV0,zy,zx,zw,zv,zu,zq,zp,zj,zk,leT,zg,rvC,zZ,zY,zX,zW,↓zV,↓zU,reduceCtorEq,zQ,yz,yZ,yy,yx,yw,yv,yu,yq,yY,yp,yj,yk,yX,yW,yV,yg,yU,yQ,df30,TSl,rightG,hplaceG,capF,cap_eta,hr,sub,EVt,c2,put]
    exact hR
   ·by_cases k4:b=31
    ·subst k4
     simp (maxSteps:=999999) only [EV0,zy,zx,zw,zv,zu,zq,zp,zj,zk,leT,zg,rvC,zZ,zY,zX,zW,↓zV,↓zU,reduceCtorEq,zQ,yz,yZ,yy,yx,yw,yv,yu,yq,yY,yp,yj,yk,yX,yW,yV,yg,yU,yQ,df30,TSl,rightG,hplaceG,capF,cap_eta,hr,sub,EVt,c2,put]
     exact hR
    ·simp (maxSteps:=999999) only [EV0,zy,zx,zw,zv,zu,zq,zp,zj,zk,leT,zg,rvC,zZ,zY,zX,zW,↓zV,↓zU,reduceCtorEq,zQ,yz,yZ,yy,yx,yw,yv,yu,yq,yY,yp,yj,yk,yX,yW,yV,yg,yU,yQ,df30,TSl,rightG,hplaceG,capF,cap_eta,hr,sub,EVt,c2,k4,hb3,put]
     exact hR
   ·simp (maxSteps:=999999) only [EV0,zy,zx,zw,zv,zu,zq,zp,zj,zk,leT,zg,rvC,zZ,zY,zX,zW,↓zV,↓zU,reduceCtorEq,zQ,yz,yZ,yy,yx,yw,yv,yu,yq,yY,yp,yj,yk,yX,yW,yV,yg,yU,yQ,df30,TSl,rightG,hplaceG,capF,cap_eta,hr,sub,EVt,c2,hb3,put]
    exact hR
   ·simp (maxSteps:=999999) only [EV0,zy,zx,zw,zv,zu,zq,zp,zj,zk,leT,zg,rvC,zZ,zY,zX,zW,↓zV,↓zU,reduceCtorEq,zQ,yz,yZ,yy,yx,yw,yv,yu,yq,yY,yp,yj,yk,yX,yW,yV,yg,yU,yQ,df30,TSl,rightG,hplaceG,capF,cap_eta,hr,sub,EVt,c2,k1,k2,k3,put]
    exact hR

end Go.Proofs.YtcdfofeolgbnbaaGreat

/- Package untyped: asked; the document's. -/
namespace Go.Proofs.YtcdfofeolgbnbaaGreat
open Go.D
open Nat (reduceAdd reducePow reduceMul reduceSub reduceLeDiff reduceLT reduceEqDiff)
open Int (reduceNeg reduceLE reduceEq reduceNe reduceToNat)
open Go.D renaming istep → zy,pickR → zx,bin1R → zw,un1R → zv,eqS → zu,eq1 → zq,cmpS → zp,cmp1 → zj,isNil → zk,shows → zg,result → zZ,qT → zV,qF → zU
open List renaming set → zY,replicate → zX
open Option renaming map → zW
open Nat renaming reduceAdd → zQ,reducePow → yz,reduceMul → yy,reduceSub → yx,reduceLeDiff → yw,reduceLT → yv,reduceEqDiff → yu
open Int renaming reduceNeg → yq,reduceLE → yp,reduceEq → yj,reduceNe → yk,reduceToNat → yg,reducePow → yZ,reduceLT → yY,reduceAdd → yX,reduceSub → yW,reduceMul → yV,reduceBEq → yU,reduceBNe → yQ
set_option linter.all false
set_option maxRecDepth 100000
set_option maxHeartbeats 400000

def askS:Nat->M->Int->Int×M
 | 0,m,_=>(0,m)
 | k+1,m,a=>if (m.gV a).cap.ty=0 then askS k (m.gX a) (a+4) else (120,m.gX a)
def askV (m:M) (c:Cap) (k b:Int) (nd:Cap) (i n:Int):Int×M :=
 if c.ty=1 then (if knE k b n=0 then (if nd.ty=2/\0<=i/\i<slotsN nd/\n<=slotsN nd-i then askS n.toNat m (nd.obj+4*i) else (150,m)) else (knE k b n,m)) else (60,m)
def askM (b:Nat) (m:M) (st:M->List Blk):List V->Res
 | [x, .s (.i .i64 k), .s (.i .i64 b'),y, .s (.i .i64 i), .s (.i .i64 n)]=>capF (fun c=>capF (fun nd=>.ob (rightB nd=true) (.ok (.s (.i .i64 (askV m c k b' nd i n).1)) [] (st (askV m c k b' nd i n).2))) [y]) [x]
 | _=>.bad
noncomputable def askG:=memF askM
theorem node_b {c:Cap} (h:rightB c=true) (h2:c.ty=2):(1<=c.bits/\c.bits<=8)/\0<=c.obj/\c.obj<=65535/\2<=slotsN c/\slotsN c<=256/\IntKind.i64.wrap (1*2^min c.bits.toNat IntKind.i64.bits)=slotsN c:=by
 have hb:=(right_bounds h).obj
 have hs:slotsN c=IntKind.i64.wrap (1*2^min c.bits.toNat IntKind.i64.bits):=by
  unfold slotsN
  rw [if_pos h,if_neg (by omega),if_neg (by omega),if_pos h2]
 have hn:1<=c.bits/\c.bits<=8:=by
  unfold rightB at h
  rw [if_neg (by omega),if_neg (by omega),if_pos h2] at h
  split at h
  ·cases h
  ·rename_i hn
   rw [<-nOk_iff]
   cases hh:nOk c.bits
   ·exact absurd (.inl (by rw [hh]; decide)) hn
   ·rfl
 refine ⟨hn,hb.1,hb.2, ?_, ?_,hs.symm⟩<;>rw [hs] <;>
 ·have:c.bits=1\/c.bits=2\/c.bits=3\/c.bits=4\/c.bits=5\/c.bits=6\/c.bits=7\/c.bits=8:=by omega
  rcases this with e|e|e|e|e|e|e|e<;>rw [e]<;>decide
theorem slotAt_node {c:Cap} {i:Int} (h:rightB c=true) (h2:c.ty=2) (h0:0<=i) (h1:i<slotsN c):slotAtV c i=c.obj+4*i:=by
 obtain ⟨_,o1,o2,n1,n2,_⟩:=node_b h h2
 unfold slotAtV
 rw [if_pos ⟨h0,h1⟩,wrap64 (n:=4*i) (by omega) (by omega),wrap64 (by omega) (by omega)]
noncomputable def TUa:Tab:=addT 60 knG (addT 67 cap9G (addT 30 slotAtG (noT)))
theorem TUa_snd:TUa.Snd Tryz.prog:=addT_snd ok60 kn_snd (addT_snd ok67 cap9_snd (addT_snd ok30 slotAt_snd ((noT_snd _))))
theorem ask_snd:Snd Tryz.prog 68 (FSpec.of askG):=snd_run TUa_snd mixed Tryz.func68 dc68 300 fun args h K hc hS=>by
 obtain ⟨a,b,m,rest,rfl,H,hS1⟩:=memF_spec (f:=askM) hS
 clear hS
 have hS:=hS1
 clear hS1
 unfold askM at hS
 split at hS
 ·rename_i x k b' y i n
  obtain ⟨c,e,hS1⟩:=capF_spec hS
  simp only [List.cons.injEq,and_true] at e
  subst e
  clear hS
  obtain ⟨nd,e,hS⟩:=capF_spec hS1
  simp only [List.cons.injEq,and_true] at e
  subst e
  clear hS1
  simp only [spec_ob,spec_ok,askV] at hS
  obtain ⟨hr,hS⟩:=hS
  have hnb:=node_b hr
  have hsa:=fun i=>slotAt_node (i:=i) hr
  obtain ⟨N,hN⟩:∃ N,slotsN nd=N:=⟨_,rfl⟩
  rw [hN] at hS hnb
  simp only [hN] at hsa
  clear hN
  have hself:=setM_self H
  have hndc:Cap.cl nd=Cap.cl ⟨nd.ty,nd.obj,nd.bits,nd.mark,nd.guard,nd.gbits,nd.badge,nd.rights,nd.asid,nd.vaddr,nd.line⟩:=rfl
  obtain ⟨n0,n1,n2,n3,n4,n5,n6,n7,n8,n9,n10⟩:=nd
  obtain ⟨c0,c1,c2,c3,c4,c5,c6,c7,c8,c9,c10⟩:=c
  clear hndc
  simp only at hS hnb hsa
  by_cases h1:c0=1
  rotate_left
  ·rw [if_neg h1,hself] at hS
   have h1':(c0==1)=false:=by simpa using h1
   simp (maxSteps:=999999) only [EV0,zy,zx,zw,zv,zu,zq,zp,zj,zk,leT,zg,rvC,zZ,zY,zX,zW,↓zV,↓zU,reduceCtorEq,zQ,yz,yZ,yy,yx,yw,yv,yu,yq,yY,yp,yj,yk,yX,yW,yV,yg,yU,yQ,df68,TUa,knG,h1',bne,Cap.cl,put,fillP,sub,EVt]
   exact hS
  rw [if_pos h1] at hS
  subst h1
  by_cases h2:knE k b' n=0
  rotate_left
  ·rw [if_neg h2,hself] at hS
   have h2':(knE k b' n==0)=false:=by simpa using h2
   simp (maxSteps:=999999) only [EV0,zy,zx,zw,zv,zu,zq,zp,zj,zk,leT,zg,rvC,zZ,zY,zX,zW,↓zV,↓zU,reduceCtorEq,zQ,yz,yZ,yy,yx,yw,yv,yu,yq,yY,yp,yj,yk,yX,yW,yV,yg,yU,yQ,df68,TUa,knG,h2',bne,Cap.cl,put,fillP,sub,EVt]
   exact hS
  rw [if_pos h2] at hS
  obtain ⟨_,_,_,k1,k2,_,_⟩:=kn_sz h2
  by_cases h3:n0=2
  rotate_left
  ·rw [if_neg (fun q=>h3 q.1),hself] at hS
   have h3':(n0==2)=false:=by simpa using h3
   simp (maxSteps:=999999) only [EV0,zy,zx,zw,zv,zu,zq,zp,zj,zk,leT,zg,rvC,zZ,zY,zX,zW,↓zV,↓zU,reduceCtorEq,zQ,yz,yZ,yy,yx,yw,yv,yu,yq,yY,yp,yj,yk,yX,yW,yV,yg,yU,yQ,df68,TUa,knG,h2,h3',bne,Cap.cl,put,fillP,sub,EVt]
   exact hS
  subst h3
  obtain ⟨⟨b1,b2⟩,o1,o2,N1,N2,hw⟩:=hnb rfl
  have hsa:=fun i=>hsa i rfl
  have b0:0<=n2:=by omega
  have b0':¬ n2<0:=by omega
  by_cases h4:i<0
  ·rw [if_neg (fun q=>absurd q.2.1 (by omega)),hself] at hS
   simp (maxSteps:=999999) only [EV0,zy,zx,zw,zv,zu,zq,zp,zj,zk,leT,zg,rvC,zZ,zY,zX,zW,↓zV,↓zU,reduceCtorEq,zQ,yz,yZ,yy,yx,yw,yv,yu,yq,yY,yp,yj,yk,yX,yW,yV,yg,yU,yQ,df68,TUa,knG,h2,h4,bne,Cap.cl,put,fillP,sub,EVt]
   exact hS
  by_cases h5:N<=i
  ·rw [if_neg (fun q=>absurd q.2.2.1 (by omega)),hself] at hS
   simp (maxSteps:=999999) only [EV0,zy,zx,zw,zv,zu,zq,zp,zj,zk,leT,zg,rvC,zZ,zY,zX,zW,↓zV,↓zU,reduceCtorEq,zQ,yz,yZ,yy,yx,yw,yv,yu,yq,yY,yp,yj,yk,yX,yW,yV,yg,yU,yQ,df68,TUa,knG,h2,h4,h5,hw,b0,b0',bne,Cap.cl,put,fillP,sub,EVt]
   exact hS
  have q1:IntKind.i64.wrap (N-i)=N-i:=by rw [wrap64]<;>omega
  by_cases h6:N-i<n
  ·rw [if_neg (fun q=>absurd q.2.2.2 (by omega)),hself] at hS
   simp (maxSteps:=999999) only [EV0,zy,zx,zw,zv,zu,zq,zp,zj,zk,leT,zg,rvC,zZ,zY,zX,zW,↓zV,↓zU,reduceCtorEq,zQ,yz,yZ,yy,yx,yw,yv,yu,yq,yY,yp,yj,yk,yX,yW,yV,yg,yU,yQ,df68,TUa,knG,h2,h4,h5,h6,hw,q1,b0,b0',bne,Cap.cl,put,fillP,sub,EVt]
   exact hS
  rw [if_pos ⟨rfl,by omega,by omega,by omega⟩] at hS
  simp (maxSteps:=999999) only [EV0,zy,zx,zw,zv,zu,zq,zp,zj,zk,leT,zg,rvC,zZ,zY,zX,zW,↓zV,↓zU,reduceCtorEq,zQ,yz,yZ,yy,yx,yw,yv,yu,yq,yY,yp,yj,yk,yX,yW,yV,yg,yU,yQ,df68,TUa,knG,h2,h4,h5,h6,hw,q1,b0,b0',bne,Cap.cl,put,fillP,sub,EVt]
  obtain ⟨W,hW⟩:∃ W,askS n.toNat m (n1+4*i)=W:=⟨_,rfl⟩
  rw [hW] at hS
  refine loop_rule (α:=Nat×M) [14,16,51,52,53,54,55,56,57,58,59,60,61,62,63] (fun y=>[(51, .s (.i .i64 (y.1:Int)))]) (fun _=>[⟨.rw,Cap.cl ⟨1,c1,c2,c3,c4,c5,c6,c7,c8,c9,c10⟩,11⟩,⟨.rw,Cap.cl ⟨2,n1,n2,n3,n4,n5,n6,n7,n8,n9,n10⟩,11⟩]) (fun y=>setM h a b y.2) (fun y=>(y.1:Int)<=n/\askS (n.toNat-y.1) y.2 (n1+4*(i+y.1))=W) (fun y=>n.toNat-y.1) (0,m) ⟨by simp only; omega,by rw [<-hW]; simp only [Int.natCast_zero,Int.add_zero,Nat.sub_zero]⟩ ?_ ?_
  ·refine Wk.same rfl hself.symm ?_
   simp (maxSteps:=999999) only [EV0,zy,zx,zw,zv,zu,zq,zp,zj,zk,leT,zg,rvC,zZ,zY,zX,zW,↓zV,↓zU,reduceCtorEq,zQ,yz,yZ,yy,yx,yw,yv,yu,yq,yY,yp,yj,yk,yX,yW,yV,yg,yU,yQ,Int.natCast_zero]
  ·clear hW
   rintro X ⟨j,m'⟩ ⟨hj,hW⟩ IH
   simp only at hj hW ⊢
   by_cases hz:(j:Int)<n
   ·obtain ⟨z,hzz⟩:∃ z,n.toNat-j=z+1:=⟨n.toNat-j-1,by omega⟩
    rw [hzz] at hW
    simp only [askS] at hW
    have w1:IntKind.i64.wrap (i+j)=i+j:=by rw [wrap64]<;>omega
    have w2:IntKind.i64.wrap ((j:Int)+1)=((j+1:Nat):Int):=by rw [wrap64]<;>omega
    have w3:IntKind.i64.wrap (4*(i+j))=4*(i+j):=by rw [wrap64]<;>omega
    have w4:IntKind.i64.wrap (n1+4*(i+j))=n1+4*(i+j):=by rw [wrap64]<;>omega
    have hsa:=hsa (i+j) (by omega) (by omega)
    obtain ⟨A,hA⟩:∃ A,n1+4*(i+j)=A:=⟨_,rfl⟩
    rw [hA] at hW w4 hsa
    by_cases hy:(m'.gV A).cap.ty=0
    ·rw [if_pos hy] at hW
     have hcz:(m'.gV A).cap=capZ:=by rw [M.gV_null hy]; rfl
     have e2:n1+4*(i+((j+1:Nat):Int))=A+4:=by omega
     refine run_sound (Tab.ok_Γ _) 300 _ _ _ _ ?_
     simp (maxSteps:=999999) only [EV0,zy,zx,zw,zv,zu,zq,zp,zj,zk,leT,zg,rvC,zZ,zY,zX,zW,↓zV,↓zU,reduceCtorEq,zQ,yz,yZ,yy,yx,yw,yv,yu,yq,yY,yp,yj,yk,yX,yW,yV,yg,yU,yQ,TUa,knG,cap9G,cap9M,slotAtG,capIF,capF,cap_eta,memF_set H,hz,w1,w2,w3,hA,w4,hsa,hcz,capZ,bne,Cap.cl,put,fillP,sub,EVt]
     refine IH (j+1,m'.gX A) _ (by simp only; omega) ⟨by simp only; omega,by simp only; rw [e2,show n.toNat-(j+1)=z by omega]; exact hW⟩ ?_
     exact Wk.keep 2 rfl rfl (by simp only [EV0,zy,zx,zw,zv,zu,zq,zp,zj,zk,leT,zg,rvC,zZ,zY,zX,zW,↓zV,↓zU,reduceCtorEq,zQ,yz,yZ,yy,yx,yw,yv,yu,yq,yY,yp,yj,yk,yX,yW,yV,yg,yU,yQ]) (by simp only [EV0,zy,zx,zw,zv,zu,zq,zp,zj,zk,leT,zg,rvC,zZ,zY,zX,zW,↓zV,↓zU,reduceCtorEq,zQ,yz,yZ,yy,yx,yw,yv,yu,yq,yY,yp,yj,yk,yX,yW,yV,yg,yU,yQ]) (by rfl)
    ·rw [if_neg hy] at hW
     subst hW
     simp only at hS
     obtain ⟨⟨y0,y1,y2,y3,y4,y5,y6,y7,y8,y9,y10⟩,hcc⟩:∃ c,(m'.gV A).cap=c:=⟨_,rfl⟩
     rw [hcc] at hy
     have hy':(y0==0)=false:=by simpa using hy
     refine run_sound (Tab.ok_Γ _) 300 _ _ _ _ ?_
     simp (maxSteps:=999999) only [EV0,zy,zx,zw,zv,zu,zq,zp,zj,zk,leT,zg,rvC,zZ,zY,zX,zW,↓zV,↓zU,reduceCtorEq,zQ,yz,yZ,yy,yx,yw,yv,yu,yq,yY,yp,yj,yk,yX,yW,yV,yg,yU,yQ,TUa,knG,cap9G,cap9M,slotAtG,capIF,capF,cap_eta,memF_set H,hz,w1,w2,w3,hA,w4,hsa,hcc,hy',bne,Cap.cl,put,fillP,sub,EVt]
     exact hS
   ·have e:W=(0,m'):=by rw [<-hW,show n.toNat-j=0 by omega]; rfl
    subst e
    simp only at hS
    refine run_sound (Tab.ok_Γ _) 300 _ _ _ _ ?_
    simp (maxSteps:=999999) only [EV0,zy,zx,zw,zv,zu,zq,zp,zj,zk,leT,zg,rvC,zZ,zY,zX,zW,↓zV,↓zU,reduceCtorEq,zQ,yz,yZ,yy,yx,yw,yv,yu,yq,yY,yp,yj,yk,yX,yW,yV,yg,yU,yQ,hz,Cap.cl,put,fillP,sub,EVt]
    exact hS
 ·exact hS.elim
end Go.Proofs.YtcdfofeolgbnbaaGreat

