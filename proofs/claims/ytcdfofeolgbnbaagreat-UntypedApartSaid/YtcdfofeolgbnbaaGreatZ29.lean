/- Package heap: slots,apart,within; the kernel's words. -/
import Derived.Test.YtcdfofeolgbnbaaGreatZ11
import Derived.Test.YtcdfofeolgbnbaaGreatZ28
import Derived.Test.YtcdfofeolgbnbaaGreatZ19
import Derived.Test.YtcdfofeolgbnbaaGreatZ25
import Derived.Test.YtcdfofeolgbnbaaGreatZ17
import Derived.Test.YtcdfofeolgbnbaaGreatZ27
/- Package untyped: Reset: the walk; the document's. -/
namespace Go.Proofs.YtcdfofeolgbnbaaGreat
open Go.D
set_option linter.all false
set_option maxRecDepth 100000
set_option maxHeartbeats 400000

theorem chunks1_is' {h:List Blk} {x:Int} {u:U} {R:Rnd} {K:Option Ex->U->List Blk->Prop} {k n:Nat} (hn:n=h.length) (hx:x<=1000000000000) (hw:cw R K k x h u) :
  isem 153 [.s (.p (.g n) 0)] 1 u (h++[uB x]) R K:=by subst hn; exact chunks1_is hx hw
theorem rs_cw1 {asg body:DC} {a b:Nat} {n:Nat} {x:Int} {h:List Blk} {m0:M} {K:Option Ex->U->List Blk->Prop} (hab:findRf df27.body=some (asg,body)) (H:IsMem h a b m0) :
  ∀ (k:Nat) (m:M) (c:Cap),CB c->c.mark<=k->(∀ c' y,K none (uT n,uLS a x .np 0 c') (setM h a b (rsW x k m c none).1++[uB y]))->cw (rndOf TUr.Γ [24] asg body) K k c.mark (setM h a b m) (uT n,uLS a x .np 0 c)
 | 0,m,c,_,hk,hK=>⟨by omega,hK c c.mark⟩
 | k+1,m,c,hc,hk,hK=>by
  by_cases h0:c.mark<=0
  ·simp only [rsW,h0,if_true] at hK
   simp only [cw,h0,if_true]
   exact hK c c.mark
  ·simp only [rsW,h0,if_false] at hK
   simp only [cw,h0,if_false]
   intro K' hK'
   refine rs_r1 hab H hc h0 _ fun p u' h' hh=>?_
   obtain ⟨rfl,rfl,rfl⟩:=hh
   refine hK' _ _ _ ⟨setM h a b (rsS x m c),by simp only [setM_len],rfl, ?_⟩
   obtain ⟨c1,c2⟩:=hc.n h0
   exact rs_cw1 hab H k (rsS x m c) (rsN c) c1 (by omega) hK
theorem rs_cw2 {asg body:DC} {a b:Nat} {n:Nat} {x:Int} {h:List Blk} {m0:M} {d:Nat} {K:Option Ex->U->List Blk->Prop} (hab:findRf df27.body=some (asg,body)) (H:IsMem h a b m0) (hda:d≠a) (hdb:d≠b) (hdl:d<h.length) :
  ∀ (k:Nat) (m:M) (c:Cap) (u:Int),CB c->c.mark<=k->i64 u->(∀ c' y m' u',rsW x k m c (some u)=(m',some u',0)->K none (uT n,uLS a x (.p (.g d) 0) 0 c') (setM (h.set d (uB u')) a b m'++[uB y])) ->
   (∀ c' y m' u',rsW x k m c (some u)=(m',some u',3)->K (some .ret) (uT n,uLS a x (.p (.g d) 0) 3 c') (setM (h.set d (uB u')) a b m'++[uB y]))->cw (rndOf TUr.Γ [24] asg body) K k c.mark (setM (h.set d (uB u)) a b m) (uT n,uLS a x (.p (.g d) 0) 0 c)
 | 0,m,c,u,_,hk,hi,hK,hK2=>⟨by omega,hK c c.mark _ _ rfl⟩
 | k+1,m,c,u,hc,hk,hi,hK,hK2=>by
  by_cases h0:c.mark<=0
  ·simp only [rsW,h0,if_true] at hK
   simp only [cw,h0,if_true]
   exact hK c c.mark _ _ rfl
  ·simp only [rsW,h0,if_false] at hK hK2
   simp only [cw,h0,if_false]
   intro K' hK'
   by_cases hu:u<=0
   ·simp only [hu,if_true] at hK2
    refine rs_r0 hab (d:=d) (u:=u) ?_ hi hu _ fun p u' h' hh=>?_
    ·rw [List.getElem?_append_left (by rw [setM_len,List.length_set]; exact hdl)]
     unfold setM
     rw [List.getElem?_set_ne (Ne.symm hdb),List.getElem?_set_ne (Ne.symm hda),List.getElem?_set_self hdl]
    ·obtain ⟨rfl,rfl,rfl⟩:=hh
     exact hK' _ _ _ ⟨setM (h.set d (uB u)) a b m,rfl,rfl,hK2 _ _ _ _ rfl⟩
   ·simp only [hu,if_false] at hK hK2
    refine rs_r2 hab H hc h0 hi hu hda hdb hdl _ fun p u' h' hh=>?_
    obtain ⟨rfl,rfl,rfl⟩:=hh
    refine hK' _ _ _ ⟨setM (h.set d (uB (u-1))) a b (rsS x m c),by simp only [setM_len,List.length_set],rfl, ?_⟩
    obtain ⟨c1,c2⟩:=hc.n h0
    unfold i64 at hi
    exact rs_cw2 hab H hda hdb hdl k (rsS x m c) (rsN c) (u-1) c1 (by omega) (by unfold i64; omega) hK hK2
theorem rsW_n {x:Int}:∀ (k:Nat) (m:M) (c:Cap),(rsW x k m c none).2=(none,0)
 | 0,m,c=>rfl
 | k+1,m,c=>by
  unfold rsW
  split
  ·rfl
  ·exact rsW_n k _ _

def rstR (m:M) (x:Int) (u:Option Int) (st:M->Option Int->List Blk):Res :=
 .br (decide ((m.gV x).cap.ty=1)) (.br (decide ((m.gX x).nxV x=0)) (.ok (.s (.i .i64 (rsW x (m.gV x).cap.mark.toNat ((m.gX x).nxX x) (m.gV x).cap u).2.2)) [] (st (rsW x (m.gV x).cap.mark.toNat ((m.gX x).nxX x) (m.gV x).cap u).1 (rsW x (m.gV x).cap.mark.toNat ((m.gX x).nxX x) (m.gV x).cap u).2.1))
  (.ok (.s (.i .i64 152)) [] (st ((m.gX x).nxX x) u))) (.ok (.s (.i .i64 60)) [] (st (m.gX x) u))
def rstM (b:Nat) (m:M) (st:M->List Blk):List V->Res
 | [.s (.i .i64 x), .s .np]=>rstR m x none fun m _=>st m
 | [.s (.i .i64 x), .s (.p (.g d) 0)]=>match (st m)[d]? with
  | some ⟨.rw,[.i .i64 u],1⟩=>.ob (i64 u) (rstR m x (some u) fun m u=>(st m).set d (uB (u.getD 0)))
  | _=>.bad
 | _=>.bad
noncomputable def rstG:=memF rstM
theorem cell_ne {h:List Blk} {a b d:Nat} {m:M} {u:Int} (H:IsMem h a b m) (hd:h[d]?=some (uB u)):d≠a/\d≠b/\d<h.length:=by
 refine ⟨?_, ?_, ?_⟩
 ·rintro rfl
  rw [H.ha] at hd
  simp [MB,uB] at hd
 ·rintro rfl
  rw [H.hb] at hd
  simp only [MW,uB,Option.some.injEq,Blk.mk.injEq] at hd
  obtain ⟨_,h1,_⟩:=hd
  cases hw:m.w with
  | nil=>rw [hw] at h1; simp [wc] at h1
  | cons y l=>rw [hw] at h1; simp [wc] at h1
 ·obtain ⟨h1,_⟩:=List.getElem?_eq_some_iff.1 hd
  exact h1
theorem set_back {h:List Blk} {d:Nat} {B:Blk} (hd:h[d]?=some B):h.set d B=h:=by
 obtain ⟨h1,h2⟩:=List.getElem?_eq_some_iff.1 hd
 rw [<-h2,List.set_getElem_self]
theorem cell_set {h:List Blk} {a b d:Nat} {m0 m:M} {u:Int} (hda:d≠a) (hdb:d≠b):(setM h a b m).set d (uB u)=setM (h.set d (uB u)) a b m:=by
 unfold setM
 rw [List.set_comm _ _ (Ne.symm hdb),List.set_comm _ _ (Ne.symm hda)]
theorem IsMem.cell {h:List Blk} {a b d:Nat} {m0:M} (H:IsMem h a b m0) (hda:d≠a) (hdb:d≠b) (u:Int):IsMem (h.set d (uB u)) a b m0 :=
 ⟨H.ne,by rw [List.getElem?_set_ne hda]; exact H.ha,by rw [List.getElem?_set_ne hdb]; exact H.hb⟩
theorem clean_cell {h:List Blk} {n d:Nat} {u:Int} (hc:clean n h=true):clean n (h.set d (uB u))=true:=clean_set hc (by rfl)
theorem rst_snd:Snd Tryz.prog 27 (FSpec.of rstG):=(fwp_sound (Tab.snd_Γ TUr_snd) mixed Tryz.func27 dc27).weaken fun args h K hc hS=>by
 refine fwp_runW (Tab.ok_Γ _) 200 ?_
 obtain ⟨a,b,m,rest,rfl,H,hS1⟩:=memF_spec (f:=rstM) hS
 clear hS
 have hS:=hS1
 clear hS1
 unfold rstM at hS
 split at hS
 ·rename_i x
  unfold rstR at hS
  simp only [spec_br,spec_ok,decide_eq_true_eq,decide_eq_false_iff_not] at hS
  obtain ⟨⟨c0,c1,c2,c3,c4,c5,c6,c7,c8,c9,c10⟩,hs⟩:∃ c,(m.gV x).cap=c:=⟨_,rfl⟩
  have hcb:=gV_cb (m:=m) (x:=x)
  rw [hs] at hS hcb
  simp only at hS hcb
  by_cases hty:c0=1
  rotate_left
  ·have hS:=hS.2 hty
   have hty':(c0==1)=false:=by simpa using hty
   simp (maxSteps:=999999) only [go_sem,simprocAttr,↓qT,↓qF,df27,TUr,cap9G,nextG,cap9M,nextM,ckG,memF_eq H,memF_set H,hs,hty',bne,Cap.cl,put,fillP,sub,EVt]
   refine fin_of (v:=.s (.i .i64 60)) (ls:=[]) (h:=setM h a b (m.gX x)) rfl (Wk.keep 0 rfl rfl (by simp only [go_sem,simprocAttr,↓qT,↓qF]) (by rfl) (by rfl)) ?_
   simp (maxSteps:=999999) only [go_sem,simprocAttr,↓qT,↓qF]
   exact hS
  subst hty
  have hS:=hS.1 rfl
  have hcb:=hcb rfl
  by_cases hnx:(m.gX x).nxV x=0
  rotate_left
  ·have hS:=hS.2 hnx
   have hnx':((m.gX x).nxV x==0)=false:=by simpa using hnx
   simp (maxSteps:=999999) only [go_sem,simprocAttr,↓qT,↓qF,df27,TUr,cap9G,nextG,cap9M,nextM,ckG,memF_eq H,memF_set H,hs,hnx',bne,Cap.cl,put,fillP,sub,EVt]
   refine fin_of (v:=.s (.i .i64 152)) (ls:=[]) (h:=setM h a b ((m.gX x).nxX x)) rfl (Wk.keep 0 rfl rfl (by simp only [go_sem,simprocAttr,↓qT,↓qF]) (by rfl) (by rfl)) ?_
   simp (maxSteps:=999999) only [go_sem,simprocAttr,↓qT,↓qF]
   exact hS
  have hS:=hS.1 hnx
  simp (maxSteps:=999999) only [go_sem,simprocAttr,↓qT,↓qF,df27,TUr,cap9G,nextG,cap9M,nextM,ckG,memF_eq H,memF_set H,hs,hnx,bne,setM_len,Cap.cl,put,fillP,sub,EVt]
  have hb:=hcb.mark
  simp only at hb
  refine more_wk (t':=uT h.length) (ls':=uLS a x .np 0 ⟨1,c1,c2,c3,c4,c5,c6,c7,c8,c9,c10⟩) (h':=setM h a b ((m.gX x).nxX x)++[uB c3]) (Wk.same (by rfl) (by rfl) (by simp only [go_sem,simprocAttr,↓qT,↓qF,uT])) ?_
  refine rf_rule (cs:=[(.g h.length,0)]) rfl rfl rfl rfl ?_
  refine chunks1_is' (k:=c3.toNat) (h:=setM h a b ((m.gX x).nxX x)) setM_len.symm (by omega) ?_
  rw [rsW_n] at hS
  refine rs_cw1 rfl H c3.toNat _ ⟨1,c1,c2,c3,c4,c5,c6,c7,c8,c9,c10⟩ hcb (by simp only; omega) fun c' y=>?_
  obtain ⟨d0,d1,d2,d3,d4,d5,d6,d7,d8,d9,d10⟩:=c'
  simp only [Option.getD_none]
  unfold swp
  refine run_sound (Tab.ok_Γ _) 60 _ _ _ _ ?_
  have hcm:clean h.length (setM h a b (rsW x c3.toNat ((m.gX x).nxX x) ⟨1,c1,c2,c3,c4,c5,c6,c7,c8,c9,c10⟩ none).1)=true:=setM_clean H hc H.ltb
  have hlm:(setM h a b (rsW x c3.toNat ((m.gX x).nxX x) ⟨1,c1,c2,c3,c4,c5,c6,c7,c8,c9,c10⟩ none).1).length=h.length:=setM_len
  simp (maxSteps:=999999) only [go_sem,simprocAttr,↓qT,↓qF,uT,uLS,Cap.cl,put,fillP,sub,EVt]
  refine fin_of (v:=.s (.i .i64 0)) (ls:=[]) (h:=setM h a b (rsW x c3.toNat ((m.gX x).nxX x) ⟨1,c1,c2,c3,c4,c5,c6,c7,c8,c9,c10⟩ none).1) rfl (.trans (Wk.keep 0 (ls:=[]) (t':=[.s (.i .i64 0)]) rfl rfl (by simp only [go_sem,simprocAttr,↓qT,↓qF]) (by rfl) (by rfl)) (Wk.keepH h.length (by rw [<-hlm,List.take_left' rfl]) (Nat.le_of_eq hlm.symm) (by simp only [go_sem,simprocAttr,↓qT,↓qF]) (by rfl) (by rw [hlm]; exact hcm) (by rfl))) ?_
  simp (maxSteps:=999999) only [go_sem,simprocAttr,↓qT,↓qF]
  exact hS
 ·rename_i x d
  split at hS
  ·rename_i u hd
   rw [setM_self H] at hd
   obtain ⟨hda,hdb,hdl⟩:=cell_ne H hd
   simp only [spec_ob] at hS
   obtain ⟨hi,hS⟩:=hS
   unfold rstR at hS
   have hset:∀ m u,(setM h a b m).set d (uB u)=setM (h.set d (uB u)) a b m:=fun m u=>cell_set (m0:=m) hda hdb
   have hself:=set_back hd
   change h.set d (uB u)=h at hself
   have hself':∀ m,setM (h.set d (uB u)) a b m=setM h a b m:=fun m=>by rw [hself]
   simp only [spec_br,spec_ok,decide_eq_true_eq,decide_eq_false_iff_not,hset,Option.getD_some,hself'] at hS
   obtain ⟨⟨c0,c1,c2,c3,c4,c5,c6,c7,c8,c9,c10⟩,hs⟩:∃ c,(m.gV x).cap=c:=⟨_,rfl⟩
   have hcb:=gV_cb (m:=m) (x:=x)
   rw [hs] at hS hcb
   simp only at hS hcb
   by_cases hty:c0=1
   rotate_left
   ·have hS:=hS.2 hty
    have hty':(c0==1)=false:=by simpa using hty
    simp (maxSteps:=999999) only [go_sem,simprocAttr,↓qT,↓qF,df27,TUr,cap9G,nextG,cap9M,nextM,ckG,memF_eq H,memF_set H,hs,hty',bne,Cap.cl,put,fillP,sub,EVt]
    refine fin_of (v:=.s (.i .i64 60)) (ls:=[]) (h:=setM h a b (m.gX x)) rfl (Wk.keep 0 rfl rfl (by simp only [go_sem,simprocAttr,↓qT,↓qF]) (by rfl) (by rfl)) ?_
    simp (maxSteps:=999999) only [go_sem,simprocAttr,↓qT,↓qF]
    exact hS
   subst hty
   have hS:=hS.1 rfl
   have hcb:=hcb rfl
   by_cases hnx:(m.gX x).nxV x=0
   rotate_left
   ·have hS:=hS.2 hnx
    have hnx':((m.gX x).nxV x==0)=false:=by simpa using hnx
    simp (maxSteps:=999999) only [go_sem,simprocAttr,↓qT,↓qF,df27,TUr,cap9G,nextG,cap9M,nextM,ckG,memF_eq H,memF_set H,hs,hnx',bne,Cap.cl,put,fillP,sub,EVt]
    refine fin_of (v:=.s (.i .i64 152)) (ls:=[]) (h:=setM h a b ((m.gX x).nxX x)) rfl (Wk.keep 0 rfl rfl (by simp only [go_sem,simprocAttr,↓qT,↓qF]) (by rfl) (by rfl)) ?_
    simp (maxSteps:=999999) only [go_sem,simprocAttr,↓qT,↓qF]
    exact hS
   have hS:=hS.1 hnx
   simp (maxSteps:=999999) only [go_sem,simprocAttr,↓qT,↓qF,df27,TUr,cap9G,nextG,cap9M,nextM,ckG,memF_eq H,memF_set H,hs,hnx,bne,setM_len,Cap.cl,put,fillP,sub,EVt]
   have hb:=hcb.mark
   simp only at hb
   refine more_wk (t':=uT h.length) (ls':=uLS a x (.p (.g d) 0) 0 ⟨1,c1,c2,c3,c4,c5,c6,c7,c8,c9,c10⟩) (h':=setM (h.set d (uB u)) a b ((m.gX x).nxX x)++[uB c3]) (Wk.same (by rfl) (by rw [hself']) (by simp only [go_sem,simprocAttr,↓qT,↓qF,uT])) ?_
   refine rf_rule (cs:=[(.g h.length,0)]) rfl rfl rfl rfl ?_
   refine chunks1_is' (k:=c3.toNat) (h:=setM (h.set d (uB u)) a b ((m.gX x).nxX x)) (by rw [setM_len,List.length_set]) (by omega) ?_
   have fin:∀ (e:Int) c' y m' u' (s:St),rsW x c3.toNat ((m.gX x).nxX x) ⟨1,c1,c2,c3,c4,c5,c6,c7,c8,c9,c10⟩ (some u)=(m',some u',e)->s.t=uT h.length->s.ls=uLS a x (.p (.g d) 0) e c'->s.h=setM (h.set d (uB u')) a b m'++[uB y]->fin h.length [.c 6 none] K .ret s:=fun e c' y m' u' s he e1 e2 e3=>by
    obtain ⟨t,ls,hh⟩:=s
    simp only at e1 e2 e3
    subst e1 e2 e3
    rw [he] at hS
    simp only [Option.getD_some] at hS
    obtain ⟨d0,d1,d2,d3,d4,d5,d6,d7,d8,d9,d10⟩:=c'
    have hcm:clean h.length (setM (h.set d (uB u')) a b m')=true:=setM_clean (H.cell hda hdb u') (clean_cell hc) H.ltb
    have hlm:(setM (h.set d (uB u')) a b m').length=h.length:=by rw [setM_len,List.length_set]
    refine fin_of (v:=.s (.i .i64 e)) (ls:=[]) (h:=setM (h.set d (uB u')) a b m') rfl (.trans (Wk.keep 0 (ls:=[]) (t':=[.s (.i .i64 e)]) rfl rfl (by simp only [go_sem,simprocAttr,↓qT,↓qF,uT,uLS]) (by rfl) (by rfl)) (Wk.keepH h.length (by rw [<-hlm,List.take_left' rfl]) (Nat.le_of_eq hlm.symm) (by simp only [go_sem,simprocAttr,↓qT,↓qF]) (by rfl) (by rw [hlm]; exact hcm) (by rfl))) ?_
    simp (maxSteps:=999999) only [go_sem,simprocAttr,↓qT,↓qF]
    exact hS
   refine rs_cw2 rfl H hda hdb hdl c3.toNat _ ⟨1,c1,c2,c3,c4,c5,c6,c7,c8,c9,c10⟩ u hcb (by simp only; omega) hi (fun c' y m' u' he=>?_) (fun c' y m' u' he=>?_)
   ·simp only [Option.getD_none]
    unfold swp
    refine run_sound (Tab.ok_Γ _) 60 _ _ _ _ ?_
    obtain ⟨d0,d1,d2,d3,d4,d5,d6,d7,d8,d9,d10⟩:=c'
    simp (maxSteps:=999999) only [go_sem,simprocAttr,↓qT,↓qF,uT,uLS,Cap.cl,put,fillP,sub,EVt]
    exact fin 0 ⟨d0,d1,d2,d3,d4,d5,d6,d7,d8,d9,d10⟩ y m' u' _ he rfl rfl rfl
   ·simp only [Option.getD_some]
    exact fin 3 c' y m' u' _ he rfl rfl rfl
  ·exact hS.elim
 ·exact hS.elim

noncomputable def TRd:Tab:=addT 66 cap9G (addT 32 nextG (addT 148 takeG (addT 149 fillG (addT 147 setCap9G (noT)))))
theorem TRd_snd:TRd.Snd Tryz.prog:=addT_snd ok66 rcap9_snd (addT_snd ok32 rnext_snd (addT_snd ok148 take_snd (addT_snd ok149 rfill_snd (addT_snd ok147 rsetCap9_snd ((noT_snd _))))))
def rrstM (b:Nat) (m:M) (st:M->List Blk):List V->Res
 | [.s (.i .i64 x), .s (.p (.g d) 0)]=>match (st m)[d]? with
  | some ⟨.rw,[.i .i64 u],1⟩=>.ob (i64 u/\0<=u) (rstR m x (some u) fun m u=>(st m).set d (uB (u.getD 0)))
  | _=>.bad
 | _=>.bad
noncomputable def rrstG:=memF rrstM
theorem rrst_snd:Snd Tryz.prog 84 (FSpec.of rrstG):=snd_run TRd_snd mixed Tryz.func84 dc84 300 fun args h K hc hS=>by
 obtain ⟨a,b,m,rest,rfl,H,hS1⟩:=memF_spec (f:=rrstM) hS
 clear hS
 have hS:=hS1
 clear hS1
 unfold rrstM at hS
 split at hS
 ·rename_i x d
  split at hS
  ·rename_i u hd
   rw [setM_self H] at hd
   obtain ⟨hda,hdb,hdl⟩:=cell_ne H hd
   simp only [spec_ob] at hS
   obtain ⟨⟨hi,hi0⟩,hS⟩:=hS
   unfold rstR at hS
   have hset:∀ m u,(setM h a b m).set d (uB u)=setM (h.set d (uB u)) a b m:=fun m u=>cell_set (m0:=m) hda hdb
   have hself:=set_back hd
   change h.set d (uB u)=h at hself
   have hself':∀ m,setM (h.set d (uB u)) a b m=setM h a b m:=fun m=>by rw [hself]
   simp only [spec_br,spec_ok,decide_eq_true_eq,decide_eq_false_iff_not,hset,Option.getD_some,hself'] at hS
   obtain ⟨⟨c0,c1,c2,c3,c4,c5,c6,c7,c8,c9,c10⟩,hs⟩:∃ c,(m.gV x).cap=c:=⟨_,rfl⟩
   have hcb:=gV_cb (m:=m) (x:=x)
   rw [hs] at hS hcb
   simp only at hS hcb
   by_cases hty:c0=1
   rotate_left
   ·have hS:=hS.2 hty
    have hty':(c0==1)=false:=by simpa using hty
    simp (maxSteps:=999999) only [go_sem,simprocAttr,↓qT,↓qF,df84,TRd,cap9G,nextG,cap9M,nextM,memF_eq H,memF_set H,hs,hty',bne,Cap.cl,put,fillP,sub,EVt]
    exact hS
   subst hty
   have hS:=hS.1 rfl
   have hcb:=hcb rfl
   by_cases hnx:(m.gX x).nxV x=0
   rotate_left
   ·have hS:=hS.2 hnx
    have hnx':((m.gX x).nxV x==0)=false:=by simpa using hnx
    simp (maxSteps:=999999) only [go_sem,simprocAttr,↓qT,↓qF,df84,TRd,cap9G,nextG,cap9M,nextM,memF_eq H,memF_set H,hs,hnx',bne,Cap.cl,put,fillP,sub,EVt]
    exact hS
   have hS:=hS.1 hnx
   simp (maxSteps:=999999) only [go_sem,simprocAttr,↓qT,↓qF,df84,TRd,cap9G,nextG,cap9M,nextM,memF_eq H,memF_set H,hs,hnx,bne,Cap.cl,put,fillP,sub,EVt]
   have hb:=hcb.mark
   simp only at hb
   obtain ⟨W,hW⟩:∃ W,rsW x c3.toNat ((m.gX x).nxX x) ⟨1,c1,c2,c3,c4,c5,c6,c7,c8,c9,c10⟩ (some u)=W:=⟨_,rfl⟩
   rw [hW] at hS
   have g1:∀ v m,(setM (h.set d (uB v)) a b m)[d]?=some (uB v):=fun v m=>by
    unfold setM
    rw [List.getElem?_set_ne (Ne.symm hdb),List.getElem?_set_ne (Ne.symm hda),List.getElem?_set_self hdl]
   have g2:∀ v w m,(setM (h.set d (uB v)) a b m).set d (uB w)=setM (h.set d (uB w)) a b m:=fun v w m=>by
    rw [cell_set (m0:=m) hda hdb,List.set_set]
   have hmf:=fun v f m rest=>memF_set (f:=f) (m':=m) (rest:=rest) (H.cell hda hdb v)
   refine loop_rule (α:=Nat×M×Cap×Int) [6,9,10,22,23,24,25,26,27,28,29,30,31,32,33,34,35,36,37,38,39,40,41,42,43,44,45,46,47,48,49] (fun _=>[]) (fun y=>[⟨.rw,y.2.2.1.cl,11⟩]) (fun y=>setM (h.set d (uB y.2.2.2)) a b y.2.1) (fun y=>CB y.2.2.1/\y.2.2.1.mark<=y.1/\i64 y.2.2.2/\0<=y.2.2.2/\rsW x y.1 y.2.1 y.2.2.1 (some y.2.2.2)=W) (fun y=>y.1) (c3.toNat,(m.gX x).nxX x,⟨1,c1,c2,c3,c4,c5,c6,c7,c8,c9,c10⟩,u) ⟨hcb,by simp only; omega,hi,hi0,hW⟩ ?_ ?_
   ·refine Wk.same rfl ?_ ?_
    ·rw [hself']
    ·simp (maxSteps:=999999) only [go_sem,simprocAttr,↓qT,↓qF]
   ·clear hW hb hcb hs
    rintro X ⟨k,m',⟨d0,d1,d2,d3,d4,d5,d6,d7,d8,d9,d10⟩,v⟩ ⟨hcb,hk,hv,hv0,hW⟩ IH
    simp only at hcb hk hv hv0 hW ⊢
    by_cases h0:d3<=0
    ·have h0':¬ 0<d3:=by omega
     have e:W=(m',some v,0):=by
      rw [<-hW]
      cases k with
      | zero=>rfl
      | succ k=>simp only [rsW,h0,if_true]
     subst e
     simp only [Option.getD_some] at hS
     refine run_sound (Tab.ok_Γ _) 300 _ _ _ _ ?_
     simp (maxSteps:=999999) only [go_sem,simprocAttr,↓qT,↓qF,Cap.cl,h0',put,fillP,sub,EVt]
     exact hS
    ·have h0':0<d3:=by omega
     cases k with
     | zero=>exact absurd hk (by omega)
     | succ k =>
     simp only [rsW,h0,if_false] at hW
     simp only [uB] at g1 g2 hmf
     unfold i64 at hv
     have hv':i64 v:=hv
     by_cases hu:v<=0
     ·simp only [hu,if_true] at hW
      subst hW
      simp only [Option.getD_some] at hS
      refine run_sound (Tab.ok_Γ _) 300 _ _ _ _ ?_
      simp (maxSteps:=999999) only [go_sem,simprocAttr,↓qT,↓qF,TRd,takeG,uB,g1,g2,hmf,fillG,fillM,setCap9G,setCap9M,capF,cap_eta,u64_0,hv',hv0,hu,Cap.cl,h0',put,fillP,sub,EVt]
      exact hS
     ·simp only [hu,if_false] at hW
      have hn:=hcb.n h0
      simp only [rsN,rsS,zeroX] at hW hn
      obtain ⟨⟨o1,o2⟩,⟨k1,k2⟩⟩:=hcb
      simp only at o1 o2 k1 k2
      have q2:IntKind.i64.wrap ((d3-1).tdiv 64)=(d3-1)/64:=by rw [Int.tdiv_eq_ediv_of_nonneg (by omega),wrap64]<;>omega
      obtain ⟨z,hz⟩:∃ z,(d3-1)/64*64=z:=⟨_,rfl⟩
      have q1:IntKind.i64.wrap (d3-1)=d3-1:=by rw [wrap64]<;>omega
      have q3:IntKind.i64.wrap ((d3-1)/64*64)=z:=by rw [<-hz,wrap64]<;>omega
      have q4:IntKind.i64.wrap (d1+z)=d1+z:=by rw [wrap64]<;>omega
      have q5:IntKind.i64.wrap (d3-z)=d3-z:=by rw [wrap64]<;>omega
      rw [hz] at hW hn
      cases hh:m'.has (d1+z) (d3-z) with
      | true =>
       simp only [hh,if_true] at hW
       refine run_sound (Tab.ok_Γ _) 300 _ _ _ _ ?_
       simp (maxSteps:=999999) only [go_sem,simprocAttr,↓qT,↓qF,TRd,takeG,uB,g1,g2,hmf,fillG,fillM,setCap9G,setCap9M,capF,cap_eta,u64_0,hv',hv0,hu,h0',q1,q2,q3,q4,q5,hh,Cap.cl,put,fillP,sub,EVt]
       refine IH (k,_,⟨d0,d1,d2,z,d4,d5,d6,d7,d8,d9,d10⟩,v-1) _ (by simp only; omega) ⟨hn.1,by simp only; omega,by unfold i64; simp only; omega,by simp only; omega,hW⟩ ?_
       exact Wk.same rfl rfl (by simp only [go_sem,simprocAttr,↓qT,↓qF])
      | false =>
       simp only [hh,Bool.false_eq_true,if_false] at hW
       refine run_sound (Tab.ok_Γ _) 300 _ _ _ _ ?_
       simp (maxSteps:=999999) only [go_sem,simprocAttr,↓qT,↓qF,TRd,takeG,uB,g1,g2,hmf,fillG,fillM,setCap9G,setCap9M,capF,cap_eta,u64_0,hv',hv0,hu,h0',q1,q2,q3,q4,q5,hh,Cap.cl,put,fillP,sub,EVt]
       refine IH (k,_,⟨d0,d1,d2,z,d4,d5,d6,d7,d8,d9,d10⟩,v-1) _ (by simp only; omega) ⟨hn.1,by simp only; omega,by unfold i64; simp only; omega,by simp only; omega,hW⟩ ?_
       exact Wk.same rfl rfl (by simp only [go_sem,simprocAttr,↓qT,↓qF])
  ·exact hS.elim
 ·exact hS.elim
end Go.Proofs.YtcdfofeolgbnbaaGreat

/- Package heap: slots,apart,within; the kernel's words. -/
namespace Go.Proofs.YtcdfofeolgbnbaaGreat
open Go.D
open Nat (reduceAdd reducePow reduceMul reduceSub reduceLeDiff reduceLT reduceEqDiff)
open Int (reduceNeg reduceLE reduceEq reduceNe reduceToNat)
open Go.D renaming istep → zy,pickR → zx,bin1R → zw,un1R → zv,eqS → zu,eq1 → zq,cmpS → zp,cmp1 → zj,isNil → zk,shows → zg,result → zZ,qT → zV,qF → zU
open List renaming set → zY,replicate → zX
open Option renaming map → zW
open Nat renaming reduceAdd → zQ,reducePow → yz,reduceMul → yy,reduceSub → yx,reduceLeDiff → yw,reduceLT → yv,reduceEqDiff → yu
open Int renaming reduceNeg → yq,reduceLE → yp,reduceEq → yj,reduceNe → yk,reduceToNat → yg,reducePow → yZ,reduceLT → yY,reduceAdd → yX,reduceSub → yW,reduceMul → yV,reduceBEq → yU,reduceBNe → yQ
set_option linter.all false
set_option maxRecDepth 100000
set_option maxHeartbeats 4000000

def wN (c:Cap):Int:=if rightB c then szN c else 0
def wordG (args:List V) (h:List Blk):Res:=capF (fun c=>.ok (.s (.i .i64 (wN c))) [] h) args
theorem hwords_snd:Snd Tryz.prog 101 (FSpec.of wordG):=words_snd.weaken fun args h K hc hS=>by
 obtain ⟨c,rfl,hR⟩:=capF_spec hS
 show Res.spec K (.br (rightB c) (.ok (.s (.i .i64 (szN c))) [] h) (.ok (.s (.i .i64 0)) [] h))
 simp only [spec_br,spec_ok,wN] at hR ⊢
 exact ⟨fun e=>by simpa only [e,if_true] using hR,fun e=>by simpa only [e,Bool.false_eq_true,if_false] using hR⟩
def apartB (a b:Cap):Bool:=wN a==0||(wN b==0||(decide (IntKind.i64.wrap (a.obj+wN a)<=b.obj)||decide (IntKind.i64.wrap (b.obj+wN b)<=a.obj)))
def withinB (a b:Cap):Bool:=decide (0<wN a)&&(decide (0<wN b)&&(decide (b.obj<=a.obj)&&decide (IntKind.i64.wrap (a.obj+wN a)<=IntKind.i64.wrap (b.obj+wN b))))
noncomputable def TWo:Tab:=addT 101 wordG (noT)
theorem TWo_snd:TWo.Snd Tryz.prog:=addT_snd ok101 hwords_snd ((noT_snd _))
def apartG (args:List V) (h:List Blk):Res:=cap2F (fun c d=>.ok (.s (.b (apartB c d))) [] h) args
def withinG (args:List V) (h:List Blk):Res:=cap2F (fun c d=>.ok (.s (.b (withinB c d))) [] h) args
theorem apart_snd:Snd Tryz.prog 34 (FSpec.of apartG):=snd_run TWo_snd mixed Tryz.func34 dc34 100 fun args h K hc hS=>by
 obtain ⟨c,d,rfl,hR⟩:=cap2F_spec hS
 clear hS
 simp only [spec_ok,apartB] at hR
 simp only [Cap.cl]
 simp (maxSteps:=999999) only [EV0,zy,zx,zw,zv,zu,zq,zp,zj,zk,leT,zg,rvC,zZ,zY,zX,zW,↓zV,↓zU,reduceCtorEq,zQ,yz,yZ,yy,yx,yw,yv,yu,yq,yY,yp,yj,yk,yX,yW,yV,yg,yU,yQ,df34,TWo,wordG,capF,cap_eta,sub,EVt,Bool.or_assoc,Bool.and_assoc]
 first
  | exact hR
  | exact fun _ _=>hR
theorem within_snd:Snd Tryz.prog 35 (FSpec.of withinG):=snd_run TWo_snd mixed Tryz.func35 dc35 100 fun args h K hc hS=>by
 obtain ⟨c,d,rfl,hR⟩:=cap2F_spec hS
 clear hS
 simp only [spec_ok,withinB] at hR
 simp only [Cap.cl]
 simp (maxSteps:=999999) only [EV0,zy,zx,zw,zv,zu,zq,zp,zj,zk,leT,zg,rvC,zZ,zY,zX,zW,↓zV,↓zU,reduceCtorEq,zQ,yz,yZ,yy,yx,yw,yv,yu,yq,yY,yp,yj,yk,yX,yW,yV,yg,yU,yQ,df35,TWo,wordG,capF,cap_eta,sub,EVt,Bool.or_assoc,Bool.and_assoc]
 first
  | exact hR
  | exact fun _ _=>hR
def slotsN (c:Cap):Int :=
 if rightB c then (if c.ty=3 then 3 else if c.ty=10 then (if c.bits=31 then 3 else IntKind.i64.wrap (1*2^min c.bits.toNat IntKind.i64.bits)) else if c.ty=2 then IntKind.i64.wrap (1*2^min c.bits.toNat IntKind.i64.bits) else 0) else 0
def slotAtV (c:Cap) (i:Int):Int:=if 0<=i/\i<slotsN c then IntKind.i64.wrap (c.obj+IntKind.i64.wrap (4*i)) else 0
def capIF (f:Cap->Int->Res):List V->Res
 | [x, .s (.i .i64 k)]=>capF (fun c=>f c k) [x]
 | _=>.bad
theorem capIF_spec {f:Cap->Int->Res} {args:List V} {K:V->List Blk->Prop} (h:(capIF f args).spec K):∃ (c:Cap) (k:Int),args=[.agg c.cl, .s (.i .i64 k)]/\(f c k).spec K:=by
 unfold capIF at h
 split at h
 ·obtain ⟨c,e,h⟩:=capF_spec h
  simp only [List.cons.injEq,and_true] at e
  subst e
  exact ⟨c,_,rfl,h⟩
 ·exact h.elim
def slotAtG (args:List V) (h:List Blk):Res:=capIF (fun c i=>.ok (.s (.i .i64 (slotAtV c i))) [] h) args
noncomputable def TSl:Tab:=addT 95 rightG (addT 96 hplaceG (noT))
theorem TSl_snd:TSl.Snd Tryz.prog:=addT_snd ok95 right_snd (addT_snd ok96 hplace_snd ((noT_snd _)))
theorem kinds3 (t:Int):t=3\/t=10\/t=2\/(¬ t=3/\¬ t=10/\¬ t=2):=by omega
theorem slotAt_snd:Snd Tryz.prog 30 (FSpec.of slotAtG):=snd_run TSl_snd mixed Tryz.func30 dc30 200 fun args h K hc hS=>by
 obtain ⟨c,i,rfl,hR⟩:=capIF_spec hS
 clear hS
 simp only [spec_ok,slotAtV] at hR
 cases hr:rightB c with
 | false =>
  have e:slotsN c=0:=by simp [slotsN,hr]
  rw [e,if_neg (by omega)] at hR
  have c1:0<=i->¬ (i<0):=by omega
  simp only [Cap.cl]
  by_cases c2:0<=i
  ·have c3:=c1 c2
   simp (maxSteps:=999999) only [EV0,zy,zx,zw,zv,zu,zq,zp,zj,zk,leT,zg,rvC,zZ,zY,zX,zW,↓zV,↓zU,reduceCtorEq,zQ,yz,yZ,yy,yx,yw,yv,yu,yq,yY,yp,yj,yk,yX,yW,yV,yg,yU,yQ,df30,TSl,rightG,hplaceG,capF,cap_eta,hr,sub,EVt,c2,c3,put]
   exact hR
  ·simp (maxSteps:=999999) only [EV0,zy,zx,zw,zv,zu,zq,zp,zj,zk,leT,zg,rvC,zZ,zY,zX,zW,↓zV,↓zU,reduceCtorEq,zQ,yz,yZ,yy,yx,yw,yv,yu,yq,yY,yp,yj,yk,yX,yW,yV,yg,yU,yQ,df30,TSl,rightG,hplaceG,capF,cap_eta,hr,sub,EVt,c2,put]
   exact hR
 | true =>
  have hb:=right_bounds hr
  have hb3:=hb.bits.1
  by_cases c2:0<=i
  ·by_cases c3:i<slotsN c
   ·rw [if_pos ⟨c2,c3⟩] at hR
    obtain ⟨t,o,b,d,e,g,i',j,k,l,m⟩:=c
    simp only [slotsN,hr,if_true] at c3 hR hb3
    simp only [Cap.cl]
    rcases kinds3 t with rfl|rfl|rfl|⟨k1,k2,k3⟩
    ·simp only [reduceEq,if_true,if_false] at c3
     simp (maxSteps:=999999) only [EV0,zy,zx,zw,zv,zu,zq,zp,zj,zk,leT,zg,rvC,zZ,zY,zX,zW,↓zV,↓zU,reduceCtorEq,zQ,yz,yZ,yy,yx,yw,yv,yu,yq,yY,yp,yj,yk,yX,yW,yV,yg,yU,yQ,df30,TSl,rightG,hplaceG,capF,cap_eta,hr,sub,EVt,c2,c3,put]
     exact hR
    ·by_cases k4:b=31
     ·subst k4
      simp only [reduceEq,if_true,if_false] at c3
      simp (maxSteps:=999999) only [EV0,zy,zx,zw,zv,zu,zq,zp,zj,zk,leT,zg,rvC,zZ,zY,zX,zW,↓zV,↓zU,reduceCtorEq,zQ,yz,yZ,yy,yx,yw,yv,yu,yq,yY,yp,yj,yk,yX,yW,yV,yg,yU,yQ,df30,TSl,rightG,hplaceG,capF,cap_eta,hr,sub,EVt,c2,c3,put]
      exact hR
     ·simp only [reduceEq,k4,if_true,if_false] at c3
      simp (maxSteps:=999999) only [EV0,zy,zx,zw,zv,zu,zq,zp,zj,zk,leT,zg,rvC,zZ,zY,zX,zW,↓zV,↓zU,reduceCtorEq,zQ,yz,yZ,yy,yx,yw,yv,yu,yq,yY,yp,yj,yk,yX,yW,yV,yg,yU,yQ,df30,TSl,rightG,hplaceG,capF,cap_eta,hr,sub,EVt,c2,k4,c3,hb3,put]
      exact hR
    ·simp only [reduceEq,if_true,if_false] at c3
     simp (maxSteps:=999999) only [EV0,zy,zx,zw,zv,zu,zq,zp,zj,zk,leT,zg,rvC,zZ,zY,zX,zW,↓zV,↓zU,reduceCtorEq,zQ,yz,yZ,yy,yx,yw,yv,yu,yq,yY,yp,yj,yk,yX,yW,yV,yg,yU,yQ,df30,TSl,rightG,hplaceG,capF,cap_eta,hr,sub,EVt,c2,c3,hb3,put]
     exact hR
    ·simp only [k1,k2,k3,if_false] at c3
     omega
   ·rw [if_neg (by omega)] at hR
    obtain ⟨t,o,b,d,e,g,i',j,k,l,m⟩:=c
    simp only [slotsN,hr,if_true] at c3 hb3
    simp only [Cap.cl]
    rcases kinds3 t with rfl|rfl|rfl|⟨k1,k2,k3⟩
    ·simp only [reduceEq,if_true,if_false] at c3
     simp (maxSteps:=999999) only [EV0,zy,zx,zw,zv,zu,zq,zp,zj,zk,leT,zg,rvC,zZ,zY,zX,zW,↓zV,↓zU,reduceCtorEq,zQ,yz,yZ,yy,yx,yw,yv,yu,yq,yY,yp,yj,yk,yX,yW,yV,yg,yU,yQ,df30,TSl,rightG,hplaceG,capF,cap_eta,hr,sub,EVt,c2,c3,put]
     exact hR
    ·by_cases k4:b=31
     ·subst k4
      simp only [reduceEq,if_true,if_false] at c3
      simp (maxSteps:=999999) only [EV0,zy,zx,zw,zv,zu,zq,zp,zj,zk,leT,zg,rvC,zZ,zY,zX,zW,↓zV,↓zU,reduceCtorEq,zQ,yz,yZ,yy,yx,yw,yv,yu,yq,yY,yp,yj,yk,yX,yW,yV,yg,yU,yQ,df30,TSl,rightG,hplaceG,capF,cap_eta,hr,sub,EVt,c2,c3,put]
      exact hR
     ·simp only [reduceEq,k4,if_true,if_false] at c3
      simp (maxSteps:=999999) only [EV0,zy,zx,zw,zv,zu,zq,zp,zj,zk,leT,zg,rvC,zZ,zY,zX,zW,↓zV,↓zU,reduceCtorEq,zQ,yz,yZ,yy,yx,yw,yv,yu,yq,yY,yp,yj,yk,yX,yW,yV,yg,yU,yQ,df30,TSl,rightG,hplaceG,capF,cap_eta,hr,sub,EVt,c2,k4,c3,hb3,put]
      exact hR
    ·simp only [reduceEq,if_true,if_false] at c3
     simp (maxSteps:=999999) only [EV0,zy,zx,zw,zv,zu,zq,zp,zj,zk,leT,zg,rvC,zZ,zY,zX,zW,↓zV,↓zU,reduceCtorEq,zQ,yz,yZ,yy,yx,yw,yv,yu,yq,yY,yp,yj,yk,yX,yW,yV,yg,yU,yQ,df30,TSl,rightG,hplaceG,capF,cap_eta,hr,sub,EVt,c2,c3,hb3,put]
     exact hR
    ·simp only [k1,k2,k3,if_false] at c3
     simp (maxSteps:=999999) only [EV0,zy,zx,zw,zv,zu,zq,zp,zj,zk,leT,zg,rvC,zZ,zY,zX,zW,↓zV,↓zU,reduceCtorEq,zQ,yz,yZ,yy,yx,yw,yv,yu,yq,yY,yp,yj,yk,yX,yW,yV,yg,yU,yQ,df30,TSl,rightG,hplaceG,capF,cap_eta,hr,sub,EVt,c2,c3,k1,k2,k3,put]
     exact hR
  ·rw [if_neg (by omega)] at hR
   obtain ⟨t,o,b,d,e,g,i',j,k,l,m⟩:=c
   simp only at hb3
   simp only [Cap.cl]
   rcases kinds3 t with rfl|rfl|rfl|⟨k1,k2,k3⟩
   ·simp (maxSteps:=999999) only [EV0,zy,zx,zw,zv,zu,zq,zp,zj,zk,leT,zg,rvC,zZ,zY,zX,zW,↓zV,↓zU,reduceCtorEq,zQ,yz,yZ,yy,yx,yw,yv,yu,yq,yY,yp,yj,yk,yX,yW,yV,yg,yU,yQ,df30,TSl,rightG,hplaceG,capF,cap_eta,hr,sub,EVt,c2,put]
    exact hR
   ·by_cases k4:b=31
    ·subst k4
     simp (maxSteps:=999999) only [EV0,zy,zx,zw,zv,zu,zq,zp,zj,zk,leT,zg,rvC,zZ,zY,zX,zW,↓zV,↓zU,reduceCtorEq,zQ,yz,yZ,yy,yx,yw,yv,yu,yq,yY,yp,yj,yk,yX,yW,yV,yg,yU,yQ,df30,TSl,rightG,hplaceG,capF,cap_eta,hr,sub,EVt,c2,put]
     exact hR
    ·simp (maxSteps:=999999) only [EV0,zy,zx,zw,zv,zu,zq,zp,zj,zk,leT,zg,rvC,zZ,zY,zX,zW,↓zV,↓zU,reduceCtorEq,zQ,yz,yZ,yy,yx,yw,yv,yu,yq,yY,yp,yj,yk,yX,yW,yV,yg,yU,yQ,df30,TSl,rightG,hplaceG,capF,cap_eta,hr,sub,EVt,c2,k4,hb3,put]
     exact hR
   ·simp (maxSteps:=999999) only [EV0,zy,zx,zw,zv,zu,zq,zp,zj,zk,leT,zg,rvC,zZ,zY,zX,zW,↓zV,↓zU,reduceCtorEq,zQ,yz,yZ,yy,yx,yw,yv,yu,yq,yY,yp,yj,yk,yX,yW,yV,yg,yU,yQ,df30,TSl,rightG,hplaceG,capF,cap_eta,hr,sub,EVt,c2,hb3,put]
    exact hR
   ·simp (maxSteps:=999999) only [EV0,zy,zx,zw,zv,zu,zq,zp,zj,zk,leT,zg,rvC,zZ,zY,zX,zW,↓zV,↓zU,reduceCtorEq,zQ,yz,yZ,yy,yx,yw,yv,yu,yq,yY,yp,yj,yk,yX,yW,yV,yg,yU,yQ,df30,TSl,rightG,hplaceG,capF,cap_eta,hr,sub,EVt,c2,k1,k2,k3,put]
    exact hR

end Go.Proofs.YtcdfofeolgbnbaaGreat

