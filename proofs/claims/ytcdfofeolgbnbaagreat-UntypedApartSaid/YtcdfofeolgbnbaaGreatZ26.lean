/- Law 11: the memories that a script makes: a list that is a forest; each act by both. -/
import Derived.Test.YtcdfofeolgbnbaaGreatZ21
import Derived.Test.YtcdfofeolgbnbaaGreatZ25
import Derived.Test.YtcdfofeolgbnbaaGreatZ11
import Derived.Test.YtcdfofeolgbnbaaGreatZ18
/- What goes through a list that is in order finds those that lie deeper. -/
namespace Go.Proofs.YtcdfofeolgbnbaaGreat
open Go.D
set_option linter.all false
set_option maxRecDepth 100000
set_option maxHeartbeats 4000000

theorem dsW_chain {m:M} {d:Int}:∀ (L:List Int) (k:Nat) (m':M) (pr:Int) (acc:List Int),m'.w=m.w->(∀ x,x∈L->m.fE x=0)->chain m.gV 0 pr L->L.length<=k ->
  ∃ m2,dsW d k (L.headD 0) m' acc=(some (acc++deep m.gV d L),m2)/\m2.w=m.w
 | [],k,m',pr,acc,hw,_,_,_=>by
  refine ⟨m', ?_,hw⟩
  cases k<;>simp [dsW,deep]
 | y::L,0,m',pr,acc,_,_,_,hk=>by simp at hk
 | y::L,k+1,m',pr,acc,hw,hf,hc,hk=>by
  obtain ⟨h1,h2,h3⟩:=hc
  have hy:=hf y List.mem_cons_self
  have y0:y≠0:=there_ne0 (fE_there hy)
  have hf':m'.fE y=0:=by rw [fE_w hw]; exact hy
  have hg:m'.gV y=m.gV y:=gV_w hw y
  have hw':(m'.gX y).w=m.w:=(gX_w m' y).trans hw
  simp only [List.headD_cons,dsW,y0,if_false,hf',if_true,hg]
  by_cases hd:(m.gV y).depth<=d
  ·refine ⟨m'.gX y, ?_,hw'⟩
   rw [if_pos hd]
   have:¬ d<(m.gV y).depth:=by omega
   simp [deep,this]
  ·rw [if_neg hd,h2]
   obtain ⟨m2,e,e2⟩:=dsW_chain L k (m'.gX y) y (acc++[y]) hw' (fun x hx=>hf x (List.mem_cons_of_mem _ hx)) h3 (by simpa using hk)
   refine ⟨m2, ?_,e2⟩
   rw [e]
   have:d<(m.gV y).depth:=by omega
   simp [deep,this]
theorem rdW_chain {m:M} {d:Int} {N:Nat}:∀ (L:List Int) (k:Nat) (m':M) (pr:Int) (acc:List Int),m'.w=m.w->(∀ x,x∈L->m.fE x=0)->chain m.gV 0 pr L->acc.length+L.length<=N->L.length<k ->
  ∃ m2,rdW d N k (L.headD 0) m' acc=(some (acc++deep m.gV d L),m2)/\m2.w=m.w
 | [],0,m',pr,acc,hw,_,_,_,hk=>by simp at hk
 | [],k+1,m',pr,acc,hw,_,_,_,_=>⟨m',by simp [rdW,deep],hw⟩
 | y::L,0,m',pr,acc,_,_,_,_,hk=>by simp at hk
 | y::L,k+1,m',pr,acc,hw,hf,hc,hN,hk=>by
  obtain ⟨h1,h2,h3⟩:=hc
  have hy:=hf y List.mem_cons_self
  have y0:y≠0:=there_ne0 (fE_there hy)
  have hf':m'.fE y=0:=by rw [fE_w hw]; exact hy
  have hg:m'.gV y=m.gV y:=gV_w hw y
  have hw':(m'.gX y).w=m.w:=(gX_w m' y).trans hw
  have hNl:acc.length<=N:=by simp only [List.length_cons] at hN; omega
  simp only [List.headD_cons,rdW,y0,if_false,hf',hNl,and_self,if_true,hg]
  by_cases hd:(m.gV y).depth<=d
  ·refine ⟨m'.gX y, ?_,hw'⟩
   rw [if_pos hd]
   have:¬ d<(m.gV y).depth:=by omega
   simp [deep,this]
  ·rw [if_neg hd,h2]
   obtain ⟨m2,e,e2⟩:=rdW_chain (N:=N) L k (m'.gX y) y (acc++[y]) hw' (fun x hx=>hf x (List.mem_cons_of_mem _ hx)) h3 (by simp only [List.length_append,List.length_cons,List.length_nil] at hN ⊢; omega) (by simpa using hk)
   refine ⟨m2, ?_,e2⟩
   rw [e]
   have:d<(m.gV y).depth:=by omega
   simp [deep,this]
theorem deep_all {m:M} (L:List Int):deep m.gV (-1) L=L:=by
 induction L with
 | nil=>rfl
 | cons x L ih =>
  have:=gV_links m x
  have h : -1<(m.gV x).depth:=by omega
  unfold deep at ih ⊢
  rw [List.takeWhile_cons,if_pos (by simpa using h),ih]
section
variable {m:M} {P:Int->Prop} {L:List Int}
theorem M.Inv.dsc (I:m.Inv P L) {a:Int} {L1 L2:List Int} (e:L=L1++a::L2) {m':M} (hw:m'.w=m.w):∃ m2,dsW (m.gV a).depth (m.w.length/4) (m.gV a).next m' []=(some (deep m.gV (m.gV a).depth L2),m2)/\m2.w=m.w:=by
 have hc:=I.ch
 have hl:=I.llen
 rw [e] at hc hl
 obtain ⟨_,hc⟩:=chain_app.1 hc
 obtain ⟨_,h2,h3⟩:=hc
 simp only [List.length_append,List.length_cons] at hl
 obtain ⟨m2,e1,e2⟩:=dsW_chain (m:=m) (d:=(m.gV a).depth) L2 (m.w.length/4) m' a [] hw (fun x hx=>I.full x (by rw [e]; exact List.mem_append_right _ (List.mem_cons_of_mem _ hx))) h3 (by omega)
 rw [<-h2] at e1
 exact ⟨m2,by simpa using e1,e2⟩
theorem M.Inv.rdsc (I:m.Inv P L) {a:Int} {L1 L2:List Int} (e:L=L1++a::L2) {m':M} (hw:m'.w=m.w):∃ m2,rdW (m.gV a).depth (m.w.length/4) (m.w.length/4+2) (m.gV a).next m' []=(some (deep m.gV (m.gV a).depth L2),m2)/\m2.w=m.w:=by
 have hc:=I.ch
 have hl:=I.llen
 rw [e] at hc hl
 obtain ⟨_,hc⟩:=chain_app.1 hc
 obtain ⟨_,h2,h3⟩:=hc
 simp only [List.length_append,List.length_cons] at hl
 obtain ⟨m2,e1,e2⟩:=rdW_chain (m:=m) (d:=(m.gV a).depth) (N:=m.w.length/4) L2 (m.w.length/4+2) m' a [] hw (fun x hx=>I.full x (by rw [e]; exact List.mem_append_right _ (List.mem_cons_of_mem _ hx))) h3 (by simp only [List.length_nil]; omega) (by omega)
 rw [<-h2] at e1
 exact ⟨m2,by simpa using e1,e2⟩
theorem M.Inv.lis (I:m.Inv P L) {m':M} (hw:m'.w=m.w):∃ m2,dsW (-1) (m.w.length/4) m.fst m' []=(some L,m2)/\m2.w=m.w:=by
 have hl:=I.llen
 obtain ⟨m2,e1,e2⟩:=dsW_chain (m:=m) (d:=-1) L (m.w.length/4) m' 0 [] hw (fun x hx=>I.full x hx) I.ch (by omega)
 rw [<-I.fst,deep_all] at e1
 exact ⟨m2,by simpa using e1,e2⟩
end
end Go.Proofs.YtcdfofeolgbnbaaGreat

/- The document's Remove. -/
namespace Go.Proofs.YtcdfofeolgbnbaaGreat
open Go.D
set_option linter.all false
set_option maxRecDepth 100000
set_option maxHeartbeats 8000000

def M.rdecX:M->List Int->M
 | m,[]=>m
 | m,x::l=>(if m.gE x=0 then (m.gX x).pX x (depC (m.gV x)) else m.gX x).rdecX l
def M.rremT (m:M) (x:Int) (s:Slot):M:=(if s.prev=0 then (if m.fst=x then (m.fstX.pX x slotZ).lkX s.prev s.next else m.fstX.pX x slotZ) else (m.pX x slotZ).lkX s.prev s.next).bkX s.prev s.next
def M.rrem (m:M) (x:Int):Int×M:=if m.fE x=0 then (match rdW (m.gV x).depth (m.w.length/4) (m.w.length/4+2) (m.gV x).next ((m.gX x).gX x) [] with
 | (none,m2)=>(110,m2)
 | (some l,m2)=>(0,(m2.rdecX l).rremT x (m.gV x))) else (m.fE x,m.gX x)
def rremM (b:Nat) (m:M) (st:M->List Blk):List V->Res
 | [.s (.i .i64 x)]=>.ok (.s (.i .i64 (m.rrem x).1)) [] (st (m.rrem x).2)
 | _=>.bad
noncomputable def rremG:=memF rremM
theorem rdecX_drop {m:M} {l:List Int} {i:Nat} (h:i<l.length):m.rdecX (l.drop i)=(if m.gE (nth 0 l i)=0 then (m.gX (nth 0 l i)).pX (nth 0 l i) (depC (m.gV (nth 0 l i))) else m.gX (nth 0 l i)).rdecX (l.drop (i+1)):=by
 rw [<-List.getElem_cons_drop h,nth_eq h]; rfl
noncomputable def TRr:Tab:=addT 98 fullG (addT 129 rdscG (addT 126 get2G (addT 118 put2G (addT 122 firstG (addT 123 linksG (addT 124 backG (noT)))))))
theorem TRr_snd:TRr.Snd Tryz.prog:=addT_snd ok98 rfull_snd (addT_snd ok129 rdsc_snd (addT_snd ok126 rget2_snd (addT_snd ok118 rput2_snd (addT_snd ok122 rfirst_snd (addT_snd ok123 links_snd (addT_snd ok124 back_snd ((noT_snd _))))))))
theorem rrem_snd:Snd Tryz.prog 57 (FSpec.of rremG):=(fwp_sound (Tab.snd_Γ TRr_snd) mixed Tryz.func57 dc57).weaken fun args h K hc hS=>by
 refine fwp_runW (Tab.ok_Γ _) 200 ?_
 obtain ⟨a,b,m,rest,rfl,H,hS1⟩:=memF_spec (f:=rremM) hS
 clear hS
 have hS:=hS1
 clear hS1
 unfold rremM at hS
 split at hS
 ·rename_i x
  simp only [spec_ok,M.rrem] at hS
  have hlm:∀ m2,(setM h a b m2).length=h.length:=fun _=>setM_len
  have hcm:∀ m2,clean (setM h a b m2).length (setM h a b m2)=true:=fun _=>by rw [setM_len]; exact setM_clean H hc H.ltb
  have hml:=m.l
  obtain ⟨s,hs⟩:∃ s,m.gV x=s:=⟨_,rfl⟩
  by_cases hf:m.fE x=0
  ·simp only [hf,if_true,hs] at hS
   have hs2:(m.gX x).gV x=s:=by rw [gX_gV]; exact hs
   have hf2:(m.gX x).fE x=0:=by rw [gX_fE]; exact hf
   have hwl:(m.gX x).w.length=m.w.length:=by rw [gX_w]
   obtain ⟨o,ho⟩:∃ o,rdW s.depth (m.w.length/4) (m.w.length/4+2) s.next ((m.gX x).gX x) []=o:=⟨_,rfl⟩
   rw [ho] at hS
   obtain ⟨⟨c0,c1,c2,c3,c4,c5,c6,c7,c8,c9,c10⟩,p0,q0,r0⟩:=s
   have hslz:(slotZ:Slot)=⟨⟨0,0,0,0,0,0,0,0,0,0,0⟩,0,0,0⟩:=rfl
   rcases o with ⟨_|l,m2⟩
   ·simp only at hS
    simp (maxSteps:=999999) only [go_sem,simprocAttr,↓qT,↓qF,df57,TRr,fullG,rdscG,memF_eq H,memF_set H,fullM,rdscM,dscR,hs,hs2,hf,hf2,hwl,ho,bne,Slot.cl,Cap.cl,put,fillP,sub,EVt]
    refine fin_of (v:=.s (.i .i64 110)) (ls:=[]) (h:=setM h a b m2) rfl ?_ ?_
    ·exact Wk.keep 0 rfl rfl (by simp only [go_sem,simprocAttr,↓qT,↓qF]) (by rfl) (by rfl)
    ·simp (maxSteps:=999999) only [go_sem,simprocAttr,↓qT,↓qF]
     exact hS
   ·simp only at hS
    obtain ⟨m3,hm3⟩:∃ m3,m2.rdecX l=m3:=⟨_,rfl⟩
    rw [hm3] at hS
    simp only [M.rremT] at hS
    cases l with
    | nil =>
     simp only [M.rdecX] at hm3
     subst hm3
     simp (maxSteps:=999999) only [go_sem,simprocAttr,↓qT,↓qF,df57,TRr,fullG,rdscG,memF_eq H,memF_set H,fullM,rdscM,dscR,hs,hs2,hf,hf2,hwl,ho,bne,Slot.cl,Cap.cl,put,fillP,sub,EVt]
     refine loop_rule (α:=Unit) [] (fun _=>[]) (fun _=>[⟨.rw,(⟨⟨c0,c1,c2,c3,c4,c5,c6,c7,c8,c9,c10⟩,p0,q0,r0⟩:Slot).cl,14⟩]) (fun _=>setM h a b m2) (fun _=>True) (fun _=>0) () trivial .refl ?_
     rintro X2 _ _ _
     simp only [Slot.cl,Cap.cl]
     by_cases hp:p0=0
     ·have hp0:(p0==0)=true:=by simpa using hp
      rw [if_pos hp] at hS
      by_cases hx:m2.fst=x
      ·have hx0:(m2.fst==x)=true:=by simpa using hx
       rw [if_pos hx] at hS
       refine run_sound (Tab.ok_Γ _) 100 _ _ _ _ ?_
       simp (maxSteps:=999999) only [go_sem,simprocAttr,↓qT,↓qF,TRr,fullG,firstG,linksG,backG,rdscG,get2G,put2G,memF_set H,memF_app H,setM_fun H,fullM,firstM,linksM,backM,get2M,put2M,slotF,slot_eta,cap_eta,bne,Slot.cl,Cap.cl,<-hslz,hp0,setM_len,put,fillP,sub,EVt,hx0,Int.lt_irrefl]
       refine fin_of (v:=.s (.i .i64 0)) (ls:=[]) (h:=setM h a b (((m2.fstX.pX x slotZ).lkX p0 q0).bkX p0 q0)) rfl ?_ ?_
       ·exact Wk.keep 0 rfl rfl (by simp only [go_sem,simprocAttr,↓qT,↓qF]) (by rfl) (by rfl)
       ·simp (maxSteps:=999999) only [go_sem,simprocAttr,↓qT,↓qF]
        exact hS
      ·have hx0:(m2.fst==x)=false:=by simpa using hx
       rw [if_neg hx] at hS
       refine run_sound (Tab.ok_Γ _) 100 _ _ _ _ ?_
       simp (maxSteps:=999999) only [go_sem,simprocAttr,↓qT,↓qF,TRr,fullG,firstG,linksG,backG,rdscG,get2G,put2G,memF_set H,memF_app H,setM_fun H,fullM,firstM,linksM,backM,get2M,put2M,slotF,slot_eta,cap_eta,bne,Slot.cl,Cap.cl,<-hslz,hp0,setM_len,put,fillP,sub,EVt,hx0,Int.lt_irrefl]
       refine fin_of (v:=.s (.i .i64 0)) (ls:=[]) (h:=setM h a b ((m2.fstX.pX x slotZ).bkX p0 q0)) rfl ?_ ?_
       ·exact Wk.keep 0 rfl rfl (by simp only [go_sem,simprocAttr,↓qT,↓qF]) (by rfl) (by rfl)
       ·simp (maxSteps:=999999) only [go_sem,simprocAttr,↓qT,↓qF]
        exact hS
     ·have hp0:(p0==0)=false:=by simpa using hp
      rw [if_neg hp] at hS
      refine run_sound (Tab.ok_Γ _) 100 _ _ _ _ ?_
      simp (maxSteps:=999999) only [go_sem,simprocAttr,↓qT,↓qF,TRr,fullG,firstG,linksG,backG,rdscG,get2G,put2G,memF_set H,memF_app H,setM_fun H,fullM,firstM,linksM,backM,get2M,put2M,slotF,slot_eta,cap_eta,bne,Slot.cl,Cap.cl,<-hslz,hp0,setM_len,put,fillP,sub,EVt,Int.lt_irrefl]
      refine fin_of (v:=.s (.i .i64 0)) (ls:=[]) (h:=setM h a b (((m2.pX x slotZ).lkX p0 q0).bkX p0 q0)) rfl ?_ ?_
      ·exact Wk.keep 0 rfl rfl (by simp only [go_sem,simprocAttr,↓qT,↓qF]) (by rfl) (by rfl)
      ·simp (maxSteps:=999999) only [go_sem,simprocAttr,↓qT,↓qF]
       exact hS
    | cons y l =>
     have hl:=rdW_len _ _ _ _ ho
     simp only [List.length_cons,List.length_nil] at hl
     obtain ⟨L,hL⟩:∃ L,y::l=L:=⟨_,rfl⟩
     have hLl:L.length=l.length+1:=by rw [<-hL]; rfl
     obtain ⟨B,hB⟩:∃ B,intsB (y::l)=B:=⟨_,rfl⟩
     have hbB:∀ m' c,(setM h a b m'++[⟨.rw,B,c⟩])[h.length]?=some (⟨.rw,B,c⟩:Blk):=fun m' c=>by rw [List.getElem?_append_right (by rw [setM_len]; omega),setM_len,Nat.sub_self]; rfl
     have hB1:∀ i,i<L.length->B[i]?=some (.i .i64 (nth 0 L i)):=fun i hi=>by
      rw [<-hB,hL]; exact intsB_get hi
     simp (maxSteps:=999999) only [go_sem,simprocAttr,↓qT,↓qF,df57,TRr,fullG,rdscG,memF_eq H,memF_set H,fullM,rdscM,dscR,hs,hs2,hf,hf2,hwl,ho,hB,setM_len,bne,Slot.cl,Cap.cl,put,fillP,sub,EVt]
     intro c hc1
     have l1:L.length<=9223372036854775807:=by omega
     rw [hL] at hm3
     rw [<-hLl]
     clear hs hs2 hf hf2 hwl ho hL hB
     refine loop_rule (α:=Nat×M) [8,9,10,30,31,32,33,34,35,36,37,38,39,40,41,42,43,44,45,46,47,48,49,50,51,52,53,54,55,56,57] (fun z=>[(8, .s (.i .i64 (z.1:Int)))]) (fun _=>[⟨.rw,(⟨⟨c0,c1,c2,c3,c4,c5,c6,c7,c8,c9,c10⟩,p0,q0,r0⟩:Slot).cl,14⟩]) (fun z=>setM h a b z.2++[⟨.rw,B,c⟩]) (fun z=>z.1<=L.length/\z.2.rdecX (L.drop z.1)=m3) (fun z=>L.length-z.1) (0,m2) ⟨Nat.zero_le _,hm3⟩ ?_ ?_
     ·refine Wk.same (by rfl) rfl ?_
      simp (maxSteps:=999999) only [go_sem,simprocAttr,↓qT,↓qF,Int.natCast_zero]
     ·rintro X ⟨i,m'⟩ ⟨hi,hm'⟩ IH
      simp only at hi hm' ⊢
      simp only [Slot.cl,Cap.cl]
      by_cases h1:i<L.length
      ·obtain ⟨d1,d2,d3,d4⟩:=idx h1 l1
       have g1:=hB1 i h1
       rw [rdecX_drop h1] at hm'
       obtain ⟨q,hq⟩:∃ q,nth 0 L i=q:=⟨_,rfl⟩
       rw [hq] at hm' g1
       obtain ⟨⟨⟨e0,e1,e2,e3,e4,e5,e6,e7,e8,e9,e10⟩,p1,q1,r1⟩,hs1⟩:∃ s,m'.gV q=s:=⟨_,rfl⟩
       rw [hs1] at hm'
       simp only [depC] at hm'
       by_cases hg:m'.gE q=0
       ·have hg':(m'.gE q==0)=true:=by simpa using hg
        rw [if_pos hg] at hm'
        refine run_sound (Tab.ok_Γ _) 100 _ _ _ _ ?_
        simp (maxSteps:=999999) only [go_sem,simprocAttr,↓qT,↓qF,TRr,get2G,put2G,memF_app H,get2M,put2M,slotF,slot_eta,cap_eta,Slot.cl,Cap.cl,hs1,hg,hg',hbB,g1,d1,d2,d3,d4,Int.toNat_natCast,put,fillP,sub,EVt]
        refine IH (i+1,(m'.gX q).pX q ⟨⟨e0,e1,e2,e3,e4,e5,e6,e7,e8,e9,e10⟩,p1,q1,IntKind.i64.wrap (r1-1)⟩) _ (by simp only; omega) ⟨by simp only; omega,hm'⟩ (Wk.keep 1 (by rfl) rfl ?_ ?_ ?_)
        ·simp (maxSteps:=999999) only [go_sem,simprocAttr,↓qT,↓qF]
        ·simp (maxSteps:=999999) only [go_sem,simprocAttr,↓qT,↓qF,S_below]
        ·simp (maxSteps:=999999) only [go_sem,simprocAttr,↓qT,↓qF,S_below,Slot.cl,Cap.cl]
       ·have hg':(m'.gE q==0)=false:=by simpa using hg
        rw [if_neg hg] at hm'
        refine run_sound (Tab.ok_Γ _) 100 _ _ _ _ ?_
        simp (maxSteps:=999999) only [go_sem,simprocAttr,↓qT,↓qF,TRr,get2G,put2G,memF_app H,get2M,put2M,slotF,slot_eta,cap_eta,Slot.cl,Cap.cl,hs1,hg',hbB,g1,d1,d2,d3,d4,Int.toNat_natCast,put,fillP,sub,EVt]
        refine IH (i+1,m'.gX q) _ (by simp only; omega) ⟨by simp only; omega,hm'⟩ (Wk.keep 1 (by rfl) rfl ?_ ?_ ?_)
        ·simp (maxSteps:=999999) only [go_sem,simprocAttr,↓qT,↓qF]
        ·simp (maxSteps:=999999) only [go_sem,simprocAttr,↓qT,↓qF,S_below]
        ·simp (maxSteps:=999999) only [go_sem,simprocAttr,↓qT,↓qF,S_below,Slot.cl,Cap.cl]
      ·have e0:i=L.length:=by omega
       subst e0
       rw [List.drop_length] at hm'
       simp only [M.rdecX] at hm'
       subst hm'
       have h1:¬ ((L.length:Int)<(L.length:Int)):=by omega
       by_cases hp:p0=0
       ·have hp0:(p0==0)=true:=by simpa using hp
        rw [if_pos hp] at hS
        by_cases hx:m'.fst=x
        ·have hx0:(m'.fst==x)=true:=by simpa using hx
         rw [if_pos hx] at hS
         refine run_sound (Tab.ok_Γ _) 100 _ _ _ _ ?_
         simp (maxSteps:=999999) only [go_sem,simprocAttr,↓qT,↓qF,TRr,fullG,firstG,linksG,backG,rdscG,get2G,put2G,memF_set H,memF_app H,setM_fun H,fullM,firstM,linksM,backM,get2M,put2M,slotF,slot_eta,cap_eta,bne,Slot.cl,Cap.cl,<-hslz,hp0,setM_len,put,fillP,sub,EVt,hx0,h1]
         refine fin_of (v:=.s (.i .i64 0)) (ls:=[]) (h:=setM h a b (((m'.fstX.pX x slotZ).lkX p0 q0).bkX p0 q0)) rfl ?_ ?_
         ·exact drop_i (by simp only [go_sem,simprocAttr,↓qT,↓qF]) (hcm _) (Nat.le_of_eq (hlm _).symm)
         ·simp (maxSteps:=999999) only [go_sem,simprocAttr,↓qT,↓qF]
          exact hS
        ·have hx0:(m'.fst==x)=false:=by simpa using hx
         rw [if_neg hx] at hS
         refine run_sound (Tab.ok_Γ _) 100 _ _ _ _ ?_
         simp (maxSteps:=999999) only [go_sem,simprocAttr,↓qT,↓qF,TRr,fullG,firstG,linksG,backG,rdscG,get2G,put2G,memF_set H,memF_app H,setM_fun H,fullM,firstM,linksM,backM,get2M,put2M,slotF,slot_eta,cap_eta,bne,Slot.cl,Cap.cl,<-hslz,hp0,setM_len,put,fillP,sub,EVt,hx0,h1]
         refine fin_of (v:=.s (.i .i64 0)) (ls:=[]) (h:=setM h a b ((m'.fstX.pX x slotZ).bkX p0 q0)) rfl ?_ ?_
         ·exact drop_i (by simp only [go_sem,simprocAttr,↓qT,↓qF]) (hcm _) (Nat.le_of_eq (hlm _).symm)
         ·simp (maxSteps:=999999) only [go_sem,simprocAttr,↓qT,↓qF]
          exact hS
       ·have hp0:(p0==0)=false:=by simpa using hp
        rw [if_neg hp] at hS
        refine run_sound (Tab.ok_Γ _) 100 _ _ _ _ ?_
        simp (maxSteps:=999999) only [go_sem,simprocAttr,↓qT,↓qF,TRr,fullG,firstG,linksG,backG,rdscG,get2G,put2G,memF_set H,memF_app H,setM_fun H,fullM,firstM,linksM,backM,get2M,put2M,slotF,slot_eta,cap_eta,bne,Slot.cl,Cap.cl,<-hslz,hp0,setM_len,put,fillP,sub,EVt,h1]
        refine fin_of (v:=.s (.i .i64 0)) (ls:=[]) (h:=setM h a b (((m'.pX x slotZ).lkX p0 q0).bkX p0 q0)) rfl ?_ ?_
        ·exact drop_i (by simp only [go_sem,simprocAttr,↓qT,↓qF]) (hcm _) (Nat.le_of_eq (hlm _).symm)
        ·simp (maxSteps:=999999) only [go_sem,simprocAttr,↓qT,↓qF]
         exact hS
  ·have hf':(m.fE x==0)=false:=by simpa using hf
   simp only [hf,if_false] at hS
   simp (maxSteps:=999999) only [go_sem,simprocAttr,↓qT,↓qF,df57,TRr,fullG,memF_eq H,memF_set H,fullM,hs,hf',hf,bne,Slot.cl,Cap.cl,put,fillP,sub,EVt]
   refine fin_of (v:=.s (.i .i64 (m.fE x))) (ls:=[]) (h:=setM h a b (m.gX x)) rfl ?_ ?_
   ·exact Wk.keep 0 rfl rfl (by simp only [go_sem,simprocAttr,↓qT,↓qF]) (by rfl) (by rfl)
   ·simp (maxSteps:=999999) only [go_sem,simprocAttr,↓qT,↓qF]
    exact hS
 ·exact hS.elim
end Go.Proofs.YtcdfofeolgbnbaaGreat

/- Remove,of the code and of the document,at a slot of a list that is in order. -/
namespace Go.Proofs.YtcdfofeolgbnbaaGreat
open Go.D
set_option linter.all false
set_option maxRecDepth 100000
set_option maxHeartbeats 4000000

theorem getLastD_mem {x d:Int} {L:List Int}:(x::L).getLastD d∈x::L:=by
 rw [List.getLastD_eq_getLast?,List.getLast?_eq_some_getLast (by simp),Option.getD_some]
 exact List.getLast_mem _
theorem chain_post {V V':Int->Slot} {a n:Int}:∀ {L:List Int} {pr:Int},chain V a pr L->L.Nodup->(∀ x,x∈L->(V' x).prev=(V x).prev/\(V' x).next=if x=L.getLastD 0 then n else (V x).next)->chain V' n pr L
 | [],_,_,_,_=>trivial
 | [x],pr,⟨h1,_,_⟩,_,h=>by
  obtain ⟨e1,e2⟩:=h x List.mem_cons_self
  rw [if_pos (by rfl)] at e2
  exact ⟨e1.trans h1,e2,trivial⟩
 | x::y::L,pr,⟨h1,h2,h3⟩,hn,h=>by
  have hn':=List.nodup_cons.1 hn
  have eL:(x::y::L).getLastD 0=(y::L).getLastD 0:=rfl
  rw [eL] at h
  obtain ⟨e1,e2⟩:=h x List.mem_cons_self
  have hne:¬ x=(y::L).getLastD 0:=fun e=>hn'.1 (by rw [e]; exact getLastD_mem)
  rw [if_neg hne] at e2
  exact ⟨e1.trans h1,e2.trans h2,chain_post h3 hn'.2 fun z hz=>h z (List.mem_cons_of_mem _ hz)⟩

def depS (s:Slot):Slot:=⟨s.cap,s.prev,s.next,s.depth-1⟩
def decV (V:Int->Slot) (Ds:List Int) (x:Int):Slot:=if x∈Ds then depS (V x) else V x
theorem decV_nil (V:Int->Slot):decV V []=V:=funext fun x=>if_neg List.not_mem_nil
theorem decV_out {V:Int->Slot} {Ds:List Int} {x:Int} (h:x∉Ds):decV V Ds x=V x:=if_neg h
theorem decV_cap (V:Int->Slot) (Ds:List Int) (x:Int):(decV V Ds x).cap=(V x).cap:=by unfold decV; split<;>rfl
theorem decV_prev (V:Int->Slot) (Ds:List Int) (x:Int):(decV V Ds x).prev=(V x).prev:=by unfold decV; split<;>rfl
theorem decV_next (V:Int->Slot) (Ds:List Int) (x:Int):(decV V Ds x).next=(V x).next:=by unfold decV; split<;>rfl
section
variable {m:M} {P:Int->Prop} {L:List Int}
theorem depC_of {s:Slot} (h0:0<s.depth) (h1:s.depth<65536):depC s=depS s:=by
 unfold depC depS
 rw [wrap64]<;>omega
theorem M.To.dec1 {m':M} {V:Int->Slot} {F:Int} (T:m.To m' V F) {x:Int} (hx:m.gE x=0) (ht:(V x).cap.ty≠0) (hd:0<(V x).depth):m.To (m'.turnX x depC) (fun y=>if y=x then depS (V x) else V y) F/\m.To (if m'.gE x=0 then (m'.gX x).pX x (depC (m'.gV x)) else m'.gX x) (fun y=>if y=x then depS (V x) else V y) F:=by
 have h0:=there_ne0 (gE_there hx).1
 obtain ⟨k1,k2,k3,k4⟩:=T.lk h0
 have e:=depC_of hd k4
 have hr:slotRB (depC (V x))=true:=by rw [e]; exact T.vlinks h0 ht k1 k2 (by omega) (by omega)
 rw [<-e]
 refine ⟨T.turn hx ht hr, ?_⟩
 rw [if_pos ((T.E x).trans hx),T.V x h0]
 exact (T.gX x).pX hx hr
theorem M.To.dec {F:Int}:∀ (Ds:List Int) {m' r':M} {V:Int->Slot},m.To m' V F->m.To r' V F->Ds.Nodup->(∀ x,x∈Ds->m.gE x=0/\(V x).cap.ty≠0/\0<(V x).depth)->m.To (m'.decX Ds) (decV V Ds) F/\m.To (r'.rdecX Ds) (decV V Ds) F
 | [],m',r',V,T,U,_,_=>by rw [decV_nil]; exact ⟨T,U⟩
 | x::Ds,m',r',V,T,U,hn,h=>by
  obtain ⟨hx,hn⟩:=List.nodup_cons.1 hn
  obtain ⟨h1,h2,h3⟩:=h x List.mem_cons_self
  have T1:=(T.dec1 h1 h2 h3).1
  have U1:=(U.dec1 h1 h2 h3).2
  obtain ⟨a1,a2⟩:=M.To.dec Ds T1 U1 hn fun y hy=>by
   have hyx:y≠x:=fun e=>hx (e ▸ hy)
   rw [if_neg hyx]
   exact h y (List.mem_cons_of_mem _ hy)
  have e:∀ y,y≠0->decV (fun y=>if y=x then depS (V x) else V y) Ds y=decV V (x::Ds) y:=fun y _=>by
   unfold decV
   by_cases c:y=x
   ·subst c
    simp only [if_neg hx,if_true,List.mem_cons,true_or]
   ·simp only [List.mem_cons,c,false_or,if_false]
  exact ⟨a1.val e rfl,a2.val e rfl⟩
def M.remV (m:M) (a:Int) (Ds:List Int):Int->Slot:=fun x=>if x=a then slotZ else
 ⟨(m.gV x).cap,if x=(m.gV a).next then (m.gV a).prev else (m.gV x).prev,if x=(m.gV a).prev then (m.gV a).next else (m.gV x).next,(decV m.gV Ds x).depth⟩
def M.remF (m:M) (a:Int):Int:=if (m.gV a).prev=0 then (m.gV a).next else m.fst
theorem mem_deep {V:Int->Slot} {d x:Int}:∀ {L:List Int},x∈deep V d L->x∈L/\d<(V x).depth
 | [],h=>by cases h
 | z::L,h=>by
  by_cases c:d<(V z).depth
  ·have e:deep V d (z::L)=z::deep V d L:=by simp [deep,c]
   rw [e] at h
   rcases List.mem_cons.1 h with h|h
   ·exact ⟨by rw [h]; exact List.mem_cons_self,by rw [h]; exact c⟩
   ·obtain ⟨h1,h2⟩:=mem_deep h
    exact ⟨List.mem_cons_of_mem _ h1,h2⟩
  ·have e:deep V d (z::L)=[]:=by simp [deep,c]
   rw [e] at h
   cases h
theorem M.Inv.rem_facts (I:m.Inv P L) {a:Int} {L1 L2:List Int} (e:L=L1++a::L2) (x:Int) (hx:x∈deep m.gV (m.gV a).depth L2):x∈L/\x≠a/\0<(m.gV x).depth:=by
 obtain ⟨h2,hd⟩:=mem_deep hx
 have h0:=(gV_links m a).2.2.1
 refine ⟨by rw [e]; exact List.mem_append_right _ (List.mem_cons_of_mem _ h2),fun e2=>?_,by omega⟩
 subst e2
 omega
theorem M.Inv.rem_to (I:m.Inv P L) {a:Int} {L1 L2:List Int} (e:L=L1++a::L2):((m.rem a).1=0/\m.To (m.rem a).2 (m.remV a (deep m.gV (m.gV a).depth L2)) (m.remF a))/\((m.rrem a).1=0/\m.To (m.rrem a).2 (m.remV a (deep m.gV (m.gV a).depth L2)) (m.remF a)):=by
 have ha:a∈L:=by rw [e]; simp
 have hfa:=I.full a ha
 have a0:a≠0:=fun h=>I.no0 (h ▸ ha)
 obtain ⟨Ds,hDs⟩:∃ Ds,deep m.gV (m.gV a).depth L2=Ds:=⟨_,rfl⟩
 have hf:=I.rem_facts e
 rw [hDs] at hf
 have hnd:Ds.Nodup:=by
  have hn:=I.nd
  rw [e] at hn
  have:=(List.nodup_append.1 hn).2.1
  rw [<-hDs]
  exact (List.nodup_cons.1 this).2.sublist (List.takeWhile_sublist _)
 have hDa:a∉Ds:=fun h=>(hf a h).2.1 rfl
 obtain ⟨m2,q1,q2⟩:=I.dsc e (m':=(m.gX a).gX a) (by rw [gX_w,gX_w])
 obtain ⟨r2,p1,p2⟩:=I.rdsc e (m':=(m.gX a).gX a) (by rw [gX_w,gX_w])
 rw [hDs] at q1 p1 ⊢
 have T0:m.To m2 m.gV m.fst:=(M.To.refl m).of_w q2
 have U0:m.To r2 m.gV m.fst:=(M.To.refl m).of_w p2
 have hpr:=I.prev ha
 have hnx:=I.next ha
 have ip:=I.irr_prev ha
 have inx:=I.irr_next ha
 have hpn:=I.prev_next ha
 obtain ⟨T1,U1⟩:=M.To.dec Ds (T0.liX (m.gV a)) U0 hnd fun x hx=>⟨(I.gE (hf x hx).1).1,(I.gE (hf x hx).1).2,(hf x hx).2.2⟩
 have T2:=T1.pX (I.gE ha).1 slotZ_R
 have ok:∀ x,(x=0\/x∈L)->x≠a->x=0\/(m.gE x=0/\((fun y=>if y=a then slotZ else decV m.gV Ds y) x).cap.ty≠0):=fun x hx hxa=>hx.imp id fun h=>⟨(I.gE h).1,by simp only [if_neg hxa]; rw [decV_cap]; exact (I.gE h).2⟩
 have okp:=ok _ hpr ip
 have okn:=ok _ hnx inx
 have tn:(m.gV a).next=0\/thereB m (m.gV a).next=true:=hnx.imp id fun h=>fE_there (I.full _ h)
 have tp:(m.gV a).prev=0\/thereB m (m.gV a).prev=true:=hpr.imp id fun h=>fE_there (I.full _ h)
 have lkn:linkB (m.gV a).next=true:=(gV_links m a).2.1
 have lkp:linkB (m.gV a).prev=true:=(gV_links m a).1
 have hV:∀ x,x≠0->(fun z=>if z=(m.gV a).next then ((fun y=>if y=(m.gV a).prev then ((fun y=>if y=a then slotZ else decV m.gV Ds y) (m.gV a).prev).toN (m.gV a).next else (fun y=>if y=a then slotZ else decV m.gV Ds y) y) (m.gV a).next).toP (m.gV a).prev else (fun y=>if y=(m.gV a).prev then ((fun y=>if y=a then slotZ else decV m.gV Ds y) (m.gV a).prev).toN (m.gV a).next else (fun y=>if y=a then slotZ else decV m.gV Ds y) y) z) x=m.remV a Ds x:=fun x hx0=>by
  simp only [M.remV]
  by_cases c1:x=a
  ·rw [if_pos c1,if_neg (fun h=>inx (h.symm.trans c1)),if_neg (fun h=>ip (h.symm.trans c1)),if_pos c1]
  ·rw [if_neg c1]
   by_cases c2:x=(m.gV a).next
   ·have c3:x≠(m.gV a).prev:=fun h=>by
     rcases hpn with h2|h2
     ·exact hx0 (c2.trans h2)
     ·exact h2 (h.symm.trans c2)
    rw [<-c2]
    simp only [if_true,if_neg c3,if_neg c1]
    exact Slot.ext4 (decV_cap _ _ _) rfl (decV_next _ _ _) rfl
   ·rw [if_neg c2,if_neg c2]
    by_cases c3:x=(m.gV a).prev
    ·rw [<-c3]
     simp only [if_true,if_neg c1]
     exact Slot.ext4 (decV_cap _ _ _) (decV_prev _ _ _) rfl rfl
    ·simp only [if_neg c3,if_neg c1]
     exact Slot.ext4 (decV_cap _ _ _) (decV_prev _ _ _) (decV_next _ _ _) rfl
 refine ⟨?_, ?_⟩
 ·unfold M.rem
  rw [if_pos hfa,q1]
  refine ⟨rfl, ?_⟩
  have hli:m2.liB a (m.gV a)=true:=by rw [liB_w q2]; exact I.listed ha
  simp only [M.remT,hli,if_true]
  have T3:m.To ((if (m.gV a).prev=0 then (((m2.liX (m.gV a)).decX Ds).pX a slotZ).sfX (m.gV a).next else ((m2.liX (m.gV a)).decX Ds).pX a slotZ).turnX (m.gV a).prev fun t=>⟨t.cap,t.prev,(m.gV a).next,t.depth⟩)
    (fun y=>if y=(m.gV a).prev then ((fun y=>if y=a then slotZ else decV m.gV Ds y) (m.gV a).prev).toN (m.gV a).next else (fun y=>if y=a then slotZ else decV m.gV Ds y) y) (m.remF a):=by
   unfold M.remF
   by_cases c:(m.gV a).prev=0
   ·simp only [c,if_true]
    exact ((T2.sfX I.len.1 tn).turn0).val (fun x hx=>by simp only [hx,if_false]) rfl
   ·simp only [c,if_false]
    obtain ⟨o1,o2⟩:=okp.resolve_left c
    obtain ⟨k1,k2,k3,k4⟩:=T2.lk c
    exact T2.turn o1 o2 (T2.vlinks c o2 k1 lkn k3 k4)
  by_cases c:(m.gV a).next=0
  ·have:=T3.turn0 (g:=fun t=>⟨t.cap,(m.gV a).prev,t.next,t.depth⟩)
   rw [c] at this hV ⊢
   exact this.val (fun x hx=>by rw [<-hV x hx]; simp only [hx,if_false]) rfl
  ·obtain ⟨o1,o2⟩:=okn.resolve_left c
   have hnp:(m.gV a).next≠(m.gV a).prev:=Ne.symm (hpn.resolve_left c)
   have o2':((fun y=>if y=(m.gV a).prev then ((fun y=>if y=a then slotZ else decV m.gV Ds y) (m.gV a).prev).toN (m.gV a).next else (fun y=>if y=a then slotZ else decV m.gV Ds y) y) (m.gV a).next).cap.ty≠0:=by simp only [if_neg hnp]; exact o2
   obtain ⟨k1,k2,k3,k4⟩:=T3.lk c
   exact (T3.turn (g:=fun t=>⟨t.cap,(m.gV a).prev,t.next,t.depth⟩) o1 o2' (T3.vlinks c o2' lkp k2 k3 k4)).val (fun x hx=>by rw [<-hV x hx]; rfl) rfl
 ·unfold M.rrem
  rw [if_pos hfa,p1]
  refine ⟨rfl, ?_⟩
  have U2:m.To ((r2.rdecX Ds).pX a slotZ) _ _:=U1.pX (I.gE ha).1 slotZ_R
  have key:∀ {r3:M},m.To r3 (fun y=>if y=a then slotZ else decV m.gV Ds y) m.fst->m.To ((r3.lkX (m.gV a).prev (m.gV a).next).bkX (m.gV a).prev (m.gV a).next) (m.remV a Ds) (m.remF a):=fun U=>by
   have h1:=U.lkX I.len.1 okp tn
   have okn':(m.gV a).next=0\/(m.gE (m.gV a).next=0/\((fun y=>if y=(m.gV a).prev then ((fun y=>if y=a then slotZ else decV m.gV Ds y) (m.gV a).prev).toN (m.gV a).next else (fun y=>if y=a then slotZ else decV m.gV Ds y) y) (m.gV a).next).cap.ty≠0):=by
    rcases hpn with c|c
    ·exact .inl c
    ·refine okn.imp id fun h=>⟨h.1, ?_⟩
     simp only [if_neg (Ne.symm c)]
     exact h.2
   exact (h1.bk okn' tp).val (fun x hx=>by rw [<-hV x hx]) (by unfold M.remF; rfl)
  show m.To ((r2.rdecX Ds).rremT a (m.gV a)) _ _
  unfold M.rremT
  by_cases c:(m.gV a).prev=0
  ·have hfst:m.fst=a:=(I.first ha).1 c
   have e1:(r2.rdecX Ds).fst=a:=U1.F.trans hfst
   rw [if_pos c,if_pos e1]
   exact key (U1.fstX.pX (I.gE ha).1 slotZ_R)
  ·rw [if_neg c]
   exact key U2
theorem M.Inv.rem_inv (I:m.Inv P L) {a:Int} {L1 L2:List Int} (e:L=L1++a::L2) {m':M} {Ds:List Int} (T:m.To m' (m.remV a Ds) (m.remF a)) (hDs:∀ x,x∈Ds->x∈L):m'.Inv P (L1++L2):=by
 have ha:a∈L:=by rw [e]; simp
 have a0:a≠0:=fun h=>I.no0 (h ▸ ha)
 have hn:=I.nd
 have hc:=I.ch
 have hF:=I.fst
 rw [e] at hn hc hF
 obtain ⟨n1,n2,n3⟩:=List.nodup_append.1 hn
 obtain ⟨n4,n5⟩:=List.nodup_cons.1 n2
 have haL1:a∉L1:=fun h=>n3 a h a List.mem_cons_self rfl
 obtain ⟨c1,c2⟩:=chain_app.1 hc
 obtain ⟨c3,c4,c5⟩:=c2
 have hsub:∀ x,x∈L1++L2->x∈L/\x≠a:=fun x hx=>by
  rcases List.mem_append.1 hx with h|h
  ·exact ⟨by rw [e]; exact List.mem_append_left _ h,fun e2=>haL1 (e2 ▸ h)⟩
  ·exact ⟨by rw [e]; exact List.mem_append_right _ (List.mem_cons_of_mem _ h),fun e2=>n4 (e2 ▸ h)⟩
 have hpv:∀ x,x∈L1++L2->(m.remV a Ds x).prev=(if x=(m.gV a).next then (m.gV a).prev else (m.gV x).prev)/\(m.remV a Ds x).next=if x=(m.gV a).prev then (m.gV a).next else (m.gV x).next:=fun x hx=>by
  unfold M.remV
  rw [if_neg (hsub x hx).2]
  exact ⟨rfl,rfl⟩
 have x0:∀ x,x∈L1++L2->x≠0:=fun x hx e2=>I.no0 (e2 ▸ (hsub x hx).1)
 refine I.to T ?_ (fun x hx=>?_) ?_ ?_ (fun x hP hx=>?_)
 ·exact List.nodup_append.2 ⟨n1,n5,fun x hx y hy=>n3 x hx y (List.mem_cons_of_mem _ hy)⟩
 ·refine ⟨(I.gE (hsub x hx).1).1, ?_⟩
  unfold M.remV
  rw [if_neg (hsub x hx).2]
  exact (I.gE (hsub x hx).1).2
 ·refine chain_app.2 ⟨?_, ?_⟩
  ·refine chain_post (a:=a) c1 n1 fun x hx=>?_
   obtain ⟨h1,h2⟩:=hpv x (List.mem_append_left _ hx)
   refine ⟨?_, ?_⟩
   ·rw [h1,if_neg]
    intro h3
    rw [c4] at h3
    cases L2 with
    | nil=>exact x0 x (List.mem_append_left _ hx) h3
    | cons y L2=>exact n3 x hx y (List.mem_cons_of_mem _ List.mem_cons_self) h3
   ·rw [h2,c3,c4]
  ·refine chain_pre (q:=a) c5 n5 fun x hx=>?_
   obtain ⟨h1,h2⟩:=hpv x (List.mem_append_right _ hx)
   refine ⟨?_, ?_⟩
   ·rw [h2,if_neg]
    intro h3
    rw [c3] at h3
    cases L1 with
    | nil=>exact x0 x (List.mem_append_right _ hx) h3
    | cons y L1=>exact n3 _ getLastD_mem x (List.mem_cons_of_mem _ hx) h3.symm
   ·rw [h1,c3,c4]
 ·unfold M.remF
  rw [c3,c4,hF]
  cases L1 with
  | nil=>simp
  | cons y L1 =>
   rw [if_neg]
   ·rfl
   ·intro h3
    have:=getLastD_mem (x:=y) (d:=0) (L:=L1)
    rw [h3] at this
    exact x0 0 (List.mem_append_left _ this) rfl
 ·unfold M.remV
  by_cases c:x=a
  ·rw [if_pos c]; exact ⟨rfl,rfl,rfl⟩
  ·rw [if_neg c]
   have hxL:x∉L:=fun h=>by
    rw [e] at h
    rcases List.mem_append.1 h with h|h
    ·exact hx (List.mem_append_left _ h)
    ·rcases List.mem_cons.1 h with h|h
     ·exact c h
     ·exact hx (List.mem_append_right _ h)
   have hx0:x≠0:=there_ne0 (gE_there (I.out x hP).1).1
   obtain ⟨z1,z2,z3⟩:=(I.out x hP).2 hxL
   have g1:x≠(m.gV a).next:=fun h=>by
    rcases I.next ha with h2|h2
    ·exact hx0 (h.trans h2)
    ·exact hxL (h ▸ h2)
   have g2:x≠(m.gV a).prev:=fun h=>by
    rcases I.prev ha with h2|h2
    ·exact hx0 (h.trans h2)
    ·exact hxL (h ▸ h2)
   rw [if_neg g1,if_neg g2,decV_out (fun h=>hxL (hDs x h))]
   exact ⟨z1,z2,z3⟩
end
end Go.Proofs.YtcdfofeolgbnbaaGreat

/- Law 11: a handler's cap,lists of numbers; both memories. -/
namespace Go.Proofs.YtcdfofeolgbnbaaGreat
open Go.D
set_option linter.all false
set_option maxRecDepth 100000
set_option maxHeartbeats 8000000

/-! ### both memories -/
def bothB (a p:Nat):Blk:=⟨.rw,[.p (.g a) 0, .p (.g p) 0],2⟩
structure IsB (H:List Blk) (c a b p q:Nat) (m r:M):Prop where
 hc:H[c]?=some (bothB a p)
 hm:IsMem H a b m
 hr:IsMem H p q r
 d:a≠p/\a≠q/\b≠p/\b≠q
section
variable {H X:List Blk} {c a b p q:Nat} {m r:M}
end
open Classical in
noncomputable def bothOf (H:List Blk) (c:Nat):Option (Nat×Nat×Nat×Nat×M×M):=if hx:∃ x:Nat×Nat×Nat×Nat×M×M,IsB H c x.1 x.2.1 x.2.2.1 x.2.2.2.1 x.2.2.2.2.1 x.2.2.2.2.2 then some (Classical.choose hx) else none

structure Op where
 wh:Int
 a:Int
 b:Int
 n:Int
def Op.cl (x:Op):List S:=[.i .i64 x.wh, .i .i64 x.a, .i .i64 x.b, .i .i64 x.n]
theorem Op.cl_len (x:Op):x.cl.length=4:=rfl
theorem Op.inj {x y:Op} (e:x.cl=y.cl):x=y:=by
 obtain ⟨a,b,c,d⟩:=x
 obtain ⟨a',b',c',d'⟩:=y
 simp only [Op.cl,List.cons.injEq,S.i.injEq,true_and,and_true] at e
 obtain ⟨rfl,rfl,rfl,rfl⟩:=e
 rfl
instance:Cells Op.cl:=⟨⟨4,Op.cl_len⟩,fun x y e=>Op.inj e⟩
end Go.Proofs.YtcdfofeolgbnbaaGreat

/- Law 11: the memories that a script makes: a list that is a forest; each act by both. -/
namespace Go.Proofs.YtcdfofeolgbnbaaGreat
open Go.D
set_option linter.all false
set_option maxRecDepth 100000
set_option maxHeartbeats 4000000

def dep (D:Int->Int):Int->List Int->Prop
 | _,[]=>True
 | d,x::L=>D x<=d+1/\dep D (D x) L
def lastD (D:Int->Int):Int->List Int->Int
 | d,[]=>d
 | _,x::L=>lastD D (D x) L
theorem dep_app {D:Int->Int}:∀ {A B:List Int} {d:Int},dep D d (A++B)↔dep D d A/\dep D (lastD D d A) B
 | [],B,d=>by simp [dep,lastD]
 | x::A,B,d=>by simp only [List.cons_append,dep,lastD,dep_app (A:=A),and_assoc]
theorem dep_mono {D:Int->Int} {d e:Int} (h:d<=e):∀ {L:List Int},dep D d L->dep D e L
 | [],_=>trivial
 | x::L,⟨h1,h2⟩=>⟨by omega,h2⟩
theorem dep_congr {D D':Int->Int}:∀ {L:List Int} {d:Int},(∀ x,x∈L->D' x=D x)->dep D d L->dep D' d L
 | [],_,_,_=>trivial
 | x::L,d,h,⟨h1,h2⟩=>by
  have e:=h x List.mem_cons_self
  exact ⟨by rw [e]; exact h1,by rw [e]; exact dep_congr (fun y hy=>h y (List.mem_cons_of_mem _ hy)) h2⟩
theorem lastD_congr {D D':Int->Int}:∀ {L:List Int} {d:Int},(∀ x,x∈L->D' x=D x)->lastD D' d L=lastD D d L
 | [],_,_=>rfl
 | x::L,d,h=>by
  simp only [lastD,h x List.mem_cons_self]
  exact lastD_congr fun y hy=>h y (List.mem_cons_of_mem _ hy)
theorem dep_rem {D D':Int->Int} {da:Int}:∀ {Ds E:List Int} {e d:Int},dep D e (Ds++E)->da<=e->e<=d+1->(∀ y,y∈Ds->da<D y/\D' y=D y-1)->(∀ y,y∈E->D' y=D y)->(E=[]\/∃ z E',E=z::E'/\D z<=da)->dep D' d (Ds++E)
 | [],[],e,d,_,_,_,_,_,_=>trivial
 | [],z::E,e,d,⟨h1,h2⟩,ha,hd,_,hE,hz=>by
  have hz:D z<=da:=by
   rcases hz with h|⟨z',E',h,h3⟩
   ·cases h
   ·cases h; exact h3
  have e1:=hE z List.mem_cons_self
  refine ⟨by rw [e1]; omega, ?_⟩
  rw [e1]
  exact dep_congr (fun y hy=>hE y (List.mem_cons_of_mem _ hy)) h2
 | y::Ds,E,e,d,⟨h1,h2⟩,ha,hd,hD,hE,hz=>by
  obtain ⟨k1,k2⟩:=hD y List.mem_cons_self
  exact ⟨by omega,dep_rem h2 (by omega) (by omega) (fun z hz=>hD z (List.mem_cons_of_mem _ hz)) hE hz⟩

def M.D (m:M) (x:Int):Int:=(m.gV x).depth
section
variable {m r:M} {L:List Int}
theorem D_w {m m':M} (e:m'.w=m.w):m'.D=m.D:=funext fun x=>congrArg Slot.depth (gV_w e x)
theorem rem_D {m':M} {a:Int} {Ds:List Int} (T:m.To m' (m.remV a Ds) (m.remF a)) {x:Int} (hx:x≠0) (hxa:x≠a):m'.D x=if x∈Ds then m.D x-1 else m.D x:=by
 unfold M.D
 rw [T.V _ hx]
 unfold M.remV decV
 rw [if_neg hxa]
 simp only
 split<;>rfl
theorem deep_split (V:Int->Slot) (d:Int) (L:List Int):∃ E,L=deep V d L++E/\(E=[]\/∃ z E',E=z::E'/\(V z).depth<=d)/\∀ y,y∈deep V d L->d<(V y).depth:=by
 induction L with
 | nil=>exact ⟨[],rfl, .inl rfl,fun y hy=>by cases hy⟩
 | cons z L ih =>
  by_cases h:d<(V z).depth
  ·obtain ⟨E,h1,h2,h3⟩:=ih
   have e:deep V d (z::L)=z::deep V d L:=by simp [deep,h]
   refine ⟨E, ?_,h2,fun y hy=>?_⟩
   ·rw [e,List.cons_append,<-h1]
   ·rw [e] at hy
    rcases List.mem_cons.1 hy with rfl|hy
    ·exact h
    ·exact h3 y hy
  ·have e:deep V d (z::L)=[]:=by simp [deep,h]
   exact ⟨z::L,by rw [e]; rfl, .inr ⟨z,L,rfl,by omega⟩,fun y hy=>by rw [e] at hy; cases hy⟩
end
end Go.Proofs.YtcdfofeolgbnbaaGreat

