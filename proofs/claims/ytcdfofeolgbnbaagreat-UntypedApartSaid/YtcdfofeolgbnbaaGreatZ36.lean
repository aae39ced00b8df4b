/- UntypedApart: for every input the law's Go function answers true,and its arguments read behind the call as before. No conditions. -/
import Derived.Test.YtcdfofeolgbnbaaGreatZ11
import Derived.Test.YtcdfofeolgbnbaaGreatZ35
import Derived.Test.YtcdfofeolgbnbaaGreatZ27
import Derived.Test.YtcdfofeolgbnbaaGreatZ24
import Derived.Test.YtcdfofeolgbnbaaGreatRows
/- Law 15: UntypedApart: the walk. -/
namespace Go.Proofs.YtcdfofeolgbnbaaGreat
open Go.D
set_option linter.all false
set_option maxRecDepth 100000
set_option maxHeartbeats 8000000

theorem slA_p {n c:Nat} {l:List Int} (h:0<l.length):slA n l c=.sl (.g n) 0 l.length c:=by
 cases l with
 | nil=>simp at h
 | cons x l=>rfl
theorem bkA_p {c:Nat} {l:List Int} (h:0<l.length):bkA l c=[⟨.rw,intsB l,c⟩]:=by
 cases l with
 | nil=>simp at h
 | cons x l=>rfl
def untypedApartS:FSpec:=fun args h K=>∃ (s:S) (L:List Act),args=[.s s]/\IsArr Act.cl h s L/\(∀ x,x∈L->x.u5)/\L.length<=9223372036854775807/\∀ h',K (.s (.b true)) h'
noncomputable def TWp:Tab:=addT 14 awake12G5 (addT 17 basedG5 (addT 24 does15G (addT 33 lisAG (addT 26 get2G (addT 31 belG (addT 34 apartG (addT 35 withinG (noT))))))))
theorem TWp_snd:TWp.Snd Tryz.prog:=addT_snd ok14 awake15_snd (addT_snd ok17 based15_snd (addT_snd ok24 does15_snd (addT_snd ok33 lisA_snd (addT_snd ok26 get2_snd (addT_snd ok31 bel_snd (addT_snd ok34 apart_snd (addT_snd ok35 within_snd ((noT_snd _)))))))))
theorem untypedApart_end {h:List Blk} (hc:clean h.length h=true) {m r:M} {Q:List Int} (W:W15 m Q) {K:V->List Blk->Prop} (hK:∀ h',K (.s (.b true)) h') :
  swp TWp.Γ h.length (finP df9.res K) [.c (DC.after 5 df9.body)] ⟨setT [(3, .s (.b true)),(4, .s (.p (.g (h.length+4)) 0))] (List.replicate 164 (.s .u)),[],wH h m r []⟩:=by
 obtain ⟨li1,li2⟩:=W.ut.ui.li
 obtain ⟨m1,hm1⟩:∃ m1,m.lis.2=m1:=⟨_,rfl⟩
 rw [hm1] at li2
 have hQ:(1024:Int)∈Q:=W.mem (.inl rfl)
 have hq:0<Q.length:=List.length_pos_of_mem hQ
 have hQl:Q.length<=8192:=by
  have h1:=W.ut.ui.inv.llen
  rw [W.ut.ui.len] at h1
  omega
 have hsl:∀ n c,slA n Q c=.sl (.g n) 0 Q.length c:=fun n c=>slA_p hq
 obtain ⟨B,hB⟩:∃ B:Nat->Blk,B=fun c=>⟨.rw,intsB Q,c⟩:=⟨_,rfl⟩
 have hbk:∀ c,bkA Q c=[B c]:=fun c=>by rw [hB]; exact bkA_p hq
 have hcc:∀ (m r:M) (X:List Blk),(wH h m r X)[h.length+4]?=some ⟨.rw,[.p (.g (h.length+2)) 0, .p (.g h.length) 0],2⟩:=fun m r X=>wH_at h m r X
 have hBx:∀ (m r:M) (c:Nat) (Y:List Blk),(wH h m r (B c::Y))[h.length+5]?=some ⟨.rw,intsB Q,c⟩:=fun m r c Y=>by
  rw [hB]
  exact wH_get h m r [] (⟨.rw,intsB Q,c⟩::Y) 0
 simp only [DC.after,df9]
 refine run_sound (Tab.ok_Γ _) 400 _ _ _ _ ?_
 simp (maxSteps:=999999) only [go_sem,simprocAttr,↓qT,↓qF,TWp,lisAG,lisAM,lisA,wH_m,wH_app,wH_len,hcc,li1,hm1,erO,Option.getD_some,hsl,hbk,setT,List.length_nil,Nat.add_zero,List.nil_append]
 intro c hc1
 refine loop_rule (α:=Nat×M) [2,8,9,10,11,12,13,14,15,16,17,48,49,50,51,52,53,54,55,56,57,58,59,60,61,62,63,64,65,66,67,68,69,70,71,72,73,74,75,76,77,78,79,80,81,82,83,84,85,86,87,88,89,90,91,92,93,94,95,96,97,98,99,100,101,102,103,104,105,106,107,108,109,110,111,112,113,114,115,116,117,118,119,120,121,122,123,124,125,126,127,128,129,130,131,132,133,134,135,136,137,138,139,140,141,142,143,144,145,146,147,148,149,150,151,152,153,154,155,156,157,158,159,160,161,162] (fun z=>[(8, .s (.i .i64 (z.1:Int)))]) (fun _=>[]) (fun z=>wH h z.2 r [B c]) (fun z=>z.1<=Q.length/\z.2.w=m.w) (fun z=>Q.length-z.1) (0,m1) ⟨Nat.zero_le _,li2⟩ ?_ ?_
 ·refine Wk.same rfl rfl ?_
  simp (maxSteps:=999999) only [go_sem,simprocAttr,↓qT,↓qF,Int.natCast_zero]
 ·rintro X ⟨i,mi⟩ ⟨hi,hwi⟩ IH
  simp only at hi hwi ⊢
  rcases Nat.lt_or_ge i Q.length with h1|h1
  ·obtain ⟨d1,d2,d3,d4⟩:=idx h1 (by omega)
   obtain ⟨y,hy⟩:∃ x,nth 0 Q i=x:=⟨_,rfl⟩
   have hyQ:y∈Q:=by rw [<-hy]; exact nth_mem h1
   have g1:=intsB_get h1
   rw [hy] at g1
   have hgE:mi.gE y=0:=by rw [gE_w hwi]; exact W.ut.ui.gE (W.ut.ui.sub y hyQ)
   obtain ⟨⟨⟨a0,a1,a2,a3,a4,a5,a6,a7,a8,a9,a10⟩,p0,n0,r0⟩,hs⟩:∃ s,mi.gV y=s:=⟨_,rfl⟩
   have hs0:=(gV_w hwi y).symm.trans hs
   refine run_sound (Tab.ok_Γ _) 300 _ _ _ _ ?_
   simp (maxSteps:=999999) only [go_sem,simprocAttr,↓qT,↓qF,TWp,get2G,get2M,wH_m,hcc,hBx,hgE,hs,d1,d2,d3,d4,g1,Slot.cl,Cap.cl,put,fillP,sub,EVt,Int.toNat_natCast]
   intro f0 _
   refine loop_rule (α:=Nat×M) [2,11,12,13,14,15,16,17,68,69,70,71,72,73,74,75,76,77,78,79,80,81,82,83,84,85,86,87,88,89,90,91,92,93,94,95,96,97,98,99,100,101,102,103,104,105,106,107,108,109,110,111,112,113,114,115,116,117,118,119,120,121,122,123,124,125,126,127,128,129,130,131,132,133,134,135,136,137,138,139,140,141,142,143,144,145,146,147,148,149,150,151,152,153,154,155,156,157,158,159,160,161,162] (fun z=>[(11, .s (.i .i64 (z.1:Int)))]) (fun _=>[⟨.rw,Slot.cl ⟨⟨a0,a1,a2,a3,a4,a5,a6,a7,a8,a9,a10⟩,p0,n0,r0⟩,14⟩]) (fun z=>wH h z.2 r [B c]) (fun z=>z.1<=i/\z.2.w=m.w) (fun z=>i-z.1) (0,mi.gX y) ⟨Nat.zero_le _,(gX_w _ _).trans hwi⟩ ?_ ?_
   ·refine Wk.same rfl rfl ?_
    simp (maxSteps:=999999) only [go_sem,simprocAttr,↓qT,↓qF,Int.natCast_zero]
   ·rintro X2 ⟨k,m'⟩ ⟨hk,hw'⟩ IH2
    simp only at hk hw' ⊢
    rcases Nat.lt_or_ge k i with h2|h2
    ·obtain ⟨e1,e2,e3,e4⟩:=idx h2 (by omega)
     have h3:k<Q.length:=by omega
     obtain ⟨e5,_,_,_⟩:=idx h3 (by omega)
     obtain ⟨x,hx⟩:∃ x,nth 0 Q k=x:=⟨_,rfl⟩
     have hxQ:x∈Q:=by rw [<-hx]; exact nth_mem h3
     have g2:=intsB_get h3
     rw [hx] at g2
     have hgE2:m'.gE x=0:=by rw [gE_w hw']; exact W.ut.ui.gE (W.ut.ui.sub x hxQ)
     obtain ⟨⟨⟨b0,b1,b2,b3,b4,b5,b6,b7,b8,b9,b10⟩,p1,n1,r1⟩,hs2⟩:∃ s,m'.gV x=s:=⟨_,rfl⟩
     have hs3:=(gV_w hw' x).symm.trans hs2
     obtain ⟨q1,q2⟩:=W.ut.pair h2 h1 hx hy
     rw [hs0,hs3] at q1 q2
     simp only at q1 q2
     have hwx:(m'.gX x).w=m.w:=(gX_w _ _).trans hw'
     obtain ⟨u1,u2⟩:=(W.ut.ui.of_w hwx).ds (W.ut.ui.sub x hxQ)
     rw [D_w hwx] at u1
     obtain ⟨m2,hm2⟩:∃ q,((m'.gX x).dsO x).2=q:=⟨_,rfl⟩
     rw [hm2] at u2
     have u3:m2.w=m.w:=u2.trans hwx
     obtain ⟨bl,hbl⟩:∃ b,decide (y∈under m.D Q x)=b:=⟨_,rfl⟩
     have hbe:decide (y∈(m'.gX x).dsL x)=bl:=by rw [u1]; exact hbl
     obtain ⟨t0,ht0⟩:∃ b,(a0==b0)=b:=⟨_,rfl⟩
     obtain ⟨t1,ht1⟩:∃ b,(a1==b1)=b:=⟨_,rfl⟩
     obtain ⟨ap,hap⟩:∃ b,apartB ⟨a0,a1,a2,a3,a4,a5,a6,a7,a8,a9,a10⟩ ⟨b0,b1,b2,b3,b4,b5,b6,b7,b8,b9,b10⟩=b:=⟨_,rfl⟩
     obtain ⟨wi,hwn⟩:∃ b,withinB ⟨a0,a1,a2,a3,a4,a5,a6,a7,a8,a9,a10⟩ ⟨b0,b1,b2,b3,b4,b5,b6,b7,b8,b9,b10⟩=b:=⟨_,rfl⟩
     obtain ⟨t2,ht2⟩:∃ b,(b0==1)=b:=⟨_,rfl⟩
     rw [hap] at q1
     rw [hwn] at q2
     cases bl
     ·have nb:y∉under m.D Q x:=by simpa using hbl
      have hap1:¬ (a0=b0/\a1=b1)->ap=true:=q1 nb
      clear q1 q2
      cases t0
      ·have e0:¬ a0=b0:=by simpa using ht0
       obtain rfl:=hap1 fun h=>e0 h.1
       refine run_sound (Tab.ok_Γ _) 300 _ _ _ _ ?_
       simp (maxSteps:=999999) only [go_sem,simprocAttr,↓qT,↓qF,TWp,get2G,get2M,belG,belM,apartG,withinG,cap2F,capF,wH_m,hcc,hBx,hgE2,hs2,hbe,hm2,hap,hwn,ht0,ht1,ht2,d1,d2,d3,e1,e2,e3,e4,e5,g1,g2,Slot.cl,Cap.cl,put,fillP,sub,EVt,Int.toNat_natCast]
       intro f1 _
       exact IH2 (k+1,m2) _ (by simp only; omega) ⟨by simp only; omega,u3⟩ (Wk.keep 1 rfl rfl (by simp only [go_sem,simprocAttr,↓qT,↓qF]) (by simp only [go_sem,simprocAttr,↓qT,↓qF]) (by rfl))
      ·cases t1
       ·have e0:¬ a1=b1:=by simpa using ht1
        obtain rfl:=hap1 fun h=>e0 h.2
        refine run_sound (Tab.ok_Γ _) 300 _ _ _ _ ?_
        simp (maxSteps:=999999) only [go_sem,simprocAttr,↓qT,↓qF,TWp,get2G,get2M,belG,belM,apartG,withinG,cap2F,capF,wH_m,hcc,hBx,hgE2,hs2,hbe,hm2,hap,hwn,ht0,ht1,ht2,d1,d2,d3,e1,e2,e3,e4,e5,g1,g2,Slot.cl,Cap.cl,put,fillP,sub,EVt,Int.toNat_natCast]
        intro f1 _
        exact IH2 (k+1,m2) _ (by simp only; omega) ⟨by simp only; omega,u3⟩ (Wk.keep 1 rfl rfl (by simp only [go_sem,simprocAttr,↓qT,↓qF]) (by simp only [go_sem,simprocAttr,↓qT,↓qF]) (by rfl))
       ·clear hap1
        refine run_sound (Tab.ok_Γ _) 300 _ _ _ _ ?_
        simp (maxSteps:=999999) only [go_sem,simprocAttr,↓qT,↓qF,TWp,get2G,get2M,belG,belM,apartG,withinG,cap2F,capF,wH_m,hcc,hBx,hgE2,hs2,hbe,hm2,hap,hwn,ht0,ht1,ht2,d1,d2,d3,e1,e2,e3,e4,e5,g1,g2,Slot.cl,Cap.cl,put,fillP,sub,EVt,Int.toNat_natCast]
        intro f1 _
        exact IH2 (k+1,m2) _ (by simp only; omega) ⟨by simp only; omega,u3⟩ (Wk.keep 1 rfl rfl (by simp only [go_sem,simprocAttr,↓qT,↓qF]) (by simp only [go_sem,simprocAttr,↓qT,↓qF]) (by rfl))
     ·have nb:y∈under m.D Q x:=by simpa using hbl
      have hwi1:b0=1->wi=true:=q2 nb
      clear q1 q2
      cases t2
      ·clear hwi1
       cases t0
       ·skip
        refine run_sound (Tab.ok_Γ _) 300 _ _ _ _ ?_
        simp (maxSteps:=999999) only [go_sem,simprocAttr,↓qT,↓qF,TWp,get2G,get2M,belG,belM,apartG,withinG,cap2F,capF,wH_m,hcc,hBx,hgE2,hs2,hbe,hm2,hap,hwn,ht0,ht1,ht2,d1,d2,d3,e1,e2,e3,e4,e5,g1,g2,Slot.cl,Cap.cl,put,fillP,sub,EVt,Int.toNat_natCast]
        intro f1 _
        exact IH2 (k+1,m2) _ (by simp only; omega) ⟨by simp only; omega,u3⟩ (Wk.keep 1 rfl rfl (by simp only [go_sem,simprocAttr,↓qT,↓qF]) (by simp only [go_sem,simprocAttr,↓qT,↓qF]) (by rfl))
       ·cases t1
        ·skip
         refine run_sound (Tab.ok_Γ _) 300 _ _ _ _ ?_
         simp (maxSteps:=999999) only [go_sem,simprocAttr,↓qT,↓qF,TWp,get2G,get2M,belG,belM,apartG,withinG,cap2F,capF,wH_m,hcc,hBx,hgE2,hs2,hbe,hm2,hap,hwn,ht0,ht1,ht2,d1,d2,d3,e1,e2,e3,e4,e5,g1,g2,Slot.cl,Cap.cl,put,fillP,sub,EVt,Int.toNat_natCast]
         intro f1 _
         exact IH2 (k+1,m2) _ (by simp only; omega) ⟨by simp only; omega,u3⟩ (Wk.keep 1 rfl rfl (by simp only [go_sem,simprocAttr,↓qT,↓qF]) (by simp only [go_sem,simprocAttr,↓qT,↓qF]) (by rfl))
        ·skip
         refine run_sound (Tab.ok_Γ _) 300 _ _ _ _ ?_
         simp (maxSteps:=999999) only [go_sem,simprocAttr,↓qT,↓qF,TWp,get2G,get2M,belG,belM,apartG,withinG,cap2F,capF,wH_m,hcc,hBx,hgE2,hs2,hbe,hm2,hap,hwn,ht0,ht1,ht2,d1,d2,d3,e1,e2,e3,e4,e5,g1,g2,Slot.cl,Cap.cl,put,fillP,sub,EVt,Int.toNat_natCast]
         intro f1 _
         exact IH2 (k+1,m2) _ (by simp only; omega) ⟨by simp only; omega,u3⟩ (Wk.keep 1 rfl rfl (by simp only [go_sem,simprocAttr,↓qT,↓qF]) (by simp only [go_sem,simprocAttr,↓qT,↓qF]) (by rfl))
      ·obtain rfl:=hwi1 (by simpa using ht2)
       cases t0
       ·skip
        refine run_sound (Tab.ok_Γ _) 300 _ _ _ _ ?_
        simp (maxSteps:=999999) only [go_sem,simprocAttr,↓qT,↓qF,TWp,get2G,get2M,belG,belM,apartG,withinG,cap2F,capF,wH_m,hcc,hBx,hgE2,hs2,hbe,hm2,hap,hwn,ht0,ht1,ht2,d1,d2,d3,e1,e2,e3,e4,e5,g1,g2,Slot.cl,Cap.cl,put,fillP,sub,EVt,Int.toNat_natCast]
        intro f1 _
        exact IH2 (k+1,m2) _ (by simp only; omega) ⟨by simp only; omega,u3⟩ (Wk.keep 1 rfl rfl (by simp only [go_sem,simprocAttr,↓qT,↓qF]) (by simp only [go_sem,simprocAttr,↓qT,↓qF]) (by rfl))
       ·cases t1
        ·skip
         refine run_sound (Tab.ok_Γ _) 300 _ _ _ _ ?_
         simp (maxSteps:=999999) only [go_sem,simprocAttr,↓qT,↓qF,TWp,get2G,get2M,belG,belM,apartG,withinG,cap2F,capF,wH_m,hcc,hBx,hgE2,hs2,hbe,hm2,hap,hwn,ht0,ht1,ht2,d1,d2,d3,e1,e2,e3,e4,e5,g1,g2,Slot.cl,Cap.cl,put,fillP,sub,EVt,Int.toNat_natCast]
         intro f1 _
         exact IH2 (k+1,m2) _ (by simp only; omega) ⟨by simp only; omega,u3⟩ (Wk.keep 1 rfl rfl (by simp only [go_sem,simprocAttr,↓qT,↓qF]) (by simp only [go_sem,simprocAttr,↓qT,↓qF]) (by rfl))
        ·skip
         refine run_sound (Tab.ok_Γ _) 300 _ _ _ _ ?_
         simp (maxSteps:=999999) only [go_sem,simprocAttr,↓qT,↓qF,TWp,get2G,get2M,belG,belM,apartG,withinG,cap2F,capF,wH_m,hcc,hBx,hgE2,hs2,hbe,hm2,hap,hwn,ht0,ht1,ht2,d1,d2,d3,e1,e2,e3,e4,e5,g1,g2,Slot.cl,Cap.cl,put,fillP,sub,EVt,Int.toNat_natCast]
         intro f1 _
         exact IH2 (k+1,m2) _ (by simp only; omega) ⟨by simp only; omega,u3⟩ (Wk.keep 1 rfl rfl (by simp only [go_sem,simprocAttr,↓qT,↓qF]) (by simp only [go_sem,simprocAttr,↓qT,↓qF]) (by rfl))
    ·have e0:k=i:=by omega
     subst e0
     clear IH2
     refine run_sound (Tab.ok_Γ _) 300 _ _ _ _ ?_
     simp (maxSteps:=999999) only [go_sem,simprocAttr,↓qT,↓qF,Int.lt_irrefl,d4]
     exact IH (k+1,m') _ (by simp only; omega) ⟨by simp only; omega,hw'⟩ (Wk.keep 0 rfl rfl (by simp only [go_sem,simprocAttr,↓qT,↓qF]) (by simp only [go_sem,simprocAttr,↓qT,↓qF]) (by rfl))
  ·have e0:i=Q.length:=by omega
   subst e0
   clear IH
   refine run_sound (Tab.ok_Γ _) 300 _ _ _ _ ?_
   simp (maxSteps:=999999) only [go_sem,simprocAttr,↓qT,↓qF,TWp,Int.lt_irrefl]
   exact hK _
theorem untypedApart_snd:Snd Tryz.prog 9 untypedApartS:=(fwp_sound (Tab.snd_Γ TWp_snd) mixed Tryz.func9 dc9).weaken fun args h K hc hS=>by
 obtain ⟨s,L,rfl,Hs,hu,l1,hK⟩:=hS
 refine fwp_of _ (fun _ _=>finP_fin) (cut_at 5 ?_)
 have hlen:=fun ls h'=>Hs.sl.len (ls:=ls) (h:=h')
 have hkn:=Hs.sl.known
 have hnl:=Hs.sl.noL
 simp only [df9]
 refine run_sound (Tab.ok_Γ _) 400 _ _ _ _ ?_
 simp (maxSteps:=999999) only [go_sem,simprocAttr,↓qT,↓qF,TWp,awake12G5,basedG5,↓hlen,↓hkn,↓hnl]
 refine loop_rule (α:=Nat×M×M) [5,22,23,24,25,26,27,28,29,30,31,32,33,34,35,36,37] (fun x=>[(5, .s (.i .i64 (x.1:Int)))]) (fun _=>[]) (fun x=>wH h x.2.1 x.2.2 []) (fun x=>x.1<=L.length/\x.2.2.w=x.2.1.w/\∃ Q,W15 x.2.1 Q) (fun x=>L.length-x.1) (0,baseC5,baseM) ⟨Nat.zero_le _,baseC_w5.symm,_,W15_baseC⟩ ?_ ?_
 ·refine Wk.same rfl rfl ?_
  simp (maxSteps:=999999) only [go_sem,simprocAttr,↓qT,↓qF,Int.natCast_zero]
 ·rintro X ⟨i,m,r⟩ ⟨hi,hw,Q,D⟩ IH
  simp only at hi hw D ⊢
  have key:=untypedApart_end hc D (r:=r) hK
  rcases Nat.lt_or_ge i L.length with h1|h1
  ·obtain ⟨d1,d2,d3,d4⟩:=idx h1 l1
   by_cases c100:(i:Int)<60
   ·obtain ⟨j,cc,st,room,hse,hj,hd⟩:=Hs.at h1
    obtain ⟨x,hx⟩:∃ x,nth actZ5 L i=x:=⟨_,rfl⟩
    have hxu:x.u5:=by rw [<-hx]; exact hu _ (nth_mem h1)
    have hs:sub (arr Act.cl L) (i*8) 8=x.cl:=by rw [<-hx,nth_eq h1]; exact arr_sub Act.cl_len5 h1
    have hle:i*8+8<=(arr Act.cl L).length:=by rw [arr_length Act.cl_len5]; omega
    simp only [Act.cl] at hs
    obtain ⟨hx1,hx2,hx3⟩:=hxu
    obtain ⟨e1,e2,e3⟩:=D.act hw hx1 hx2
    obtain ⟨Y,hY⟩:∃ Y,act15 m r x=Y:=⟨_,rfl⟩
    rw [hY] at e1 e2 e3
    obtain ⟨b,m2,r2⟩:=Y
    simp only at e1 e2 e3
    subst e1
    have hob:∀ m r,(wH h m r [])[j]?=_:=fun m r=>wH_old5 hj m r []
    subst hse
    refine run_sound (Tab.ok_Γ _) 300 _ _ _ _ ?_
    simp (maxSteps:=999999) only [go_sem,simprocAttr,↓qT,↓qF,TWp,does15G,does15M,actF,act_eta5,hx2,hx3,hY,wldF_eq,↓hlen,↓hkn,↓hnl,d1,d2,d3,d4,c100,hob,hd,hs,hle,Int.toNat_natCast]
    exact IH (i+1,m2,r2) _ (by simp only; omega) ⟨by simp only; omega,e2,e3⟩ (Wk.same rfl rfl (by simp only [go_sem,simprocAttr,↓qT,↓qF]))
   ·refine run_sound (Tab.ok_Γ _) 300 _ _ _ _ ?_
    simp (maxSteps:=999999) only [go_sem,simprocAttr,↓qT,↓qF,TWp,↓hlen,↓hkn,↓hnl,d1,c100]
    exact swp_weak (Wk.same rfl rfl (by simp only [go_sem,simprocAttr,↓qT,↓qF,setT])) key
  ·have:i=L.length:=by omega
   subst this
   clear IH
   refine run_sound (Tab.ok_Γ _) 300 _ _ _ _ ?_
   simp (maxSteps:=999999) only [go_sem,simprocAttr,↓qT,↓qF,TWp,↓hlen,↓hkn,↓hnl,Int.lt_irrefl]
   exact swp_weak (Wk.same rfl rfl (by simp only [go_sem,simprocAttr,↓qT,↓qF,setT])) key
end Go.Proofs.YtcdfofeolgbnbaaGreat

/- UntypedApart: for every input the law's Go function answers true,and its arguments read behind the call as before. No conditions. -/
namespace Go.Proofs.YtcdfofeolgbnbaaGreat
open Go.D
set_option linter.all false
set_option maxRecDepth 100000

theorem untypedApart_law:Law untypedApartS [(false,[.slice ActT])]:=by
 intro h us H hc
 obtain ⟨_,_,rfl,H1,H⟩:=lawC H
 obtain rfl:=lawN H
 obtain ⟨s,L,rfl,e1,e2,e3⟩:=hasV_slice (c:=Act.cl) (p:=Act.u5) (fun ss h=>hasTs_act h) H1
 exact ⟨s,L,rfl,e1,e2,by omega,fun _=>rfl⟩
theorem untypedApart_row:RowOk Tryz.prog 9 Tryz.f9 Rows.untypedApartSpec [(false,[.slice ActT])] where
 own:=own
 noTabs:=rfl
 noInit:=by kernel_rfl
 isf:=Tryz.func9
 laid:=laid
 rowed:=rowed
 full:=full
 params:=by kernel_rfl
 vars:=rfl
 ret:=⟨_,rfl,by kernel_rfl⟩
 spec:=fun H ds e=>by
  match ds,e with
  | [_],_=>rfl
 tys:=⟨20,by kernel_rfl⟩
theorem untypedApart_holds:Rows.UntypedApartSaid :=
 OpenClaim.holds_of_wide 9 Tryz.f9 rfl rfl rfl rfl rfl rfl rfl ⟨rfl,rfl,rfl,rfl,rfl⟩ rfl rfl rfl rfl rfl (by kernel_rfl) Tryz.func9 (by kernel_rfl)
  (of_decide_eq_true (by kernel_rfl)) (by unfold Func.isWrapper; first|(rw [if_pos (by decide +kernel)]; kernel_rfl)|(rw [if_neg (by decide +kernel)]; exact ⟨rfl,rfl⟩))
  (fun os started H enc _=>untypedApart_row.lifted (C:=Tryz.checked) untypedApart_snd untypedApart_law started (ChangeSpec.witness6 (enc:=enc) (C:=Tryz.checked) false ⟨#[], #[.slice none 0 0],[]⟩ 8 (by kernel_rfl) (by kernel_rfl) (by kernel_rfl) (by kernel_rfl)))
end Go.Proofs.YtcdfofeolgbnbaaGreat

