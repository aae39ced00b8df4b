/- UntypedFresh: for every input the law's Go function answers true,and its arguments read behind the call as before. No conditions. -/
import Derived.Test.YtcdfofeolgbnbaaGreatZ11
import Derived.Test.YtcdfofeolgbnbaaGreatZ35
import Derived.Test.YtcdfofeolgbnbaaGreatZ24
import Derived.Test.YtcdfofeolgbnbaaGreatRows
/- Law 15: UntypedFresh: the walk. -/
namespace Go.Proofs.YtcdfofeolgbnbaaGreat
open Go.D
set_option linter.all false
set_option maxRecDepth 100000
set_option maxHeartbeats 8000000

def untypedFreshS:FSpec:=fun args h K=>∃ (s:S) (L:List Act) (x:Act),args=[.s s, .agg x.cl]/\IsArr Act.cl h s L/\(∀ x,x∈L->x.u5)/\x.u5/\L.length<=9223372036854775807/\∀ h',K (.s (.b true)) h'
noncomputable def TWf:Tab:=addT 14 awake12G5 (addT 17 basedG5 (addT 24 does15G (addT 22 pieceG (addT 29 node15G (addT 21 rtyG (addT 26 get2G (addT 19 hsizeG (addT 30 slotAtG (addT 28 dumpG (addT 31 belG (addT 32 nextG (noT))))))))))))
theorem TWf_snd:TWf.Snd Tryz.prog:=addT_snd ok14 awake15_snd (addT_snd ok17 based15_snd (addT_snd ok24 does15_snd (addT_snd ok22 piece_snd (addT_snd ok29 node15_snd (addT_snd ok21 rty_snd (addT_snd ok26 get2_snd (addT_snd ok19 hsize_snd (addT_snd ok30 slotAt_snd (addT_snd ok28 mdump_snd (addT_snd ok31 bel_snd (addT_snd ok32 rnext_snd ((noT_snd _)))))))))))))
theorem untypedFresh_end {h:List Blk} (hc:clean h.length h=true) {m r:M} {Q:List Int} (W:W15 m Q) (hw:r.w=m.w) {x:Act} (hx:x.u5) {K:V->List Blk->Prop} (hK:∀ h',K (.s (.b true)) h') :
  swp TWf.Γ h.length (finP df8.res K) [.c (DC.after 5 df8.body)] ⟨setT [(3, .s (.p (.l 0) 0)),(5, .s (.b true)),(6, .s (.p (.g (h.length+4)) 0))] (List.replicate 209 (.s .u)),[⟨.rw,x.cl,8⟩],wH h m r []⟩:=by
 obtain ⟨hxa,hxr,hxn⟩:=hx
 have N:=W.node hxr
 have hP:=piece_P hxa
 have hwg:(r.gX (ndA x.rg)).w=m.w:=by rw [gX_w]; exact hw
 obtain ⟨x0,xa,k,b,xr,i,n,xn⟩:=x
 simp only at hxa hxr hxn N hP hwg
 have F:=fun hR=>W.fsh (r:=r.gX (ndA xr)) hwg (k:=k) (b:=b) (i:=i) (n:=n) hP N hR
 have hr:rightB (m.gV (ndA xr)).cap=true:=W.ut.ui.right _
 obtain ⟨a,ha⟩:∃ a,pieceV xa=a:=⟨_,rfl⟩
 rw [ha] at F hP
 obtain ⟨C,hC⟩:∃ C,(m.gV (ndA xr)).cap=C:=⟨_,rfl⟩
 rw [hC] at F hr N
 have hC2:(r.gV (ndA xr)).cap=C:=by rw [gV_w hw]; exact hC
 obtain ⟨r1,hr1⟩:∃ r1,r.gX (ndA xr)=r1:=⟨_,rfl⟩
 rw [hr1] at F hwg
 obtain ⟨⟨m1,v1,e1⟩,hR⟩:∃ q,rtV M.layX m a k b C i n none=q:=⟨_,rfl⟩
 rw [hR] at F
 simp only at F
 have hcc:∀ (m r:M) (X:List Blk),(wH h m r X)[h.length+4]?=some ⟨.rw,[.p (.g (h.length+2)) 0, .p (.g h.length) 0],2⟩:=fun m r X=>wH_at h m r X
 obtain ⟨c0,c1,c2,c3,c4,c5,c6,c7,c8,c9,c10⟩:=C
 simp only [DC.after,df8]
 by_cases he:e1=0
 rotate_left
 ·have he':(e1==0)=false:=by simpa using he
  refine run_sound (Tab.ok_Γ _) 400 _ _ _ _ ?_
  simp (maxSteps:=999999) only [go_sem,simprocAttr,↓qT,↓qF,TWf,pieceG,ha,node15G,nodeM,wldF_eq,hxr,hC2,hr1,rtyG,rtyM,capF,cap_eta,hr,hR,he',hcc,wH_m,wH_r,bne,setT,Act.cl,Cap.cl,put,fillP,sub,EVt,List.drop_succ_cons]
  exact hK _
 subst he
 obtain ⟨hk,i0,i1,L',A,F⟩:=F rfl
 obtain ⟨s1,s2,hse,n1,n2,k1,k2⟩:=kn_sz hk
 obtain ⟨s,hs⟩:∃ s,hszV k b=s:=⟨_,rfl⟩
 have hgE:=F.ut.ui.gE hP
 obtain ⟨⟨⟨g0,g1,g2,g3,g4,g5,g6,g7,g8,g9,g10⟩,p0,q0,d0⟩,hsx⟩:∃ s,m1.gV a=s:=⟨_,rfl⟩
 rw [hs] at s1 s2
 refine run_sound (Tab.ok_Γ _) 400 _ _ _ _ ?_
 simp (maxSteps:=999999) only [go_sem,simprocAttr,↓qT,↓qF,TWf,pieceG,ha,node15G,nodeM,wldF_eq,hxr,hC2,hr1,rtyG,rtyM,capF,cap_eta,hr,hR,get2G,get2M,hgE,hsx,hsizeG,hs,hse,hcc,wH_m,wH_r,bne,setT,Act.cl,Slot.cl,Cap.cl,put,fillP,sub,EVt,List.drop_succ_cons]
 obtain ⟨sn,rfl⟩:∃ q:Nat,s=q:=⟨s.toNat,by omega⟩
 obtain ⟨nn,hnn⟩:∃ q:Nat,n=q:=⟨n.toNat,by omega⟩
 subst hnn
 rw [Int.toNat_natCast] at F
 have hmrk:=F.mrk
 have hlo:=F.lo
 rw [hsx,hs] at hmrk
 rw [hs] at hlo
 simp only at hmrk
 have hns0:0<=(nn:Int)*sn:=Int.mul_nonneg (by omega) (by omega)
 obtain ⟨ns,hns⟩:∃ q,(nn:Int)*sn=q:=⟨_,rfl⟩
 rw [hns] at hmrk hlo hns0
 have hd0:0<=d0/\d0<=65535:=by
  have:=gV_links m1 a
  rw [hsx] at this
  simp only at this
  omega
 have wd:IntKind.i64.wrap (d0+1)=d0+1:=by rw [wrap64]<;>omega
 have wm:IntKind.i64.wrap (g1+g3)=A+ns:=by rw [hmrk,wrap64]<;>omega
 have wn:IntKind.i64.wrap (0+0)=0:=rfl
 have hdrp:∀ (mm rr:M) (Y:List Blk) {t t':List V} {ls:List Blk},ls.take 3=[⟨.rw,[.i .i64 x0, .i .i64 xa, .i .i64 k, .i .i64 b, .i .i64 xr, .i .i64 i, .i .i64 (nn:Int), .i .i64 xn],8⟩,⟨.rw,Cap.cl ⟨c0,c1,c2,c3,c4,c5,c6,c7,c8,c9,c10⟩,11⟩,⟨.rw,Slot.cl ⟨⟨g0,g1,g2,g3,g4,g5,g6,g7,g8,g9,g10⟩,p0,q0,d0⟩,14⟩]->leT t' t->t'.all (V.below 3)=true->t'.all (V.val (h.length+5) 3)=true->Wk h.length ⟨t,ls,wH h mm rr Y⟩ ⟨t',[⟨.rw,[.i .i64 x0, .i .i64 xa, .i .i64 k, .i .i64 b, .i .i64 xr, .i .i64 i, .i .i64 (nn:Int), .i .i64 xn],8⟩,⟨.rw,Cap.cl ⟨c0,c1,c2,c3,c4,c5,c6,c7,c8,c9,c10⟩,11⟩,⟨.rw,Slot.cl ⟨⟨g0,g1,g2,g3,g4,g5,g6,g7,g8,g9,g10⟩,p0,q0,d0⟩,14⟩],wH h mm rr []⟩:=fun mm rr Y t t' ls e h1 h2 h3 =>
  .trans (Wk.keep 3 (ls:=[⟨.rw,[.i .i64 x0, .i .i64 xa, .i .i64 k, .i .i64 b, .i .i64 xr, .i .i64 i, .i .i64 (nn:Int), .i .i64 xn],8⟩,⟨.rw,Cap.cl ⟨c0,c1,c2,c3,c4,c5,c6,c7,c8,c9,c10⟩,11⟩,⟨.rw,Slot.cl ⟨⟨g0,g1,g2,g3,g4,g5,g6,g7,g8,g9,g10⟩,p0,q0,d0⟩,14⟩]) e rfl h1 h2 (by rfl)) (Wk.keepH (h.length+5) (wH_tk h mm rr [] Y) (by rw [wH_len]; omega) (leT_refl _) (by rw [wH_len]; exact h3) (by rw [wH_len]; exact wH_c5 hc mm rr) (by rfl))
 have hi2:∀ m r B,(wH h m r [B])[h.length+5]?=some B:=fun m r B=>wH_get h m r [] [B] 0
 refine loop_rule (α:=Nat×M×M) [4,15,16,17,18,19,20,21,22,23,24,93,94,95,96,97,98,99,100,101,102,103,104,105,106,107,108,109,110,111,112,113,114,115,116,117,118,119,120,121,122,123,124,125,126,127,128,129,130,131,132,133,134,135,136,137,138,139,140,141,142,143,144,145,146,147,148,149,150,151,152,153,154,155,156,157,158,159,160,161,162,163,164,165,166,167,168,169,170,171,172,173,174,175,176,177,178,179,180,181,182,183,184,185,186,187,188,189,190,191,192,193,194,195,196,197,198,199,200,201,202,203,204,205,206,207] (fun z=>[(15, .s (.i .i64 (z.1:Int)))]) (fun _=>[⟨.rw,[.i .i64 x0, .i .i64 xa, .i .i64 k, .i .i64 b, .i .i64 xr, .i .i64 i, .i .i64 (nn:Int), .i .i64 xn],8⟩,⟨.rw,Cap.cl ⟨c0,c1,c2,c3,c4,c5,c6,c7,c8,c9,c10⟩,11⟩,⟨.rw,Slot.cl ⟨⟨g0,g1,g2,g3,g4,g5,g6,g7,g8,g9,g10⟩,p0,q0,d0⟩,14⟩]) (fun z=>wH h z.2.1 z.2.2 []) (fun z=>z.1<=nn/\z.2.1.w=m1.w/\z.2.2.w=r1.w) (fun z=>nn-z.1) (0,m1.gX a,r1) ⟨Nat.zero_le _,gX_w _ _,rfl⟩ ?_ ?_
 ·refine Wk.same rfl rfl ?_
  simp (maxSteps:=999999) only [go_sem,simprocAttr,↓qT,↓qF,Int.natCast_zero]
 ·rintro X ⟨j,m',r'⟩ ⟨hj,hw1,hw2⟩ IH
  simp only at hj hw1 hw2 ⊢
  rcases Nat.lt_or_ge j nn with h1|h1
  ·obtain ⟨j1,j2,j3,j4⟩:=idx h1 (by omega)
   have G:=F.of_w hw1 hw2
   obtain ⟨u1,u2⟩:=G.pt j h1
   have u3:=G.und j h1
   have u4:=G.dep j h1
   have u5:=G.cap j h1
   have u6:=G.nx j h1
   have hja:0<=(j:Int)*sn/\(j:Int)*sn+sn<=ns:=by
    rw [<-hns]
    refine ⟨Int.mul_nonneg (by omega) (by omega), ?_⟩
    have:((j:Int)+1)*sn<=nn*sn:=Int.mul_le_mul_of_nonneg_right (by omega) (by omega)
    rw [Int.add_mul,Int.one_mul] at this
    exact this
   have hwd:∀ m2:M,m2.w=m1.w->∀ t:Nat,t<sn->m2.at (A+j*sn+t)=if k=3/\t=16 then 10240 else 0:=fun m2 e t ht=>by
    have:=(F.of_w e hw2).word hk h1 (t:=t) (by rw [hs]; omega)
    rwa [hs] at this
   rw [hs] at u5
   obtain ⟨O,hO⟩:∃ q,A+(j:Int)*sn=q:=⟨_,rfl⟩
   rw [hO] at u5 hwd
   simp only at u1 u2 u3 u4 u5 u6
   obtain ⟨T,hT⟩:∃ q,c1+4*i+4*(j:Int)=q:=⟨_,rfl⟩
   rw [hT] at u1 u2 u3 u4 u5 u6
   have wij:IntKind.i64.wrap (i+j)=i+j:=by rw [wrap64]<;>omega
   have hgT:=G.ut.ui.gE u1
   obtain ⟨⟨cc,p1,q1,d1⟩,hsT⟩:∃ q,m'.gV T=q:=⟨_,rfl⟩
   have hsa:=(gV_w hw1 a).trans hsx
   rw [hsT,hsa] at u4
   rw [hsT] at u5
   simp only at u4 u5
   subst u4
   obtain ⟨f2,f7,hfr⟩:∃ f2 f7,frC k b O=⟨k,O,f2,0,0,0,0,f7,0,0,0⟩:=⟨_,_,rfl⟩
   rw [hfr] at u5
   subst u5
   have hwT:(m'.gX T).w=m1.w:=(gX_w _ _).trans hw1
   obtain ⟨m2,hm2⟩:∃ q,m'.gX T=q:=⟨_,rfl⟩
   rw [hm2] at hwT
   have G2:=F.of_w hwT hw2
   have hl2:=G2.ut.ui.len
   have has2:m2.has O sn=true:=M.has_iff.2 (by omega)
   obtain ⟨y1,y2⟩:=G2.ut.ui.ds hP
   have hbe:decide (T∈m2.dsL a)=true:=by
    rw [y1]
    have:=G2.und j h1
    simp only at this
    rw [hT] at this
    simpa using this
   obtain ⟨m3,hm3⟩:∃ q,(m2.dsO a).2=q:=⟨_,rfl⟩
   rw [hm3] at y2
   have hw3:m3.w=m1.w:=y2.trans hwT
   obtain ⟨r2,hr2⟩:∃ q,r'.nxX T=q:=⟨_,rfl⟩
   have hwr2:r2.w=r1.w:=by rw [<-hr2,nxX_w]; exact hw2
   have hWd:∀ t:Nat,t<sn->(wc ((m2.w.drop O.toNat).take sn))[t]?=some (.i .u64 (if k=3/\t=16 then 10240 else 0)):=fun t ht=>by
    have e1:=dump_get has2 (k:=t) (by omega)
    rw [hwd m2 hwT t ht,Int.toNat_natCast] at e1
    exact e1
   obtain ⟨Wd,hWW⟩:∃ q,wc ((m2.w.drop O.toNat).take sn)=q:=⟨_,rfl⟩
   rw [hWW] at hWd
   have wo:IntKind.i64.wrap (O+sn)=O+sn:=by rw [wrap64]<;>omega
   have hlt:¬ (A+ns<O+sn):=by omega
   refine run_sound (Tab.ok_Γ _) 400 _ _ _ _ ?_
   simp (maxSteps:=999999) only [go_sem,simprocAttr,↓qT,↓qF,TWf,slotAtG,capIF,capF,cap_eta,wij,u2,get2G,get2M,hgT,hsT,hm2,dumpG,dumpM,has2,hWW,belG,belM,hbe,hm3,nextG,nextM,u6,hr2,wd,wm,wo,hlt,hcc,wH_m,wH_r,wH_app,wH_len,j1,j2,j3,bne,Act.cl,Slot.cl,Cap.cl,put,fillP,sub,EVt,List.drop_succ_cons,Int.toNat_natCast,List.length_nil,Nat.add_zero,List.nil_append]
   intro cw hcw
   refine loop_rule (α:=Nat×Int) [23,24,184,185,186,187,188,189,190,191,192,193,194,195,196] (fun q=>[(23, .s (.i .i64 q.2)),(24, .s (.i .i64 (q.1:Int)))]) (fun _=>[⟨.rw,[.i .i64 x0, .i .i64 xa, .i .i64 k, .i .i64 b, .i .i64 xr, .i .i64 i, .i .i64 (nn:Int), .i .i64 xn],8⟩,⟨.rw,Cap.cl ⟨c0,c1,c2,c3,c4,c5,c6,c7,c8,c9,c10⟩,11⟩,⟨.rw,Slot.cl ⟨⟨g0,g1,g2,g3,g4,g5,g6,g7,g8,g9,g10⟩,p0,q0,d0⟩,14⟩,⟨.rw,Slot.cl ⟨⟨k,O,f2,0,0,0,0,f7,0,0,0⟩,p1,q1,d0+1⟩,14⟩]) (fun _=>wH h m3 r2 [⟨.rw,Wd,cw⟩]) (fun q=>q.1<=sn/\q.2=if k=3/\16<q.1 then 1 else 0) (fun q=>sn-q.1) (0,0) ⟨Nat.zero_le _,by rw [if_neg (by simp)]⟩ ?_ ?_
   ·refine Wk.same rfl rfl ?_
    simp (maxSteps:=999999) only [go_sem,simprocAttr,↓qT,↓qF,Int.natCast_zero]
   ·rintro X2 ⟨q,f⟩ ⟨hq,hf⟩ IH2
    simp only at hq hf ⊢
    rcases Nat.lt_or_ge q sn with h2|h2
    ·obtain ⟨l1,l2,l3,l4⟩:=idx h2 (by omega)
     have g:=hWd q h2
     by_cases c:k=3/\q=16
     ·rw [if_pos c] at g
      rw [if_neg (by omega)] at hf
      subst hf
      have w1:IntKind.i64.wrap 1=1:=rfl
      refine run_sound (Tab.ok_Γ _) 300 _ _ _ _ ?_
      simp (maxSteps:=999999) only [go_sem,simprocAttr,↓qT,↓qF,hi2,l1,l2,l3,l4,g,w1,Nat.mul_one,Act.cl,Slot.cl,Cap.cl,put,fillP,sub,EVt,List.drop_succ_cons,Int.toNat_natCast,List.length_nil,Nat.add_zero,List.nil_append]
      exact IH2 (q+1,1) _ (by simp only; omega) ⟨by simp only; omega,by rw [if_pos (by omega)]⟩ (Wk.same rfl rfl (by simp only [go_sem,simprocAttr,↓qT,↓qF]))
     ·rw [if_neg c] at g
      refine run_sound (Tab.ok_Γ _) 300 _ _ _ _ ?_
      simp (maxSteps:=999999) only [go_sem,simprocAttr,↓qT,↓qF,hi2,l1,l2,l3,l4,g,Nat.mul_one,Act.cl,Slot.cl,Cap.cl,put,fillP,sub,EVt,List.drop_succ_cons,Int.toNat_natCast,List.length_nil,Nat.add_zero,List.nil_append]
      refine IH2 (q+1,f) _ (by simp only; omega) ⟨by simp only; omega, ?_⟩ (Wk.same rfl rfl (by simp only [go_sem,simprocAttr,↓qT,↓qF]))
      rw [hf]
      by_cases c2:k=3/\16<q
      ·rw [if_pos c2,if_pos (by omega)]
      ·rw [if_neg c2,if_neg (by omega)]
    ·have e0:q=sn:=by omega
     subst e0
     clear IH2
     by_cases c:k=3
     ·have e64:=hsz3 (kn_1 hk) c
      rw [hs] at e64
      rw [if_pos (by omega)] at hf
      subst hf c
      refine run_sound (Tab.ok_Γ _) 300 _ _ _ _ ?_
      simp (maxSteps:=999999) only [go_sem,simprocAttr,↓qT,↓qF,j4,Int.lt_irrefl,Act.cl,Slot.cl,Cap.cl,put,fillP,sub,EVt,List.drop_succ_cons,Int.toNat_natCast,List.length_nil,Nat.add_zero,List.nil_append]
      refine IH (j+1,m3,r2) _ (by simp only; omega) ⟨by simp only; omega,hw3,hwr2⟩ ?_
      exact hdrp m3 r2 _ rfl (by simp only [go_sem,simprocAttr,↓qT,↓qF]) (by simp only [go_sem,simprocAttr,↓qT,↓qF]) (by simp only [go_sem,simprocAttr,↓qT,↓qF,Nat.add_lt_add_iff_left])
     ·rw [if_neg fun h=>c h.1] at hf
      subst hf
      refine run_sound (Tab.ok_Γ _) 300 _ _ _ _ ?_
      simp (maxSteps:=999999) only [go_sem,simprocAttr,↓qT,↓qF,j4,Int.lt_irrefl,Act.cl,Slot.cl,Cap.cl,put,fillP,sub,EVt,List.drop_succ_cons,Int.toNat_natCast,List.length_nil,Nat.add_zero,List.nil_append]
      refine IH (j+1,m3,r2) _ (by simp only; omega) ⟨by simp only; omega,hw3,hwr2⟩ ?_
      exact hdrp m3 r2 _ rfl (by simp only [go_sem,simprocAttr,↓qT,↓qF]) (by simp only [go_sem,simprocAttr,↓qT,↓qF]) (by simp only [go_sem,simprocAttr,↓qT,↓qF,Nat.add_lt_add_iff_left])
  ·have e0:j=nn:=by omega
   subst e0
   clear IH
   refine run_sound (Tab.ok_Γ _) 300 _ _ _ _ ?_
   simp (maxSteps:=999999) only [go_sem,simprocAttr,↓qT,↓qF,Int.lt_irrefl,Act.cl,Slot.cl,Cap.cl,put,fillP,sub,EVt,List.drop_succ_cons,Int.toNat_natCast,List.length_nil,Nat.add_zero,List.nil_append]
   exact hK _
theorem untypedFresh_snd:Snd Tryz.prog 8 untypedFreshS:=(fwp_sound (Tab.snd_Γ TWf_snd) mixed Tryz.func8 dc8).weaken fun args h K hc hS=>by
 obtain ⟨s,L,z,rfl,Hs,hu,hz,l1,hK⟩:=hS
 refine fwp_of _ (fun _ _=>finP_fin) (cut_at 5 ?_)
 have hlen:=fun ls h'=>Hs.sl.len (ls:=ls) (h:=h')
 have hkn:=Hs.sl.known
 have hnl:=Hs.sl.noL
 obtain ⟨z0,z1,z2,z3,z4,z5,z6,z7⟩:=z
 simp only [df8,Act.cl]
 refine run_sound (Tab.ok_Γ _) 400 _ _ _ _ ?_
 simp (maxSteps:=999999) only [go_sem,simprocAttr,↓qT,↓qF,TWf,awake12G5,basedG5,↓hlen,↓hkn,↓hnl]
 refine loop_rule (α:=Nat×M×M) [7,29,30,31,32,33,34,35,36,37,38,39,40,41,42,43,44] (fun x=>[(7, .s (.i .i64 (x.1:Int)))]) (fun _=>[⟨.rw,[.i .i64 z0, .i .i64 z1, .i .i64 z2, .i .i64 z3, .i .i64 z4, .i .i64 z5, .i .i64 z6, .i .i64 z7],8⟩]) (fun x=>wH h x.2.1 x.2.2 []) (fun x=>x.1<=L.length/\x.2.2.w=x.2.1.w/\∃ Q,W15 x.2.1 Q) (fun x=>L.length-x.1) (0,baseC5,baseM) ⟨Nat.zero_le _,baseC_w5.symm,_,W15_baseC⟩ ?_ ?_
 ·refine Wk.same rfl rfl ?_
  simp (maxSteps:=999999) only [go_sem,simprocAttr,↓qT,↓qF,Int.natCast_zero]
 ·rintro X ⟨i,m,r⟩ ⟨hi,hw,Q,D⟩ IH
  simp only at hi hw D ⊢
  have key:=untypedFresh_end hc D hw hz hK
  simp only [Act.cl] at key
  rcases Nat.lt_or_ge i L.length with h1|h1
  ·obtain ⟨d1,d2,d3,d4⟩:=idx h1 l1
   by_cases c100:(i:Int)<60
   ·obtain ⟨j,cc,st,room,hse,hj,hd⟩:=Hs.at h1
    obtain ⟨x,hx⟩:∃ x,nth actZ5 L i=x:=⟨_,rfl⟩
    have hxu:x.u5:=by rw [<-hx]; exact hu _ (nth_mem h1)
    have hs:sub (arr Act.cl L) (i*8) 8=x.cl:=by rw [<-hx,nth_eq h1]; exact arr_sub Act.cl_len5 h1
    have hle:i*8+8<=(arr Act.cl L).length:=by rw [arr_length Act.cl_len5]; omega
    simp only [Act.cl] at hs
    obtain ⟨hx1,hx2,hx3⟩:=hxu
    obtain ⟨e1,e2,e3⟩:=D.act hw hx1 hx2
    obtain ⟨Y,hY⟩:∃ Y,act15 m r x=Y:=⟨_,rfl⟩
    rw [hY] at e1 e2 e3
    obtain ⟨b,m2,r2⟩:=Y
    simp only at e1 e2 e3
    subst e1
    have hob:∀ m r,(wH h m r [])[j]?=_:=fun m r=>wH_old5 hj m r []
    subst hse
    refine run_sound (Tab.ok_Γ _) 300 _ _ _ _ ?_
    simp (maxSteps:=999999) only [go_sem,simprocAttr,↓qT,↓qF,TWf,does15G,does15M,actF,act_eta5,hx2,hx3,hY,wldF_eq,↓hlen,↓hkn,↓hnl,d1,d2,d3,d4,c100,hob,hd,hs,hle,Int.toNat_natCast]
    exact IH (i+1,m2,r2) _ (by simp only; omega) ⟨by simp only; omega,e2,e3⟩ (Wk.same rfl rfl (by simp only [go_sem,simprocAttr,↓qT,↓qF]))
   ·refine run_sound (Tab.ok_Γ _) 300 _ _ _ _ ?_
    simp (maxSteps:=999999) only [go_sem,simprocAttr,↓qT,↓qF,TWf,↓hlen,↓hkn,↓hnl,d1,c100]
    exact swp_weak (Wk.same rfl rfl (by simp only [go_sem,simprocAttr,↓qT,↓qF,setT])) key
  ·have:i=L.length:=by omega
   subst this
   clear IH
   refine run_sound (Tab.ok_Γ _) 300 _ _ _ _ ?_
   simp (maxSteps:=999999) only [go_sem,simprocAttr,↓qT,↓qF,TWf,↓hlen,↓hkn,↓hnl,Int.lt_irrefl]
   exact swp_weak (Wk.same rfl rfl (by simp only [go_sem,simprocAttr,↓qT,↓qF,setT])) key
end Go.Proofs.YtcdfofeolgbnbaaGreat

/- UntypedFresh: for every input the law's Go function answers true,and its arguments read behind the call as before. No conditions. -/
namespace Go.Proofs.YtcdfofeolgbnbaaGreat
open Go.D
set_option linter.all false
set_option maxRecDepth 100000

theorem untypedFresh_law:Law untypedFreshS [(false,[.slice ActT]),(true,ActT)]:=by
 intro h us H hc
 obtain ⟨_,_,rfl,H1,H⟩:=lawC H
 obtain ⟨_,_,rfl,H2,H⟩:=lawC H
 obtain rfl:=lawN H
 obtain ⟨s,L,rfl,e1,e2,e3⟩:=hasV_slice (c:=Act.cl) (p:=Act.u5) (fun ss h=>hasTs_act h) H1
 obtain ⟨ss,rfl,H2⟩:=H2
 obtain ⟨x,rfl,hx⟩:=hasTs_act H2
 exact ⟨s,L,x,rfl,e1,e2,hx,by omega,fun _=>rfl⟩
theorem untypedFresh_row:RowOk Tryz.prog 8 Tryz.f8 Rows.untypedFreshSpec [(false,[.slice ActT]),(true,ActT)] where
 own:=own
 noTabs:=rfl
 noInit:=by kernel_rfl
 isf:=Tryz.func8
 laid:=laid
 rowed:=rowed
 full:=full
 params:=by kernel_rfl
 vars:=rfl
 ret:=⟨_,rfl,by kernel_rfl⟩
 spec:=fun H ds e=>by
  match ds,e with
  | [_,_],_=>rfl
 tys:=⟨20,by kernel_rfl⟩
theorem untypedFresh_holds:Rows.UntypedFreshSaid :=
 OpenClaim.holds_of_wide 8 Tryz.f8 rfl rfl rfl rfl rfl rfl rfl ⟨rfl,rfl,rfl,rfl,rfl⟩ rfl rfl rfl rfl rfl (by kernel_rfl) Tryz.func8 (by kernel_rfl)
  (of_decide_eq_true (by kernel_rfl)) (by unfold Func.isWrapper; first|(rw [if_pos (by decide +kernel)]; kernel_rfl)|(rw [if_neg (by decide +kernel)]; exact ⟨rfl,rfl⟩))
  (fun os started H enc _=>untypedFresh_row.lifted (C:=Tryz.checked) untypedFresh_snd untypedFresh_law started (ChangeSpec.witness6 (enc:=enc) (C:=Tryz.checked) false ⟨#[], #[.slice none 0 0, .agg #[.int .i64 0, .int .i64 0, .int .i64 0, .int .i64 0, .int .i64 0, .int .i64 0, .int .i64 0, .int .i64 0]],[]⟩ 8 (by kernel_rfl) (by kernel_rfl) (by kernel_rfl) (by kernel_rfl)))
end Go.Proofs.YtcdfofeolgbnbaaGreat

