/- UntypedResets: for every input the law's Go function answers true,and its arguments read behind the call as before. No conditions. -/
import Derived.Test.YtcdfofeolgbnbaaGreatZ30
import Derived.Test.YtcdfofeolgbnbaaGreatZ11
import Derived.Test.YtcdfofeolgbnbaaGreatRows
/- Law 15: UntypedResets: memory is taken back chunk by chunk. -/
namespace Go.Proofs.YtcdfofeolgbnbaaGreat
open Go.D
set_option linter.all false
set_option maxRecDepth 100000
set_option maxHeartbeats 4000000

section
variable {m:M} {L:List Int}
theorem UT.rsU {x:Int} (hP:P15 x):∀ (k:Nat) {m:M} (v:Int),0<=v->UT m L->x∈L->(m.gV x).cap.ty=1->under m.D L x=[]->(m.gV x).cap.mark<=k ->
  ∃ z,0<=z/\z<=(m.gV x).cap.mark/\Rst m (Go.Proofs.YtcdfofeolgbnbaaGreat.rsW x k m (m.gV x).cap (some v)).1 L x z /\
   (((m.gV x).cap.mark+63)/64<=v->(Go.Proofs.YtcdfofeolgbnbaaGreat.rsW x k m (m.gV x).cap (some v)).2=(some (v-((m.gV x).cap.mark+63)/64),0)/\z=0) /\
   (v<((m.gV x).cap.mark+63)/64->(Go.Proofs.YtcdfofeolgbnbaaGreat.rsW x k m (m.gV x).cap (some v)).2=(some 0,3)/\(z+63)/64=((m.gV x).cap.mark+63)/64-v)
 | 0,m,v,hv,U,hx,h1,hu,hk=>by
  have:=(U.pcn h1).mark
  have e0:(m.gV x).cap.mark=0:=by omega
  refine ⟨(m.gV x).cap.mark,by omega,Int.le_refl _,Rst.same U rfl,fun _=>⟨?_,by omega⟩,fun h=>by omega⟩
  rw [e0]
  show (some v,(0:Int))=_
  simp
 | k+1,m,v,hv,U,hx,h1,hu,hk=>by
  have hm:=(U.pcn h1).mark
  simp only [Go.Proofs.YtcdfofeolgbnbaaGreat.rsW]
  by_cases h0:(m.gV x).cap.mark<=0
  ·have e0:(m.gV x).cap.mark=0:=by omega
   rw [if_pos h0]
   refine ⟨(m.gV x).cap.mark,by omega,Int.le_refl _,Rst.same U rfl,fun _=>⟨?_,by omega⟩,fun h=>by omega⟩
   rw [e0]
   show (some v,(0:Int))=_
   simp
  ·rw [if_neg h0]
   by_cases hv0:v<=0
   ·have ev:v=0:=by omega
    subst ev
    first|rw [if_pos hv0]|skip
    exact ⟨(m.gV x).cap.mark,by omega,Int.le_refl _,Rst.same U rfl,fun h=>by omega,fun _=>⟨rfl,by omega⟩⟩
   ·first|rw [if_neg hv0]|skip
    have R:=U.rsS hx h1 hu (by omega)
    have e:=R.V x hP
    rw [if_pos rfl] at e
    have ec:((Go.Proofs.YtcdfofeolgbnbaaGreat.rsS x m (m.gV x).cap).gV x).cap=rsN (m.gV x).cap:=by rw [e]; rfl
    have em:(rsN (m.gV x).cap).mark=((m.gV x).cap.mark-1)/64*64:=rfl
    obtain ⟨z,q1,q2,q3,q4,q5⟩:=UT.rsU hP k (v-1) (by omega) R.ut hx (by rw [ec]; exact h1) (by rw [under_congr fun y hy=>R.D hy]; exact hu) (by rw [ec,em]; omega)
    rw [ec] at q2 q3 q4 q5
    rw [em] at q2 q4 q5
    refine ⟨z,q1,by omega,R.trans hx q3 q2 (by omega),fun h=>?_,fun h=>?_⟩
    ·obtain ⟨a1,a2⟩:=q4 (by omega)
     refine ⟨?_,a2⟩
     rw [a1]
     congr 2
     omega
    ·obtain ⟨a1,a2⟩:=q5 (by omega)
     exact ⟨a1,by omega⟩
theorem UT.rstU (U:UT m L) {x:Int} (hP:P15 x) (hx:x∈L) (h1:(m.gV x).cap.ty=1) (hu:under m.D L x=[]) {v:Int} (hv:0<=v) :
  ∃ z,0<=z/\z<=(m.gV x).cap.mark/\Rst m (rstV m x (some v)).1 L x z /\
   (((m.gV x).cap.mark+63)/64<=v->(rstV m x (some v)).2=(some (v-((m.gV x).cap.mark+63)/64),0)/\z=0) /\
   (v<((m.gV x).cap.mark+63)/64->(rstV m x (some v)).2=(some 0,3)/\(z+63)/64=((m.gV x).cap.mark+63)/64-v):=by
 have hm:=(U.pcn h1).mark
 have e0:(m.gX x).nxV x=0:=by rw [nxV_w (gX_w _ _),U.ui.nx hP,hu]; rfl
 have ew:((m.gX x).nxX x).w=m.w:=by rw [nxX_w,gX_w]
 have U':=U.of_w ew
 unfold rstV
 rw [if_pos h1,if_pos e0]
 obtain ⟨z,q1,q2,q3,q4,q5⟩:=UT.rsU hP (m.gV x).cap.mark.toNat (m:=(m.gX x).nxX x) v hv U' hx (by rw [gV_w ew]; exact h1) (by rw [D_w ew]; exact hu) (by rw [gV_w ew]; omega)
 rw [gV_w ew] at q2 q3 q4 q5
 refine ⟨z,q1,q2,⟨q3.ut,fun y hy=>?_,fun j hj=>?_⟩,q4,q5⟩
 ·rw [q3.V y hy,gV_w ew,gV_w ew]
 ·rw [q3.at_ j hj,gV_w ew,at_w ew]
end
def RS (m:M) (c:Int):Prop:=∃ L mk,UT m L/\(2112:Int)∈L/\(m.gV 2112).cap=⟨1,4096,10,mk,0,0,0,0,0,0,0⟩/\under m.D L 2112=[]/\(mk+63)/64=c
theorem RS.rst {m:M} {c v:Int} (R:RS m c) (hv:0<=v):(c<=v->(rstV m 2112 (some v)).2=(some (v-c),0)/\RS (rstV m 2112 (some v)).1 0/\((rstV m 2112 (some v)).1.gV 2112).cap.mark=0)/\(v<c->(rstV m 2112 (some v)).2=(some 0,3)/\RS (rstV m 2112 (some v)).1 (c-v)):=by
 obtain ⟨L,mk,U,hx,hc,hu,e⟩:=R
 have hP:P15 2112:=by decide
 obtain ⟨z,z0,z1,Rs,q4,q5⟩:=U.rstU hP hx (by rw [hc]) hu hv
 rw [hc] at z1 q4 q5
 simp only at z1 q4 q5
 rw [e] at q4 q5
 have hV:=Rs.V 2112 hP
 rw [if_pos rfl,hc] at hV
 have hcap:((rstV m 2112 (some v)).1.gV 2112).cap=⟨1,4096,10,z,0,0,0,0,0,0,0⟩:=by rw [hV]; rfl
 have hu':under (rstV m 2112 (some v)).1.D L 2112=[]:=by rw [under_congr fun y hy=>Rs.D hy]; exact hu
 refine ⟨fun h=>?_,fun h=>?_⟩
 ·obtain ⟨a1,a2⟩:=q4 h
  exact ⟨a1,⟨L,z,Rs.ut,hx,hcap,hu',by rw [a2]; rfl⟩,by rw [hcap,a2]⟩
 ·obtain ⟨a1,a2⟩:=q5 h
  exact ⟨a1,L,z,Rs.ut,hx,hcap,hu',a2⟩
theorem RS.noughts {m:M} {c:Int} (R:RS m c) (h0:(m.gV 2112).cap.mark=0) {j:Int} (j0:4096<=j) (j1:j<5120):m.at j=0:=by
 obtain ⟨L,mk,U,hx,hc,hu,e⟩:=R
 rw [hc] at h0
 simp only at h0
 have hn:=U.no 2112 hx (by rw [hc]) j
 rw [hc] at hn
 simp only at hn
 have hs:szN ⟨1,4096,10,mk,0,0,0,0,0,0,0⟩=1024:=by
  unfold szN
  rw [if_pos rfl]
  show uRaw 10=1024
  decide
 rw [hs] at hn
 exact hn (by omega) (by omega)
def RMd (m:M) (s:Int) (n i:Nat):Prop:=∃ L,UT m L/\(2112:Int)∈L/\(m.gV 2112).cap=⟨1,4096,10,n*s,0,0,0,0,0,0,0⟩/\(∀ y,y∈under m.D L 2112↔∃ j:Nat,i<=j/\j<n/\y=2128+4*(j:Int))/\(∀ j:Nat,i<=j->j<n->under m.D L (2128+4*(j:Int))=[])
theorem RMd.made {m:M} (R:RepU m buT) {k:Int} (hk:3<=k/\k<=8) {s:Int} (hs:hszV k 0=s) {n:Nat} (n1:1<=n) (n2:n<=12) :
  (rtV M.layX m 2112 k 0 rootC 20 n none).2.2=0/\RMd (rtV M.layX m 2112 k 0 rootC 20 n none).1 s n 0:=by
 obtain ⟨h4,_,hkn⟩:=hsz6 hk
 rw [hs] at h4
 have hP:P15 2112:=by decide
 have hx:(2112:Int)∈buL:=by decide
 have U:=(W15_base R).ut
 have o:rootC.obj=2048:=rfl
 have c0:(m.gV 2112).cap=⟨1,4096,10,0,0,0,0,0,0,0,0⟩:=by
  have:=R.cap 2112 (by rw [buL_is]; exact hx)
  have h2:(m.gV 2112).cap=(capT buT 2112).1:=by rw [<-this]
  exact h2.trans rfl
 have hu0:under m.D buL 2112=[]:=by
  rw [under_congr (D:=buD) (fun y hy=>by unfold buD; rw [<-R.cap y (by rw [buL_is]; exact hy)])]
  decide
 have hs1:szN ⟨1,4096,10,0,0,0,0,0,0,0,0⟩=1024:=by
  unfold szN
  rw [if_pos rfl]
  show uRaw 10=1024
  decide
 have eu:upV (4096+0) s=4096:=by
  unfold upV
  rcases h4 with e|e|e|e<;>subst e<;>decide
 have hen:((n:Int)).toNat=n:=by omega
 have hTL:∀ j:Nat,j<n->(2128+4*(j:Int))∉buL:=fun j hj h=>by
  have key:∀ y,y∈buL->y<2128:=by decide
  have:=key _ h
  omega
 have hns:(n:Int)*s<=768:=by
  rcases h4 with e|e|e|e<;>subst e<;>omega
 obtain ⟨a1,m0,L',R0,G⟩:=U.make (k:=k) (b:=0) (i:=20) (n:=n) (nd:=rootC) hP hx (by rw [c0]) (hkn n (by omega) (by omega)) ndok_root rfl (by decide) (by rw [slots_root]; omega) (fun j hj=>by
  rw [hen] at hj
  rw [o,show (2048:Int)+4*20+4*(j:Int)=2128+4*(j:Int) by omega]
  exact hTL j hj) (z:=0) (.inl ⟨hu0,rfl⟩) (by
  rw [c0]
  simp only [hs1,hs,eu]
  omega)
 have cx:=G.cx' hP R0
 rw [c0,hs] at cx G
 simp only [eu,hen] at cx G
 obtain ⟨m',hm⟩:∃ q,(rtV M.layX m 2112 k 0 rootC 20 n none).1=q:=⟨_,rfl⟩
 rw [hm] at G cx ⊢
 rw [o] at G
 have eT:∀ j:Nat,(2048:Int)+4*20+4*(j:Int)=2128+4*(j:Int):=fun j=>by omega
 have hD0:∀ y,under m0.D buL y=under m.D buL y:=fun y=>under_congr fun y hy=>R0.D hy
 refine ⟨a1,L',G.ut,G.old _ hx, ?_,fun y=>⟨fun hy=>?_, ?_⟩,fun j _ hj=>?_⟩
 ·rw [cx]
  have:(4096:Int)+n*s-4096=n*s:=by omega
  show Cap.mk' _ _=_
  unfold Cap.mk'
  rw [this]
 ·rcases G.new y (under_sub hy).1 with h|⟨j,hj,h⟩
  ·have:=(G.und y 2112 h hx).1 hy
   rw [hD0,hu0] at this
   cases this
  ·exact ⟨j,Nat.zero_le _,hj,by rw [h,eT]⟩
 ·rintro ⟨j,_,hj,rfl⟩
  rw [<-eT]
  exact (G.Dn j hj).2
 ·rw [<-eT]
  exact G.undn j hj
theorem RMd.step {m:M} {s:Int} {n i:Nat} (R:RMd m s n i) (hi:i<n):(m.rem (2128+4*(i:Int))).1=0/\RMd (m.rem (2128+4*(i:Int))).2 s n (i+1):=by
 obtain ⟨L,U,hx,hc,hun,hl⟩:=R
 have hu:=(hun (2128+4*(i:Int))).2 ⟨i,Nat.le_refl _,hi,rfl⟩
 have haL:=(under_sub hu).1
 obtain ⟨r1,_,_,L2,U2,hmem,hcap,hD,hun2,_⟩:=U.rem (r:=m) rfl haL (hl i (Nat.le_refl _) hi)
 have hne:(2112:Int)≠2128+4*(i:Int):=by omega
 refine ⟨r1,L2,U2,(hmem _).2 ⟨hx,hne⟩,by rw [hcap 2112 (by decide),if_neg hne,hc],fun y=>⟨fun hy=>?_, ?_⟩,fun j hj hjn=>?_⟩
 ·have hy2:=(hmem y).1 (under_sub hy).1
  obtain ⟨j,j1,j2,e⟩:=(hun y).1 ((hun2 y 2112 hy2.2 hne).1 hy)
  refine ⟨j, ?_,j2,e⟩
  have:j≠i:=fun h=>hy2.2 (by rw [e,h])
  omega
 ·rintro ⟨j,j1,j2,rfl⟩
  exact (hun2 _ 2112 (by omega) hne).2 ((hun _).2 ⟨j,by omega,j2,rfl⟩)
 ·refine List.eq_nil_iff_forall_not_mem.2 fun y hy=>?_
  have hy2:=(hmem y).1 (under_sub hy).1
  have:=(hun2 y _ hy2.2 (by omega)).1 hy
  rw [hl j (by omega) hjn] at this
  cases this
theorem RMd.done {m:M} {s:Int} {n:Nat} (R:RMd m s n n):RS m ((n*s+63)/64):=by
 obtain ⟨L,U,hx,hc,hun,hl⟩:=R
 refine ⟨L,n*s,U,hx,hc,List.eq_nil_iff_forall_not_mem.2 fun y hy=>?_,rfl⟩
 obtain ⟨j,j1,j2,_⟩:=(hun y).1 hy
 omega

theorem dump_get {m:M} {x s:Int} (h:m.has x s=true) {k:Nat} (hk:(k:Int)<s):(wc ((m.w.drop x.toNat).take s.toNat))[k]?=some (.i .u64 (m.at (x+k))):=by
 obtain ⟨h1,h2,h3,h4⟩:=M.has_iff.1 h
 have hl:k<((m.w.drop x.toNat).take s.toNat).length:=by
  rw [List.length_take,List.length_drop]; omega
 rw [wc_get hl]
 congr 2
 rw [nth_eq hl,List.getElem_take,List.getElem_drop]
 unfold M.at
 rw [nth_eq (by omega)]
 congr 1
 omega
theorem dump_len {m:M} {x s:Int} (h:m.has x s=true):(wc ((m.w.drop x.toNat).take s.toNat)).length=s.toNat:=by
 obtain ⟨h1,h2,h3,h4⟩:=M.has_iff.1 h
 rw [wc_len,List.length_take,List.length_drop]; omega
theorem wH_c5 {h:List Blk} (hc:clean h.length h=true) (m r:M):clean (h.length+5) (wH h m r [])=true:=by
 have l1:(memH h r).length=h.length+2:=memH_len
 have h1:clean ((memH h r).length) (memH h r)=true:=by rw [l1]; exact memH_clean hc
 have h2:=memH_clean (m:=m) h1
 rw [l1] at h2
 unfold wH
 refine clean_app h2 (by omega) ?_
 simp only [clean,wB,List.all_cons,List.all_nil,Bool.and_true,vals,S.val,R.val,decide_eq_true_eq,Bool.and_eq_true]
 omega
end Go.Proofs.YtcdfofeolgbnbaaGreat

/- Law 15: UntypedResets: the walk. -/
namespace Go.Proofs.YtcdfofeolgbnbaaGreat
open Go.D
set_option linter.all false
set_option maxRecDepth 100000
set_option maxHeartbeats 8000000

theorem RS.of_w {m m':M} {c:Int} (R:RS m c) (e:m'.w=m.w):RS m' c:=by
 obtain ⟨L,mk,U,hx,hc,hu,e2⟩:=R
 exact ⟨L,mk,U.of_w e,hx,by rw [gV_w e]; exact hc,by rw [D_w e]; exact hu,e2⟩
theorem RS.gE {m:M} {c:Int} (R:RS m c):m.gE 2112=0:=by
 obtain ⟨L,mk,U,_⟩:=R
 exact U.ui.gE (by decide)
theorem RS.len {m:M} {c:Int} (R:RS m c):m.w.length=8192:=by
 obtain ⟨L,mk,U,_⟩:=R
 exact U.ui.len
def untypedResetsS:FSpec:=fun args h K=>∃ (x y z:Int),args=[.s (.i .i64 x), .s (.i .i64 y), .s (.i .i64 z)]/\i64b x/\i64b y/\i64b z/\∀ h',K (.s (.b true)) h'
noncomputable def TWa:Tab:=addT 14 awake12G5 (addT 17 basedG5 (addT 18 pickG (addT 20 root9G (addT 22 pieceG (addT 21 rtyG (addT 23 remG (addT 26 get2G (addT 27 rstG2 (addT 28 dumpG (noT))))))))))
theorem TWa_snd:TWa.Snd Tryz.prog:=addT_snd ok14 awake15_snd (addT_snd ok17 based15_snd (addT_snd ok18 pick_snd (addT_snd ok20 rroot_snd (addT_snd ok22 piece_snd (addT_snd ok21 rty_snd (addT_snd ok23 rem_snd (addT_snd ok26 get2_snd (addT_snd ok27 rst_snd2 (addT_snd ok28 mdump_snd ((noT_snd _)))))))))))
theorem untypedResets_snd:Snd Tryz.prog 7 untypedResetsS:=(fwp_sound (Tab.snd_Γ TWa_snd) mixed Tryz.func7 dc7).weaken fun args h K hc hS=>by
 obtain ⟨x,y,z,rfl,hx,hy,hz,hK⟩:=hS
 refine fwp_run (Tab.ok_Γ _) 400 ?_
 obtain ⟨p0,p1⟩:=pick_n hx (k:=6) (by decide)
 obtain ⟨q0,q1⟩:=pick_n hy (k:=12) (by decide)
 obtain ⟨r0,r1⟩:=pick_n hz (k:=5) (by decide)
 obtain ⟨p,hp⟩:∃ p,pickV x 6=p:=⟨_,rfl⟩
 obtain ⟨q,hq⟩:∃ p,pickV y 12=p:=⟨_,rfl⟩
 obtain ⟨r,hr0⟩:∃ p,pickV z 5=p:=⟨_,rfl⟩
 rw [hp] at p0 p1
 rw [hq] at q0 q1
 rw [hr0] at r0 r1
 have wk:IntKind.i64.wrap (3+p)=3+p:=by rw [wrap64]<;>omega
 have wn:IntKind.i64.wrap (1+q)=1+q:=by rw [wrap64]<;>omega
 have wu:IntKind.i64.wrap (1+r)=1+r:=by rw [wrap64]<;>omega
 obtain ⟨k,hk⟩:∃ k,3+p=k:=⟨_,rfl⟩
 obtain ⟨n,hn⟩:∃ n:Nat,1+q=(n:Int):=⟨(1+q).toNat,by omega⟩
 obtain ⟨u,hu⟩:∃ u,1+r=u:=⟨_,rfl⟩
 rw [hk] at wk
 rw [hn] at wn
 rw [hu] at wu
 have hk1:3<=k/\k<=8:=by omega
 obtain ⟨h4,_,_⟩:=hsz6 hk1
 obtain ⟨s,hs⟩:∃ s,hszV k 0=s:=⟨_,rfl⟩
 rw [hs] at h4
 have hr:=root_base repu_base
 have hrb:rightB rootC=true:=by decide
 have hB:∀ m r Y,(wH h m r Y)[h.length+4]?=some ⟨.rw,[.p (.g (h.length+2)) 0, .p (.g h.length) 0],2⟩:=fun m r Y=>wH_at h m r Y
 have hpc:pieceV 1=2112:=rfl
 obtain ⟨e1,hM⟩:=RMd.made repuC hk1 hs (n:=n) (by omega) (by omega)
 obtain ⟨⟨m1,v1,c1⟩,hR⟩:∃ q,rtV M.layX baseC5 2112 k 0 rootC 20 n none=q:=⟨_,rfl⟩
 rw [hR] at e1 hM
 simp only at e1 hM
 subst e1
 simp only [rootC] at hr hrb hR
 simp (maxSteps:=999999) only [go_sem,simprocAttr,↓qT,↓qF,df7,TWa,awake12G5,basedG5,pickG,hp,hq,hr0,hk,hn,hu,wk,wn,wu,root9G,root9M,hr,hB,wH_m,wH_r,pieceG,hpc,rtyG,rtyM,capF,hrb,hR,Cap.cl,put,fillP,sub,EVt]
 refine loop_rule (α:=Nat×M) [6,15,16,59,60,61,62,63,64,65,66,67,68,69,70,71,72,73,74] (fun x=>[(15, .s (.i .i64 (x.1:Int)))]) (fun _=>[⟨.rw,Cap.cl ⟨2,2048,8,0,0,24,0,0,0,0,0⟩,11⟩]) (fun x=>wH h x.2 (baseM.gX 1024) []) (fun x=>RMd x.2 s n x.1/\x.1<=n) (fun x=>n-x.1) (0,m1) ⟨hM,Nat.zero_le _⟩ ?_ ?_
 ·refine Wk.same rfl rfl ?_
  simp (maxSteps:=999999) only [go_sem,simprocAttr,↓qT,↓qF,Int.natCast_zero]
 ·rintro X ⟨i,m⟩ ⟨R,hi⟩ IH
  simp only at R hi ⊢
  by_cases c:(i:Int)<n
  ·obtain ⟨g1,g2⟩:=R.step (by omega)
   have w1:IntKind.i64.wrap (20+(i:Int))=20+i:=by rw [wrap64]<;>omega
   have w2:IntKind.i64.wrap (4*(20+(i:Int)))=4*(20+i):=by rw [wrap64]<;>omega
   have w3:IntKind.i64.wrap (2048+4*(20+(i:Int)))=2128+4*i:=by rw [wrap64]<;>omega
   have w4:IntKind.i64.wrap ((i:Int)+1)=((i+1:Nat):Int):=by rw [wrap64]<;>omega
   refine run_sound (Tab.ok_Γ _) 300 _ _ _ _ ?_
   simp (maxSteps:=999999) only [go_sem,simprocAttr,↓qT,↓qF,TWa,c,w1,w2,w3,w4,hB,wH_m,remG,remM,g1,put,fillP,sub,EVt]
   refine IH (i+1,_) _ (by simp only; omega) ⟨g2,by simp only; omega⟩ ?_
   exact Wk.same rfl rfl (by simp only [go_sem,simprocAttr,↓qT,↓qF])
  ·have e:i=n:=by omega
   subst e
   clear IH
   have hD:=R.done
   obtain ⟨L,U,hxL,hc2,_⟩:=R
   have gE:=U.ui.gE (show P15 2112 by decide)
   obtain ⟨⟨c,p3,p4,p5⟩,hs2⟩:∃ q,m.gV 2112=q:=⟨_,rfl⟩
   rw [hs2] at hc2
   simp only at hc2
   subst hc2
   obtain ⟨N,hN⟩:∃ N,(i:Int)*s=N:=⟨_,rfl⟩
   rw [hN] at hs2 hD
   have hN2:4<=N/\N<=768:=by
    rw [<-hN]
    rcases h4 with e|e|e|e<;>subst e<;>omega
   have v1:IntKind.i64.wrap (N+63)=N+63:=by rw [wrap64]<;>omega
   have v2:IntKind.i64.wrap ((N+63).tdiv 64)=(N+63)/64:=by rw [Int.tdiv_eq_ediv_of_nonneg (by omega),wrap64]<;>omega
   obtain ⟨CC,hC⟩:∃ CC,(N+63)/64=CC:=⟨_,rfl⟩
   rw [hC] at hD v2
   have hC1:1<=CC/\CC<=13:=by omega
   refine run_sound (Tab.ok_Γ _) 300 _ _ _ _ ?_
   simp (maxSteps:=999999) only [go_sem,simprocAttr,↓qT,↓qF,TWa,Int.lt_irrefl,hB,wH_m,get2G,get2M,gE,hs2,v1,v2,Slot.cl,Cap.cl,put,fillP,sub,EVt,List.drop_succ_cons]
   have w0:(m.gX 2112).w=m.w:=gX_w _ _
   have hw2:∀ m r B0 B1 B2,(wH h m r [B0,B1,B2])[h.length+5+2]?=some B2:=fun m r B0 B1 B2=>wH_get h m r [] [B0,B1,B2] 2
   have hx2:∀ m r B0 B1 B2 B,(wH h m r [B0,B1,B2]).set (h.length+5+2) B=wH h m r [B0,B1,B]:=fun m r B0 B1 B2 B=>wH_put h m r [] [B0,B1,B2] 2 B
   have ht5:∀ m r (Y:List Blk),(wH h m r Y).take (h.length+5)=wH h m r []:=fun m r Y=>wH_tk h m r [] Y
   have hd5:∀ m r (Y:List Blk),(wH h m r Y).drop (h.length+5)=Y:=fun m r Y=>wH_dr h m r [] Y
   have hcl:=wH_c5 hc
   have hu1:i64 u:=by unfold i64; omega
   refine loop_rule (α:=Nat×Int×M) [6,20,21,22,23,89,90,91,92,93,94,95,96,97,98,99,100,101,102,103,104,105,106,107,108,109,110,111,112,113] (fun x=>[(20, .s (.i .i64 x.2.1)),(21, .s (.i .i64 (x.1:Int)))]) (fun _=>[⟨.rw,Cap.cl ⟨2,2048,8,0,0,24,0,0,0,0,0⟩,11⟩,⟨.rw,Slot.cl ⟨⟨1,4096,10,N,0,0,0,0,0,0,0⟩,p3,p4,p5⟩,14⟩]) (fun x=>wH h x.2.2 (baseM.gX 1024) []) (fun x=>∃ c,RS x.2.2 c/\1<=c/\x.2.1+c=CC/\x.2.1=x.1*u) (fun x=>14-x.1) (0,0,m.gX 2112) ⟨CC,hD.of_w w0,by omega,by simp,by simp⟩ ?_ ?_
   ·refine Wk.same rfl rfl ?_
    simp (maxSteps:=999999) only [go_sem,simprocAttr,↓qT,↓qF,Int.natCast_zero]
   ·rintro X2 ⟨j,us,m2⟩ ⟨c',R2,hc1,hus,hju⟩ IH2
    simp only at R2 hus hju ⊢
    have hjs:(j:Int)<=us:=by
     rw [hju]
     have:(j:Int)*1<=j*u:=Int.mul_le_mul_of_nonneg_left (by omega) (by omega)
     omega
    have hjC:(j:Int)<=CC:=by omega
    have d4:IntKind.i64.wrap ((j:Int)+1)=((j+1:Nat):Int):=by rw [wrap64]<;>omega
    have wu1:IntKind.i64.wrap (us+u)=us+u:=by rw [wrap64]<;>omega
    obtain ⟨k1,k2⟩:=R2.rst (v:=u) (by omega)
    obtain ⟨⟨m3,v3,e3⟩,hR3⟩:∃ q,rstV m2 2112 (some u)=q:=⟨_,rfl⟩
    rw [hR3] at k1 k2
    simp only [Prod.mk.injEq] at k1 k2
    by_cases cu:c'<=u
    ·obtain ⟨⟨q1,q2⟩,q3,q4⟩:=k1 cu
     subst q1 q2
     have wu2:IntKind.i64.wrap (us+u-(u-c'))=CC:=by rw [wrap64]<;>omega
     clear IH2
     have gE3:=q3.gE
     obtain ⟨⟨⟨b0,b1,b2,b3,b4,b5,b6,b7,b8,b9,b10⟩,p6,p7,p8⟩,hs3⟩:∃ q,m3.gV 2112=q:=⟨_,rfl⟩
     rw [hs3] at q4
     simp only at q4
     subst q4
     have R4:=q3.of_w (gX_w m3 2112)
     obtain ⟨m4,hm4⟩:∃ q,m3.gX 2112=q:=⟨_,rfl⟩
     rw [hm4] at R4
     have hl4:=R4.len
     have has4:m4.has 4096 1024=true:=M.has_iff.2 (by omega)
     have hz4:∀ k:Nat,(k:Int)<1024->(wc ((m4.w.drop 4096).take 1024))[k]?=some (.i .u64 0):=fun k hk=>by
      have e1:=dump_get has4 hk
      have e2:=q3.noughts (by rw [hs3]) (j:=4096+k) (by omega) (by omega)
      have e3:m4.at (4096+k)=0:=(at_w (m:=m3) (by rw [<-hm4]; exact gX_w _ _) _).trans e2
      rw [e3] at e1
      exact e1
     obtain ⟨W4,hW4⟩:∃ q,wc ((m4.w.drop 4096).take 1024)=q:=⟨_,rfl⟩
     rw [hW4] at hz4
     have hi2:∀ m r B,(wH h m r [B])[h.length+5]?=some B:=fun m r B=>wH_get h m r [] [B] 0
     have t1:(4096:Int).toNat=4096:=rfl
     have t2:(1024:Int).toNat=1024:=rfl
     refine run_sound (Tab.ok_Γ _) 300 _ _ _ _ ?_
     simp (maxSteps:=999999) only [go_sem,simprocAttr,↓qT,↓qF,TWa,rstG2,rstM2,hR3,uB,hjC,hu1,hB,wH_m,wH_app,wH_len,hw2,hx2,ht5,hd5,hcl,wu1,wu2,get2G,get2M,gE3,hs3,hm4,dumpG,dumpM,has4,t1,t2,hW4,R.lend,R.unlend,S_ren,C.ren,V.ren,Blk.ren,Nat.add_sub_cancel_left,Nat.not_lt,Nat.le_add_right,Nat.add_lt_add_iff_left,Slot.cl,Cap.cl,put,fillP,sub,EVt,List.drop_succ_cons,List.length_nil,Nat.add_zero,List.nil_append,Option.getD_some]
     intro cw hcw
     have hWl:W4.length=1024:=by rw [<-hW4]; exact dump_len has4
     refine loop_rule (α:=Nat) [6,28,131,132,133,134,135,136,137,138,139,140,141] (fun j=>[(28, .s (.i .i64 (j:Int)))]) (fun _=>[⟨.rw,Cap.cl ⟨2,2048,8,0,0,24,0,0,0,0,0⟩,11⟩,⟨.rw,Slot.cl ⟨⟨1,4096,10,N,0,0,0,0,0,0,0⟩,p3,p4,p5⟩,14⟩,uB (u-c'),⟨.rw,Slot.cl ⟨⟨b0,b1,b2,0,b4,b5,b6,b7,b8,b9,b10⟩,p6,p7,p8⟩,14⟩]) (fun _=>wH h m4 (baseM.gX 1024) [⟨.rw,W4,cw⟩]) (fun j=>(j:Int)<=1024) (fun j=>1024-j) 0 (by decide) ?_ ?_
     ·refine Wk.same rfl rfl ?_
      simp (maxSteps:=999999) only [go_sem,simprocAttr,↓qT,↓qF,Int.natCast_zero]
     ·rintro X3 j3 hj3 IH3
      by_cases c3:(j3:Int)<1024
      ·have c4:(0:Int)<=(j3:Int):=by omega
       have d5:IntKind.i64.wrap ((j3:Int)+1)=((j3+1:Nat):Int):=by rw [wrap64]<;>omega
       have g3:=hz4 j3 c3
       refine run_sound (Tab.ok_Γ _) 300 _ _ _ _ ?_
       simp (maxSteps:=999999) only [go_sem,simprocAttr,↓qT,↓qF,c3,c4,d5,g3,hi2,Int.toNat_natCast,Nat.mul_one]
       exact IH3 (j3+1) _ (by omega) (by omega) (Wk.same rfl rfl (by simp only [go_sem,simprocAttr,↓qT,↓qF]))
      ·have e:(j3:Int)=1024:=by omega
       rw [e]
       clear IH3
       have wq:(CC==CC)=true:=by simp
       refine run_sound (Tab.ok_Γ _) 300 _ _ _ _ ?_
       simp (maxSteps:=999999) only [go_sem,simprocAttr,↓qT,↓qF,wq,Slot.cl,Cap.cl,uB,beq_self_eq_true,List.drop_succ_cons,List.drop_zero]
       exact hK _
    ·obtain ⟨⟨q1,q2⟩,q3⟩:=k2 (by omega)
     subst q1 q2
     have wu2:IntKind.i64.wrap (us+u-0)=us+u:=by rw [wrap64]<;>omega
     have wu3:IntKind.i64.wrap (us+u)=us+u:=by rw [wrap64]<;>omega
     refine run_sound (Tab.ok_Γ _) 300 _ _ _ _ ?_
     simp (maxSteps:=999999) only [go_sem,simprocAttr,↓qT,↓qF,TWa,rstG2,rstM2,hR3,uB,hjC,hu1,hB,wH_m,wH_app,wH_len,hw2,hx2,ht5,hd5,hcl,wu1,wu2,wu3,d4,R.lend,R.unlend,S_ren,C.ren,V.ren,Blk.ren,Nat.add_sub_cancel_left,Nat.not_lt,Nat.le_add_right,Nat.add_lt_add_iff_left,Slot.cl,Cap.cl,put,fillP,sub,EVt,List.drop_succ_cons,List.length_nil,Nat.add_zero,List.nil_append,Option.getD_some]
     refine IH2 (j+1,us+u,m3) _ (by simp only; omega) ⟨c'-u,q3,by omega,by simp only; omega, ?_⟩ ?_
     ·simp only
      rw [hju,Int.natCast_add,Int.natCast_one,Int.add_mul,Int.one_mul]
     ·exact Wk.keep 2 rfl rfl (by simp only [go_sem,simprocAttr,↓qT,↓qF]) (by simp only [go_sem,simprocAttr,↓qT,↓qF]) (by rfl)
end Go.Proofs.YtcdfofeolgbnbaaGreat

/- UntypedResets: for every input the law's Go function answers true,and its arguments read behind the call as before. No conditions. -/
namespace Go.Proofs.YtcdfofeolgbnbaaGreat
open Go.D
set_option linter.all false
set_option maxRecDepth 100000

theorem untypedResets_law:Law untypedResetsS [(false,[.int .i64]),(false,[.int .i64]),(false,[.int .i64])]:=by
 intro h us H hc
 obtain ⟨_,_,rfl,H1,H⟩:=lawC H
 obtain ⟨_,_,rfl,H2,H⟩:=lawC H
 obtain ⟨_,_,rfl,H3,H⟩:=lawC H
 obtain rfl:=lawN H
 obtain ⟨x,rfl,h1⟩:=hasV_int H1
 obtain ⟨y,rfl,h2⟩:=hasV_int H2
 obtain ⟨z,rfl,h3⟩:=hasV_int H3
 exact ⟨x,y,z,rfl,i64_b h1,i64_b h2,i64_b h3,fun _=>rfl⟩
theorem untypedResets_row:RowOk Tryz.prog 7 Tryz.f7 Rows.untypedResetsSpec [(false,[.int .i64]),(false,[.int .i64]),(false,[.int .i64])] where
 own:=own
 noTabs:=rfl
 noInit:=by kernel_rfl
 isf:=Tryz.func7
 laid:=laid
 rowed:=rowed
 full:=full
 params:=by kernel_rfl
 vars:=rfl
 ret:=⟨_,rfl,by kernel_rfl⟩
 spec:=fun H ds e=>by
  match ds,e with
  | [_,_,_],_=>rfl
 tys:=⟨20,by kernel_rfl⟩
theorem untypedResets_holds:Rows.UntypedResetsSaid :=
 OpenClaim.holds_of_wide 7 Tryz.f7 rfl rfl rfl rfl rfl rfl rfl ⟨rfl,rfl,rfl,rfl,rfl⟩ rfl rfl rfl rfl rfl (by kernel_rfl) Tryz.func7 (by kernel_rfl)
  (of_decide_eq_true (by kernel_rfl)) (by unfold Func.isWrapper; first|(rw [if_pos (by decide +kernel)]; kernel_rfl)|(rw [if_neg (by decide +kernel)]; exact ⟨rfl,rfl⟩))
  (fun os started H enc _=>untypedResets_row.lifted (C:=Tryz.checked) untypedResets_snd untypedResets_law started (ChangeSpec.witness6 (enc:=enc) (C:=Tryz.checked) false ⟨#[], #[.int .i64 0, .int .i64 0, .int .i64 0],[]⟩ 8 (by kernel_rfl) (by kernel_rfl) (by kernel_rfl) (by kernel_rfl)))
end Go.Proofs.YtcdfofeolgbnbaaGreat

