/- UntypedFull: for every input the law's Go function answers true,and its arguments read behind the call as before. No conditions. -/
import Derived.Test.YtcdfofeolgbnbaaGreatZ30
import Derived.Test.YtcdfofeolgbnbaaGreatZ11
import Derived.Test.YtcdfofeolgbnbaaGreatRows
/- Law 15: UntypedFull: a piece gives as many things as go into it. -/
namespace Go.Proofs.YtcdfofeolgbnbaaGreat
open Go.D
set_option linter.all false
set_option maxRecDepth 100000
set_option maxHeartbeats 4000000

theorem hsz6 {k:Int} (h:3<=k/\k<=8):(hszV k 0=4\/hszV k 0=8\/hszV k 0=16\/hszV k 0=64)/\hszE k 0=0/\∀ n,1<=n->n<=16->knE k 0 n=0:=by
 have hk:k=3\/k=4\/k=5\/k=6\/k=7\/k=8:=by omega
 refine ⟨?_, ?_,fun n h1 h2=>?_⟩
 ·rcases hk with e|e|e|e|e|e<;>subst e<;>decide
 ·rcases hk with e|e|e|e|e|e<;>subst e<;>decide
 ·unfold knE
  rw [if_neg (by omega),if_neg (by omega),if_neg (by omega),if_pos rfl]
def FS (m:M) (s:Int) (j:Nat):Prop:=∃ L,UT m L/\(2108:Int)∈L/\(m.gV 2108).cap=⟨1,3584,9,j*s,0,0,0,0,0,0,0⟩/\(j=0->under m.D L 2108=[]/\(2128:Int)∉L)/\(j≠0->(2128:Int)∈under m.D L 2108)/\(2132:Int)∉L
def mn1 (j:Nat):Int:=if (1:Int)<j then 1 else j
theorem mn1_is (j:Nat):(j=0->mn1 j=0)/\(j≠0->mn1 j=1):=by
 unfold mn1
 constructor
 ·intro h; subst h; rfl
 ·intro h; split<;>omega
theorem up_at {s:Int} (h:s=4\/s=8\/s=16\/s=64) (j:Nat):upV (3584+j*s) s=3584+j*s:=by
 unfold upV
 rcases h with e|e|e|e<;>subst e<;>omega
theorem FS.ask {m:M} {s k:Int} {j:Nat} (F:FS m s j) (hk:3<=k/\k<=8) (hs:hszV k 0=s) :
  (rtV M.layX m 2108 k 0 rootC (20+mn1 j) 1 none).2.2=(if (j+1)*s<=512 then 0 else 151) /\
  ((j+1)*s<=512->if j=0 then FS (rtV M.layX m 2108 k 0 rootC (20+mn1 j) 1 none).1 s 1 else ((rtV M.layX m 2108 k 0 rootC (20+mn1 j) 1 none).1.rem 2132).1=0/\FS ((rtV M.layX m 2108 k 0 rootC (20+mn1 j) 1 none).1.rem 2132).2 s (j+1)):=by
 obtain ⟨L,U,hx,hc,h0,h1,hn⟩:=F
 obtain ⟨h4,_,hkn⟩:=hsz6 hk
 rw [hs] at h4
 have hP:P15 2108:=by decide
 have o:rootC.obj=2048:=rfl
 have t:rootC.ty=2:=rfl
 have sl:slotsN rootC=256:=slots_root
 have hmn:=mn1_is j
 have hT:∃ T:Int,T=2048+4*(20+mn1 j)/\T∉L/\((j=0->T=2128)/\(j≠0->T=2132)):=by
  by_cases c:j=0
  ·exact ⟨2128,by rw [hmn.1 c]; rfl,(h0 c).2,fun _=>rfl,fun h=>absurd c h⟩
  ·exact ⟨2132,by rw [hmn.2 c]; rfl,hn,fun h=>absurd h c,fun _=>rfl⟩
 obtain ⟨T,eT,hTL,hT0,hT1⟩:=hT
 have i0:0<=20+mn1 j/\20+mn1 j<=21:=by
  by_cases c:j=0
  ·rw [hmn.1 c]; omega
  ·rw [hmn.2 c]; omega
 have he:∀ i:Nat,i<(1:Int).toNat->rootC.obj+4*(20+mn1 j)+4*i∉L:=fun i hi=>by
  have:i=0:=by have:(1:Int).toNat=1:=rfl; omega
  subst this
  rw [o,<-eT]
  rw [Int.natCast_zero,Int.mul_zero,Int.add_zero]
  exact hTL
 have hz:(under m.D L 2108=[]/\(j:Int)*s=0)\/(under m.D L 2108≠[]/\(j:Int)*s=(m.gV 2108).cap.mark):=by
  by_cases c:j=0
  ·exact .inl ⟨(h0 c).1,by rw [c]; simp⟩
  ·exact .inr ⟨fun h=>(by have:=h1 c; rw [h] at this; cases this),by rw [hc]⟩
 have hk1:=hkn 1 (by omega) (by omega)
 have hcode:=U.rt_code (k:=k) (b:=0) (i:=20+mn1 j) (n:=1) (nd:=rootC) hP hx (by rw [hc]) hk1 ndok_root t i0.1 (by rw [sl]; omega) he hz
 rw [hc] at hcode
 have e512:szN ⟨1,3584,9,j*s,0,0,0,0,0,0,0⟩=512:=by
  unfold szN
  rw [if_pos rfl]
  show uRaw 9=512
  decide
 have es:((j:Int)+1)*s=j*s+s:=by rw [Int.add_mul,Int.one_mul]
 simp only [e512,hs,up_at h4,Int.one_mul] at hcode
 have hif:(if 3584+(j:Int)*s+s<=3584+512 then (0:Int) else 151)=if ((j:Int)+1)*s<=512 then 0 else 151:=by
  rw [es]
  by_cases c:(j:Int)*s+s<=512
  ·rw [if_pos c,if_pos (by omega)]
  ·rw [if_neg c,if_neg (by omega)]
 rw [hif] at hcode
 refine ⟨hcode,fun hle=>?_⟩
 obtain ⟨_,m0,L',R,G⟩:=U.make (k:=k) (b:=0) (i:=20+mn1 j) (n:=1) (nd:=rootC) hP hx (by rw [hc]) hk1 ndok_root t i0.1 (by rw [sl]; omega) he hz (by
  rw [hc]
  simp only [e512,hs,up_at h4,Int.one_mul]
  rw [es] at hle
  omega)
 have cx:=G.cx' hP R
 rw [hc,hs] at cx G
 obtain ⟨m',hm⟩:∃ q,(rtV M.layX m 2108 k 0 rootC (20+mn1 j) 1 none).1=q:=⟨_,rfl⟩
 rw [hm] at G cx ⊢
 have e1:((1:Int).toNat:Int)=1:=rfl
 have ew:upV (3584+(j:Int)*s) s+((1:Int).toNat:Int)*s-3584=((j+1:Nat):Int)*s:=by
  rw [up_at h4,e1,Int.one_mul,Int.natCast_add,Int.natCast_one,es]; omega
 have cx:(m'.gV 2108).cap=⟨1,3584,9,((j+1:Nat):Int)*s,0,0,0,0,0,0,0⟩:=by
  rw [cx,<-ew]; rfl
 rw [o,<-eT] at G
 have hnew:∀ y,y∈L'->y∈L\/y=T:=fun y hy=>by
  rcases G.new y hy with h|⟨i,hi,h⟩
  ·exact .inl h
  ·have:i=0:=by have:(1:Int).toNat=1:=rfl; omega
   subst this
   rw [Int.natCast_zero,Int.mul_zero,Int.add_zero] at h
   exact .inr h
 have hTu:=(G.Dn 0 (by decide)).2
 rw [Int.natCast_zero,Int.mul_zero,Int.add_zero] at hTu
 have hD0:∀ y,y∈L->m0.D y=m.D y:=fun y hy=>R.D hy
 have hu0:∀ y,under m0.D L y=under m.D L y:=fun y=>under_congr hD0
 have hx':=G.old _ hx
 by_cases c:j=0
 ·rw [if_pos c]
  subst c
  have eT0:=hT0 rfl
  subst eT0
  refine ⟨L',G.ut,hx',cx,fun h=>absurd h (by decide),fun _=>hTu,fun h=>?_⟩
  rcases hnew _ h with h|h
  ·exact hn h
  ·exact absurd h (by decide)
 ·rw [if_neg c]
  have eT1:=hT1 c
  subst eT1
  have hl:=G.undn 0 (by decide)
  rw [Int.natCast_zero,Int.mul_zero,Int.add_zero] at hl
  have hTL':=(under_sub hTu).1
  obtain ⟨r1,_,_,L2,U2,hmem,hcap,hD,hun,_⟩:=G.ut.rem (r:=m') rfl hTL' hl
  have h28:=h1 c
  have h28L:=(under_sub h28).1
  refine ⟨r1,L2,U2,(hmem _).2 ⟨hx',by decide⟩, ?_,fun h=>absurd h (by omega),fun _=>?_,fun h=>((hmem _).1 h).2 rfl⟩
  ·rw [hcap 2108 (by decide),if_neg (by decide),cx]
  ·rw [hun 2128 2108 (by decide) (by decide),G.und 2128 2108 h28L hx,hu0]
   exact h28
theorem FS_base {m:M} (R:RepU m buT) (s:Int):FS m s 0:=by
 have U:=(W15_base R).ut
 have hx:(2108:Int)∈buL:=by decide
 have c0:(m.gV 2108).cap=⟨1,3584,9,((0:Nat):Int)*s,0,0,0,0,0,0,0⟩:=by
  have:=R.cap 2108 (by rw [buL_is]; exact hx)
  have h2:(m.gV 2108).cap=(capT buT 2108).1:=by rw [<-this]
  rw [Int.natCast_zero,Int.zero_mul]
  exact h2.trans rfl
 have hu0:under m.D buL 2108=[]:=by
  rw [under_congr (D:=buD) (fun y hy=>by unfold buD; rw [<-R.cap y (by rw [buL_is]; exact hy)])]
  decide
 exact ⟨buL,U,hx,c0,fun _=>⟨hu0,by decide⟩,fun h=>absurd rfl h,by decide⟩
end Go.Proofs.YtcdfofeolgbnbaaGreat

/- Law 15: UntypedFull: the walk. -/
namespace Go.Proofs.YtcdfofeolgbnbaaGreat
open Go.D
set_option linter.all false
set_option maxRecDepth 100000
set_option maxHeartbeats 8000000

theorem pick_n {n:Int} (h:i64b n) {k:Int} (hk:0<k):0<=pickV n k/\pickV n k<k:=by
 unfold pickV
 unfold i64b at h
 have:0<=(if n<0 then IntKind.i64.wrap (0-IntKind.i64.wrap (n+1)) else n):=by
  split
  ·rw [wrap64 (n:=n+1) (by omega) (by omega),wrap64 (by omega) (by omega)]; omega
  ·omega
 rw [Int.tmod_eq_emod_of_nonneg this]
 exact ⟨Int.emod_nonneg _ (by omega),Int.emod_lt_of_pos _ hk⟩
def untypedFullS:FSpec:=fun args h K=>∃ (n:Int),args=[.s (.i .i64 n)]/\i64b n/\∀ h',K (.s (.b true)) h'
noncomputable def TVz:Tab:=addT 14 awake12G5 (addT 17 basedG5 (addT 18 pickG (addT 19 hsizeG (addT 20 root9G (addT 22 pieceG (addT 21 rtyG (addT 23 remG (noT))))))))
theorem TVz_snd:TVz.Snd Tryz.prog:=addT_snd ok14 awake15_snd (addT_snd ok17 based15_snd (addT_snd ok18 pick_snd (addT_snd ok19 hsize_snd (addT_snd ok20 rroot_snd (addT_snd ok22 piece_snd (addT_snd ok21 rty_snd (addT_snd ok23 rem_snd ((noT_snd _)))))))))
theorem untypedFull_snd:Snd Tryz.prog 5 untypedFullS:=(fwp_sound (Tab.snd_Γ TVz_snd) mixed Tryz.func5 dc5).weaken fun args h K hc hS=>by
 obtain ⟨n,rfl,hn,hK⟩:=hS
 refine fwp_run (Tab.ok_Γ _) 400 ?_
 obtain ⟨p0,p1⟩:=pick_n hn (k:=6) (by decide)
 obtain ⟨p,hp⟩:∃ p,pickV n 6=p:=⟨_,rfl⟩
 rw [hp] at p0 p1
 have wk:IntKind.i64.wrap (3+p)=3+p:=by rw [wrap64]<;>omega
 obtain ⟨k,hk⟩:∃ k,3+p=k:=⟨_,rfl⟩
 rw [hk] at wk
 have hk1:3<=k/\k<=8:=by omega
 obtain ⟨h4,he,_⟩:=hsz6 hk1
 obtain ⟨s,hs⟩:∃ s,hszV k 0=s:=⟨_,rfl⟩
 rw [hs] at h4
 have hs0:(s==0)=false:=by
  have:¬ s=0:=by omega
  simpa using this
 have hr:=root_base repu_base
 have hrb:rightB rootC=true:=by decide
 have hB:∀ m r Y,(wH h m r Y)[h.length+4]?=some ⟨.rw,[.p (.g (h.length+2)) 0, .p (.g h.length) 0],2⟩:=fun m r Y=>wH_at h m r Y
 have hpc:pieceV 0=2108:=rfl
 have hFB:=FS_base repuC s
 have key:=fun (m:M) (j:Nat) (F:FS m s j)=>F.ask hk1 hs
 simp only [rootC] at hr hrb key
 simp (maxSteps:=999999) only [go_sem,simprocAttr,↓qT,↓qF,df5,TVz,awake12G5,basedG5,pickG,hp,hk,wk,hsizeG,hs,he,hs0,root9G,root9M,hr,hB,wH_m,wH_r,Cap.cl,put,fillP,sub,EVt]
 refine loop_rule (α:=Nat×M) [2,9,10,11,35,36,37,38,39,40,41,42,43,44,45,46,47,48,49,50,51,52,53,54,55,56,57,58,59,60,61,62] (fun x=>[(9, .s (.i .i64 (x.1:Int)))]) (fun _=>[⟨.rw,Cap.cl ⟨2,2048,8,0,0,24,0,0,0,0,0⟩,11⟩]) (fun x=>wH h x.2 (baseM.gX 1024) []) (fun x=>FS x.2 s x.1/\(x.1:Int)*s<=512) (fun x=>513-x.1) (0,baseC5) ⟨hFB,by simp⟩ ?_ ?_
 ·refine Wk.same rfl rfl ?_
  simp (maxSteps:=999999) only [go_sem,simprocAttr,↓qT,↓qF,Int.natCast_zero]
 ·rintro X ⟨j,m⟩ ⟨F,hj⟩ IH
  simp only at F hj ⊢
  have hj2:(j:Int)<=128:=by
   rcases h4 with e|e|e|e<;>subst e<;>omega
  have c512:(j:Int)<=512:=by omega
  obtain ⟨hcode,hstep⟩:=key m j F
  obtain ⟨⟨m',v',e'⟩,hR⟩:∃ q,rtV M.layX m 2108 k 0 ⟨2,2048,8,0,0,24,0,0,0,0,0⟩ (20+mn1 j) 1 none=q:=⟨_,rfl⟩
  rw [hR] at hcode hstep
  simp only at hcode hstep
  have hmn:=mn1_is j
  have w2:IntKind.i64.wrap ((j:Int)+1)=((j+1:Nat):Int):=by rw [wrap64]<;>omega
  have v0:IntKind.i64.wrap 20=20:=rfl
  have v1:IntKind.i64.wrap 21=21:=rfl
  by_cases c:((j:Int)+1)*s<=512
  ·rw [if_pos c] at hcode
   subst hcode
   have hstep:=hstep c
   by_cases c0:j=0
   ·subst c0
    rw [if_pos rfl] at hstep
    have hR2:rtV M.layX m 2108 k 0 ⟨2,2048,8,0,0,24,0,0,0,0,0⟩ 20 1 none=(m',v',0):=hR
    have w2:IntKind.i64.wrap 1=1:=rfl
    have c2:¬ (1:Int)<0:=by decide
    have c3:¬ (0:Int)<0:=by decide
    refine run_sound (Tab.ok_Γ _) 300 _ _ _ _ ?_
    simp (maxSteps:=999999) only [go_sem,simprocAttr,↓qT,↓qF,TVz,pieceG,hpc,rtyG,rtyM,capF,hrb,c512,w2,v0,v1,hR2,hB,wH_m,remG,remM,Int.natCast_zero,Int.add_zero,c2,c3,Cap.cl,put,fillP,sub,EVt,List.drop_succ_cons]
    repeat' first|exact IH (1,m') _ (by simp only; omega) ⟨hstep,by simp only; simpa using c⟩ (Wk.same rfl rfl (by simp only [go_sem,simprocAttr,↓qT,↓qF,Int.natCast_one]))|intro _|refine ⟨?_, ?_⟩
   ·rw [if_neg c0] at hstep
    obtain ⟨st1,st2⟩:=hstep
    have c1:(0:Int)<j:=by omega
    have hR2:rtV M.layX m 2108 k 0 ⟨2,2048,8,0,0,24,0,0,0,0,0⟩ 21 1 none=(m',v',0):=by rw [<-hR,hmn.2 c0]; rfl
    have cc:((j+1:Nat):Int)*s<=512:=by rw [Int.natCast_add,Int.natCast_one]; exact c
    by_cases c2:(1:Int)<j
    ·refine run_sound (Tab.ok_Γ _) 300 _ _ _ _ ?_
     simp (maxSteps:=999999) only [go_sem,simprocAttr,↓qT,↓qF,TVz,pieceG,hpc,rtyG,rtyM,capF,hrb,c512,w2,v0,v1,hR2,hB,wH_m,remG,remM,c1,c2,st1,Cap.cl,put,fillP,sub,EVt,List.drop_succ_cons]
     repeat' first|exact IH (j+1,(m'.rem 2132).2) _ (by simp only; omega) ⟨st2,cc⟩ (Wk.same rfl rfl (by simp only [go_sem,simprocAttr,↓qT,↓qF]))|intro _|refine ⟨?_, ?_⟩
    ·have e1:j=1:=by omega
     subst e1
     have c3:¬ (1:Int)<1:=by decide
     have c4:(0:Int)<1:=by decide
     have w2:IntKind.i64.wrap 2=2:=rfl
     refine run_sound (Tab.ok_Γ _) 300 _ _ _ _ ?_
     simp (maxSteps:=999999) only [go_sem,simprocAttr,↓qT,↓qF,TVz,pieceG,hpc,rtyG,rtyM,capF,hrb,c512,w2,v0,v1,hR2,hB,wH_m,remG,remM,Int.natCast_one,c3,c4,st1,Cap.cl,put,fillP,sub,EVt,List.drop_succ_cons]
     repeat' first|exact IH (2,(m'.rem 2132).2) _ (by simp only; omega) ⟨st2,cc⟩ (Wk.same rfl rfl (by first|(simp (maxSteps:=999999) only [go_sem,simprocAttr,↓qT,↓qF])|(simp (maxSteps:=999999) only [go_sem,simprocAttr,↓qT,↓qF,show ((2:Nat):Int)=2 from rfl])))|intro _|refine ⟨?_, ?_⟩
  ·rw [if_neg c] at hcode
   subst hcode
   have hq:Int.tdiv 512 s=j:=by
    rcases h4 with e|e|e|e<;>subst e<;>(simp only [Int.reduceTDiv]; omega)
   have hs1:¬ s=0:=by omega
   have hs2:IntKind.i64.wrap (j:Int)=j:=by rw [wrap64]<;>omega
   have hj0:j≠0:=by
    intro e
    subst e
    rcases h4 with e|e|e|e<;>subst e<;>exact absurd c (by decide)
   have hR2:rtV M.layX m 2108 k 0 ⟨2,2048,8,0,0,24,0,0,0,0,0⟩ 21 1 none=(m',v',151):=by rw [<-hR,hmn.2 hj0]; rfl
   have c2:(1:Int)<j:=by
    rcases h4 with e|e|e|e<;>subst e<;>omega
   refine run_sound (Tab.ok_Γ _) 300 _ _ _ _ ?_
   simp (maxSteps:=999999) only [go_sem,simprocAttr,↓qT,↓qF,TVz,pieceG,hpc,rtyG,rtyM,capF,hrb,c512,w2,v0,v1,hR2,hB,wH_m,remG,remM,c2,hq,hs0,hs1,hs2,beq_self_eq_true,Cap.cl,put,fillP,sub,EVt,List.drop_succ_cons]
   repeat' first|exact hK _|exact hs1|intro _|refine ⟨?_, ?_⟩
end Go.Proofs.YtcdfofeolgbnbaaGreat

/- UntypedFull: for every input the law's Go function answers true,and its arguments read behind the call as before. No conditions. -/
namespace Go.Proofs.YtcdfofeolgbnbaaGreat
open Go.D
set_option linter.all false
set_option maxRecDepth 100000

theorem untypedFull_law:Law untypedFullS [(false,[.int .i64])]:=by
 intro h us H hc
 obtain ⟨_,_,rfl,H1,H⟩:=lawC H
 obtain rfl:=lawN H
 obtain ⟨n,rfl,h1⟩:=hasV_int H1
 exact ⟨n,rfl,i64_b h1,fun _=>rfl⟩
theorem untypedFull_row:RowOk Tryz.prog 5 Tryz.f5 Rows.untypedFullSpec [(false,[.int .i64])] where
 own:=own
 noTabs:=rfl
 noInit:=by kernel_rfl
 isf:=Tryz.func5
 laid:=laid
 rowed:=rowed
 full:=full
 params:=by kernel_rfl
 vars:=rfl
 ret:=⟨_,rfl,by kernel_rfl⟩
 spec:=fun H ds e=>by
  match ds,e with
  | [_],_=>rfl
 tys:=⟨20,by kernel_rfl⟩
theorem untypedFull_holds:Rows.UntypedFullSaid :=
 OpenClaim.holds_of_wide 5 Tryz.f5 rfl rfl rfl rfl rfl rfl rfl ⟨rfl,rfl,rfl,rfl,rfl⟩ rfl rfl rfl rfl rfl (by kernel_rfl) Tryz.func5 (by kernel_rfl)
  (of_decide_eq_true (by kernel_rfl)) (by unfold Func.isWrapper; first|(rw [if_pos (by decide +kernel)]; kernel_rfl)|(rw [if_neg (by decide +kernel)]; exact ⟨rfl,rfl⟩))
  (fun os started H enc _=>untypedFull_row.lifted (C:=Tryz.checked) untypedFull_snd untypedFull_law started (ChangeSpec.witness6 (enc:=enc) (C:=Tryz.checked) false ⟨#[], #[.int .i64 0],[]⟩ 8 (by kernel_rfl) (by kernel_rfl) (by kernel_rfl) (by kernel_rfl)))
end Go.Proofs.YtcdfofeolgbnbaaGreat

