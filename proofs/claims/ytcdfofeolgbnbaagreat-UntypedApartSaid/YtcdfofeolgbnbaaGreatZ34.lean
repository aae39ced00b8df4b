/- Package untyped: Retype: the walk; the document's. -/
import Derived.Test.YtcdfofeolgbnbaaGreatZ11
import Derived.Test.YtcdfofeolgbnbaaGreatZ31
/- Package untyped: Retype: the walk; the document's. -/
namespace Go.Proofs.YtcdfofeolgbnbaaGreat
open Go.D
set_option linter.all false
set_option maxRecDepth 100000
set_option maxHeartbeats 1000000

def rtyM (b:Nat) (m:M) (st:M->List Blk):List V->Res
 | [.s (.i .i64 x), .s (.i .i64 k), .s (.i .i64 b'),y, .s (.i .i64 i), .s (.i .i64 n), .s .np]=>capF (fun nd=>.ob (rightB nd=true) (.ok (.s (.i .i64 (rtV M.layX m x k b' nd i n none).2.2)) [] (st (rtV M.layX m x k b' nd i n none).1))) [y]
 | [.s (.i .i64 x), .s (.i .i64 k), .s (.i .i64 b'),y, .s (.i .i64 i), .s (.i .i64 n), .s (.p (.g d) 0)]=>match (st m)[d]? with
  | some ⟨.rw,[.i .i64 u],1⟩=>capF (fun nd=>.ob (rightB nd=true/\i64 u) (.ok (.s (.i .i64 (rtV M.layX m x k b' nd i n (some u)).2.2)) [] ((st (rtV M.layX m x k b' nd i n (some u)).1).set d (uB ((rtV M.layX m x k b' nd i n (some u)).2.1.getD 0))))) [y]
  | _=>.bad
 | _=>.bad
noncomputable def rtyG:=memF rtyM
def rrtyM (b:Nat) (m:M) (st:M->List Blk):List V->Res
 | [.s (.i .i64 x), .s (.i .i64 k), .s (.i .i64 b'),y, .s (.i .i64 i), .s (.i .i64 n), .s (.p (.g d) 0)]=>match (st m)[d]? with
  | some ⟨.rw,[.i .i64 u],1⟩=>capF (fun nd=>.ob (rightB nd=true/\i64 u/\0<=u) (.ok (.s (.i .i64 (rtV M.rlayX m x k b' nd i n (some u)).2.2)) [] ((st (rtV M.rlayX m x k b' nd i n (some u)).1).set d (uB ((rtV M.rlayX m x k b' nd i n (some u)).2.1.getD 0))))) [y]
  | _=>.bad
 | _=>.bad
noncomputable def rrtyG:=memF rrtyM
noncomputable def TUy:Tab:=addT 67 cap9G (addT 68 askG (addT 41 nextG (addT 27 rstG2 (addT 15 roG (addT 19 hsizeG (addT 70 frG (addT 30 slotAtG (addT 69 fitG (addT 71 setCap9G (addT 72 st9G (addT 73 lay9G (noT))))))))))))
theorem TUy_snd:TUy.Snd Tryz.prog:=addT_snd ok67 cap9_snd (addT_snd ok68 ask_snd (addT_snd ok41 next_snd (addT_snd ok27 rst_snd2 (addT_snd ok15 ro_snd (addT_snd ok19 hsize_snd (addT_snd ok70 fr_snd (addT_snd ok30 slotAt_snd (addT_snd ok69 fit_snd (addT_snd ok71 setCap9_snd (addT_snd ok72 pt_snd (addT_snd ok73 lay9_snd ((noT_snd _)))))))))))))
noncomputable def TUz:Tab:=addT 66 cap9G (addT 144 askG (addT 32 nextG (addT 84 rrstG2 (addT 16 roG (addT 62 hsizeG (addT 145 frG (addT 146 fitG (addT 147 setCap9G (addT 132 st9G (addT 133 rlay9G (noT)))))))))))
theorem TUz_snd:TUz.Snd Tryz.prog:=addT_snd ok66 rcap9_snd (addT_snd ok144 rask_snd (addT_snd ok32 rnext_snd (addT_snd ok84 rrst_snd2 (addT_snd ok16 rro_snd (addT_snd ok62 rhsize_snd (addT_snd ok145 rfr_snd (addT_snd ok146 rfit_snd (addT_snd ok147 rsetCap9_snd (addT_snd ok132 st9_snd (addT_snd ok133 rlay9_snd ((noT_snd _))))))))))))
theorem rtb_of2 {c nd:Cap} {k b i n:Int} (hr:rightB nd=true) (h1:c.ty=1/\knE k b n=0/\nd.ty=2/\0<=i/\i<slotsN nd/\n<=slotsN nd-i) {c':Cap} (h2:(roV c' k b n).2=0):RtB c' nd k b i n (roV c' k b n).1 (hszV k b) (slotsN nd):=by
 obtain ⟨_,hk,ht,i0,i1,i2⟩:=h1
 obtain ⟨hu,_,e,ha⟩:=ro_ok h2
 obtain ⟨s1,s2,_,n1,n2,_,_⟩:=kn_sz hk
 obtain ⟨_,o1,o2,N1,N2,_⟩:=node_b hr ht
 obtain ⟨_,u1,u2,u3,u4,u5,u6⟩:=hu
 obtain ⟨p1,p2,_⟩:=pow_b u5 u6
 obtain ⟨a1,a2,a3⟩:=up_is (x:=c'.obj+c'.mark) s1
 rw [e]
 exact ⟨⟨n1,n2⟩,⟨s1,s2⟩,⟨by omega,by omega⟩,⟨i0,by omega⟩,N2,⟨o1,o2⟩⟩
theorem rty_end {h hb:List Blk} {K:V->List Blk->Prop} {a b:Nat} {m0 mm:M} {x k b' i n n0 n1 n2 n3 n4 n5 n6 n7 n8 n9 n10 g0 g1 g2 g3 g4 g5 g6 g7 g8 g9 g10:Int} {c:Cap} (hr:rightB ⟨n0,n1,n2,n3,n4,n5,n6,n7,n8,n9,n10⟩=true) (hok:c.ty=1/\knE k b' n=0/\Cap.ty ⟨n0,n1,n2,n3,n4,n5,n6,n7,n8,n9,n10⟩=2/\0<=i/\i<slotsN ⟨n0,n1,n2,n3,n4,n5,n6,n7,n8,n9,n10⟩/\n<=slotsN ⟨n0,n1,n2,n3,n4,n5,n6,n7,n8,n9,n10⟩-i) (H:IsMem hb a b m0) (hS:K (.s (.i .i64 (rtM M.layX mm x k b' ⟨n0,n1,n2,n3,n4,n5,n6,n7,n8,n9,n10⟩ i n ⟨g0,g1,g2,g3,g4,g5,g6,g7,g8,g9,g10⟩).2)) (setM hb a b (rtM M.layX mm x k b' ⟨n0,n1,n2,n3,n4,n5,n6,n7,n8,n9,n10⟩ i n ⟨g0,g1,g2,g3,g4,g5,g6,g7,g8,g9,g10⟩).1)) :
  swp TUy.Γ h.length (finP df21.res K) [.c (DC.after 4 df21.body)] ⟨setT [(0, .s (.p (.g a) 0)),(1, .s (.i .i64 x)),(2, .s (.i .i64 k)),(3, .s (.i .i64 b')),(5, .s (.i .i64 i)),(6, .s (.i .i64 n)),(12, .s (.p (.l 0) 0)),(17, .s (.p (.l 1) 0))] (List.replicate 134 (.s .u)),[⟨.rw,Cap.cl ⟨n0,n1,n2,n3,n4,n5,n6,n7,n8,n9,n10⟩,11⟩,⟨.rw,Cap.cl ⟨g0,g1,g2,g3,g4,g5,g6,g7,g8,g9,g10⟩,11⟩],setM hb a b mm⟩:=by
 unfold rtM at hS
 obtain ⟨⟨A,f⟩,hR⟩:∃ q,roV ⟨g0,g1,g2,g3,g4,g5,g6,g7,g8,g9,g10⟩ k b' n=q:=⟨_,rfl⟩
 rw [hR] at hS
 by_cases hf:f=0
 rotate_left
 ·have hf':(f==0)=false:=by simpa using hf
  simp only [hf,if_false] at hS
  simp only [DC.after,df21]
  refine run_sound (Tab.ok_Γ _) 400 _ _ _ _ ?_
  simp (maxSteps:=999999) only [go_sem,simprocAttr,↓qT,↓qF,TUy,roG,capF,cap_eta,hR,hf',bne,setT,Cap.cl,put,fillP,sub,EVt]
  exact hS
 subst hf
 have hB:=rtb_of2 (k:=k) (b:=b') (i:=i) (n:=n) hr hok (c':=⟨g0,g1,g2,g3,g4,g5,g6,g7,g8,g9,g10⟩) (by rw [hR])
 obtain ⟨hut,_,hA1,hA2⟩:=ro_ok (c:=⟨g0,g1,g2,g3,g4,g5,g6,g7,g8,g9,g10⟩) (k:=k) (b:=b') (n:=n) (by rw [hR])
 rw [hR] at hB hA1
 rw [<-hA1] at hA2
 obtain ⟨_,hu1,hu2,hu3,hu4,hu5,hu6⟩:=hut
 obtain ⟨_,_,hse,_⟩:=kn_sz hok.2.1
 obtain ⟨s,hsv⟩:∃ s,hszV k b'=s:=⟨_,rfl⟩
 rw [hsv] at hB hS hA2
 simp only [if_true] at hS
 obtain ⟨hBn,hBs,hBA,hBi,hBN,hBo⟩:=hB
 obtain ⟨ns,hns⟩:∃ ns,n*s=ns:=⟨_,rfl⟩
 rw [hns] at hBA hS
 simp only [DC.after,df21]
 refine run_sound (Tab.ok_Γ _) 400 _ _ _ _ ?_
 simp (maxSteps:=999999) only [go_sem,simprocAttr,↓qT,↓qF,TUy,roG,capF,cap_eta,hR,hsizeG,hsv,hse,bne,setT,Cap.cl,put,fillP,sub,EVt]
 obtain ⟨W,hW⟩:∃ W,rtF k b' n.toNat A (n1+4*i)=W:=⟨_,rfl⟩
 rw [hW] at hS
 obtain ⟨hc1,hk,hn0,i0,i1,i2⟩:=hok
 simp only at hc1 hn0 i1 i2 hBo hu1 hu2 hu3 hu4 hu5 hu6 hA2
 have hjs:∀ j:Nat,(j:Int)<n->0<=(j:Int)*s/\(j:Int)*s+s<=ns:=fun j hj=>by
  refine ⟨Int.mul_nonneg (by omega) (by omega), ?_⟩
  have h1:((j:Int)+1)*s<=n*s:=Int.mul_le_mul_of_nonneg_right (by omega) (by omega)
  rw [Int.add_mul,Int.one_mul] at h1
  omega
 have hsa:=fun q=>slotAt_node (i:=q) hr hn0
 simp only at hsa
 refine loop_rule (α:=Nat) [16,24,73,74,75,76,77,78,79,80,81,82,83,84,85,86,87,88,89,90,91] (fun j=>[(73, .s (.i .i64 (j:Int)))]) (fun _=>[⟨.rw,Cap.cl ⟨n0,n1,n2,n3,n4,n5,n6,n7,n8,n9,n10⟩,11⟩,⟨.rw,Cap.cl ⟨g0,g1,g2,g3,g4,g5,g6,g7,g8,g9,g10⟩,11⟩]) (fun _=>setM hb a b mm) (fun j=>(j:Int)<=n/\rtF k b' (n.toNat-j) (A+j*s) (n1+4*(i+j))=W) (fun j=>n.toNat-j) 0 ⟨by omega,by rw [<-hW]; simp only [Int.natCast_zero,Int.zero_mul,Int.add_zero,Nat.sub_zero]⟩ ?_ ?_
 ·refine Wk.same rfl rfl ?_
  simp (maxSteps:=999999) only [go_sem,simprocAttr,↓qT,↓qF,Int.natCast_zero]
 ·clear hW
  rintro Y j ⟨hj,hW⟩ IH
  first|simp only at hj hW ⊢|skip
  by_cases hz:(j:Int)<n
  ·obtain ⟨z,hzz⟩:∃ z,n.toNat-j=z+1:=⟨n.toNat-j-1,by omega⟩
   rw [hzz] at hW
   obtain ⟨b1,b2⟩:=hjs j hz
   obtain ⟨J,hJ⟩:∃ J,(j:Int)*s=J:=⟨_,rfl⟩
   have e1:((j+1:Nat):Int)*s=J+s:=by rw [Int.natCast_add,Int.add_mul,hJ,Int.natCast_one,Int.one_mul]
   rw [hJ] at hW b1 b2
   have w1:IntKind.i64.wrap (i+j)=i+j:=by rw [wrap64]<;>omega
   have w2:IntKind.i64.wrap ((j:Int)+1)=((j+1:Nat):Int):=by rw [wrap64]<;>omega
   have w3:IntKind.i64.wrap (4*(i+j))=4*(i+j):=by rw [wrap64]<;>omega
   have w4:IntKind.i64.wrap (n1+4*(i+j))=n1+4*(i+j):=by rw [wrap64]<;>omega
   have w5:IntKind.i64.wrap J=J:=by rw [wrap64]<;>omega
   have w6:IntKind.i64.wrap (A+J)=A+J:=by rw [wrap64]<;>omega
   have hsa:=hsa (i+j) (by omega) (by omega)
   have e2:n1+4*(i+((j+1:Nat):Int))=n1+4*(i+j)+4:=by omega
   obtain ⟨AT,hAT⟩:∃ q,n1+4*(i+j)=q:=⟨_,rfl⟩
   obtain ⟨AA,hAA⟩:∃ q,A+J=q:=⟨_,rfl⟩
   have e3:A+(J+s)=AA+s:=by omega
   rw [hAT] at hW w4 hsa e2
   rw [hAA] at hW w6
   simp only [rtF,frC,hsv] at hW
   obtain ⟨fb,hfb⟩:∃ q,fitB ⟨k,AA,if k=1\/k=2 then b' else 0,0,0,0,0,if k=4\/k=5\/k=8 then 7 else 0,0,0,0⟩ AT=q:=⟨_,rfl⟩
   rw [hfb] at hW
   cases fb with
   | true =>
    simp only [Bool.true_and] at hW
    refine run_sound (Tab.ok_Γ _) 300 _ _ _ _ ?_
    simp (maxSteps:=999999) only [go_sem,simprocAttr,↓qT,↓qF,TUy,frG,frC,slotAtG,capIF,capF,cap_eta,fitG,memF_set H,hr,hz,hJ,w1,w2,w3,w4,w5,w6,hAA,hAT,hsa,hfb,Cap.cl,put,fillP,sub,EVt]
    try intros
    refine IH (j+1) _ (by omega) ⟨by omega,by rw [e1,e2,e3,show n.toNat-(j+1)=z by omega]; exact hW⟩ ?_
    exact Wk.keep 2 rfl rfl (by simp only [go_sem,simprocAttr,↓qT,↓qF]) (by simp only [go_sem,simprocAttr,↓qT,↓qF]) (by rfl)
   | false =>
    simp only [Bool.false_and] at hW
    subst hW
    simp only [Bool.false_eq_true,if_false] at hS
    refine run_sound (Tab.ok_Γ _) 300 _ _ _ _ ?_
    simp (maxSteps:=999999) only [go_sem,simprocAttr,↓qT,↓qF,TUy,frG,frC,slotAtG,capIF,capF,cap_eta,fitG,memF_set H,hr,hz,hJ,w1,w2,w3,w4,w5,w6,hAA,hAT,hsa,hfb,Cap.cl,put,fillP,sub,EVt]
    try intros
    exact hS
  ·have e:W=true:=by rw [<-hW,show n.toNat-j=0 by omega]; rfl
   subst e
   clear hW IH
   simp only [if_true,Cap.mk'] at hS
   have hns0:0<=ns:=by rw [<-hns]; exact Int.mul_nonneg (by omega) (by omega)
   have v1:IntKind.i64.wrap ns=ns:=by rw [wrap64]<;>omega
   have v2:IntKind.i64.wrap (A+ns)=A+ns:=by rw [wrap64]<;>omega
   obtain ⟨Z,hZ⟩:∃ Z,A+ns-(⟨g0,g1,g2,g3,g4,g5,g6,g7,g8,g9,g10⟩:Cap).obj=Z:=⟨_,rfl⟩
   simp only at hZ
   rw [hZ] at hS
   have v3:IntKind.i64.wrap Z=Z:=by rw [wrap64]<;>omega
   refine run_sound (Tab.ok_Γ _) 300 _ _ _ _ ?_
   simp (maxSteps:=999999) only [go_sem,simprocAttr,↓qT,↓qF,TUy,frG,frC,slotAtG,capIF,capF,cap_eta,fitG,memF_set H,hr,hz,hns,v1,v2,v3,hZ,setCap9G,setCap9M,Cap.cl,put,fillP,sub,EVt]
   clear v1 v2 v3
   obtain ⟨W,hW⟩:∃ W,rtL M.layX k b' x n.toNat (mm.scX x ⟨g0,g1,g2,Z,g4,g5,g6,g7,g8,g9,g10⟩) A (n1+4*i)=W:=⟨_,rfl⟩
   rw [hW] at hS
   refine loop_rule (α:=Nat×M) [25,26,106,107,108,109,110,111,112,113,114,115,116,117,118,119,120,121,122,123,124,125,126,127,128,129,130,131,132,133] (fun y=>[(106, .s (.i .i64 (y.1:Int)))]) (fun _=>[⟨.rw,Cap.cl ⟨n0,n1,n2,n3,n4,n5,n6,n7,n8,n9,n10⟩,11⟩,⟨.rw,Cap.cl ⟨g0,g1,g2,Z,g4,g5,g6,g7,g8,g9,g10⟩,11⟩]) (fun y=>setM hb a b y.2) (fun y=>(y.1:Int)<=n/\rtL M.layX k b' x (n.toNat-y.1) y.2 (A+y.1*s) (n1+4*(i+y.1))=W) (fun y=>n.toNat-y.1) (0,mm.scX x ⟨g0,g1,g2,Z,g4,g5,g6,g7,g8,g9,g10⟩) ⟨by simp only; omega,by rw [<-hW]; simp only [Int.natCast_zero,Int.zero_mul,Int.add_zero,Nat.sub_zero]⟩ ?_ ?_
   ·refine Wk.keep 2 rfl rfl (by simp only [go_sem,simprocAttr,↓qT,↓qF,Int.natCast_zero]) (by simp only [go_sem,simprocAttr,↓qT,↓qF]) (by rfl)
   ·clear hW
    rintro Y ⟨j,m3⟩ ⟨hj,hW⟩ IH
    first|simp only at hj hW ⊢|skip
    by_cases hz:(j:Int)<n
    ·obtain ⟨z,hzz⟩:∃ z,n.toNat-j=z+1:=⟨n.toNat-j-1,by omega⟩
     rw [hzz] at hW
     obtain ⟨b1,b2⟩:=hjs j hz
     obtain ⟨J,hJ⟩:∃ J,(j:Int)*s=J:=⟨_,rfl⟩
     have e1:((j+1:Nat):Int)*s=J+s:=by rw [Int.natCast_add,Int.add_mul,hJ,Int.natCast_one,Int.one_mul]
     rw [hJ] at hW b1 b2
     have w1:IntKind.i64.wrap (i+j)=i+j:=by rw [wrap64]<;>omega
     have w2:IntKind.i64.wrap ((j:Int)+1)=((j+1:Nat):Int):=by rw [wrap64]<;>omega
     have w3:IntKind.i64.wrap (4*(i+j))=4*(i+j):=by rw [wrap64]<;>omega
     have w4:IntKind.i64.wrap (n1+4*(i+j))=n1+4*(i+j):=by rw [wrap64]<;>omega
     have w5:IntKind.i64.wrap J=J:=by rw [wrap64]<;>omega
     have w6:IntKind.i64.wrap (A+J)=A+J:=by rw [wrap64]<;>omega
     have hsa:=hsa (i+j) (by omega) (by omega)
     have e2:n1+4*(i+((j+1:Nat):Int))=n1+4*(i+j)+4:=by omega
     obtain ⟨AT,hAT⟩:∃ q,n1+4*(i+j)=q:=⟨_,rfl⟩
     obtain ⟨AA,hAA⟩:∃ q,A+J=q:=⟨_,rfl⟩
     have e3:A+(J+s)=AA+s:=by omega
     rw [hAT] at hW w4 hsa e2
     rw [hAA] at hW w6
     simp only [rtL,frC,hsv] at hW
     by_cases h3:k=3
     ·subst h3
      simp only [rtK,if_true,Int.reduceEq,or_self,if_false] at hW
      refine run_sound (Tab.ok_Γ _) 300 _ _ _ _ ?_
      simp (maxSteps:=999999) only [go_sem,simprocAttr,↓qT,↓qF,TUy,frG,frC,slotAtG,capIF,capF,cap_eta,fitG,memF_set H,hr,hz,hJ,w1,w2,w3,w4,w5,w6,hAA,hAT,hsa,st9G,st9M,thT_F,lay9G,lay9M,Cap.cl,put,fillP,sub,EVt]
      refine ⟨thT_up, ?_⟩
      try intros
      refine IH (j+1,_) _ (by simp only; omega) ⟨by simp only; omega,by simp only; rw [e1,e2,e3,show n.toNat-(j+1)=z by omega]; exact hW⟩ ?_
      exact Wk.keep 2 rfl rfl (by simp only [go_sem,simprocAttr,↓qT,↓qF]) (by simp only [go_sem,simprocAttr,↓qT,↓qF]) (by rfl)
     ·simp only [rtK,if_neg h3] at hW
      have h3':(k==3)=false:=by simpa using h3
      refine run_sound (Tab.ok_Γ _) 300 _ _ _ _ ?_
      simp (maxSteps:=999999) only [go_sem,simprocAttr,↓qT,↓qF,TUy,frG,frC,slotAtG,capIF,capF,cap_eta,fitG,memF_set H,hr,hz,hJ,w1,w2,w3,w4,w5,w6,hAA,hAT,hsa,h3',lay9G,lay9M,Cap.cl,put,fillP,sub,EVt]
      try intros
      refine IH (j+1,_) _ (by simp only; omega) ⟨by simp only; omega,by simp only; rw [e1,e2,e3,show n.toNat-(j+1)=z by omega]; exact hW⟩ ?_
      exact Wk.keep 2 rfl rfl (by simp only [go_sem,simprocAttr,↓qT,↓qF]) (by simp only [go_sem,simprocAttr,↓qT,↓qF]) (by rfl)
    ·have e:W=m3:=by rw [<-hW,show n.toNat-j=0 by omega]; rfl
     subst e
     refine run_sound (Tab.ok_Γ _) 300 _ _ _ _ ?_
     simp (maxSteps:=999999) only [go_sem,simprocAttr,↓qT,↓qF,hz,put,fillP,sub,EVt]
     exact hS
theorem rrty_end {h hb:List Blk} {K:V->List Blk->Prop} {a b:Nat} {m0 mm:M} {x k b' i n n0 n1 n2 n3 n4 n5 n6 n7 n8 n9 n10 g0 g1 g2 g3 g4 g5 g6 g7 g8 g9 g10:Int} {c:Cap} (hr:rightB ⟨n0,n1,n2,n3,n4,n5,n6,n7,n8,n9,n10⟩=true) (hok:c.ty=1/\knE k b' n=0/\Cap.ty ⟨n0,n1,n2,n3,n4,n5,n6,n7,n8,n9,n10⟩=2/\0<=i/\i<slotsN ⟨n0,n1,n2,n3,n4,n5,n6,n7,n8,n9,n10⟩/\n<=slotsN ⟨n0,n1,n2,n3,n4,n5,n6,n7,n8,n9,n10⟩-i) (H:IsMem hb a b m0) (hS:K (.s (.i .i64 (rtM M.rlayX mm x k b' ⟨n0,n1,n2,n3,n4,n5,n6,n7,n8,n9,n10⟩ i n ⟨g0,g1,g2,g3,g4,g5,g6,g7,g8,g9,g10⟩).2)) (setM hb a b (rtM M.rlayX mm x k b' ⟨n0,n1,n2,n3,n4,n5,n6,n7,n8,n9,n10⟩ i n ⟨g0,g1,g2,g3,g4,g5,g6,g7,g8,g9,g10⟩).1)) :
  swp TUz.Γ h.length (finP df83.res K) [.c (DC.after 6 df83.body)] ⟨setT [(0, .s (.p (.g a) 0)),(1, .s (.i .i64 x)),(2, .s (.i .i64 k)),(3, .s (.i .i64 b')),(5, .s (.i .i64 i)),(6, .s (.i .i64 n)),(12, .s (.p (.l 0) 0)),(17, .s (.p (.l 1) 0))] (List.replicate 143 (.s .u)),[⟨.rw,Cap.cl ⟨n0,n1,n2,n3,n4,n5,n6,n7,n8,n9,n10⟩,11⟩,⟨.rw,Cap.cl ⟨g0,g1,g2,g3,g4,g5,g6,g7,g8,g9,g10⟩,11⟩],setM hb a b mm⟩:=by
 unfold rtM at hS
 obtain ⟨⟨A,f⟩,hR⟩:∃ q,roV ⟨g0,g1,g2,g3,g4,g5,g6,g7,g8,g9,g10⟩ k b' n=q:=⟨_,rfl⟩
 rw [hR] at hS
 by_cases hf:f=0
 rotate_left
 ·have hf':(f==0)=false:=by simpa using hf
  simp only [hf,if_false] at hS
  simp only [DC.after,df83]
  refine run_sound (Tab.ok_Γ _) 400 _ _ _ _ ?_
  simp (maxSteps:=999999) only [go_sem,simprocAttr,↓qT,↓qF,TUz,roG,capF,cap_eta,hR,hf',bne,setT,Cap.cl,put,fillP,sub,EVt]
  exact hS
 subst hf
 have hB:=rtb_of2 (k:=k) (b:=b') (i:=i) (n:=n) hr hok (c':=⟨g0,g1,g2,g3,g4,g5,g6,g7,g8,g9,g10⟩) (by rw [hR])
 obtain ⟨hut,_,hA1,hA2⟩:=ro_ok (c:=⟨g0,g1,g2,g3,g4,g5,g6,g7,g8,g9,g10⟩) (k:=k) (b:=b') (n:=n) (by rw [hR])
 rw [hR] at hB hA1
 rw [<-hA1] at hA2
 obtain ⟨_,hu1,hu2,hu3,hu4,hu5,hu6⟩:=hut
 obtain ⟨_,_,hse,_⟩:=kn_sz hok.2.1
 obtain ⟨s,hsv⟩:∃ s,hszV k b'=s:=⟨_,rfl⟩
 rw [hsv] at hB hS hA2
 simp only [if_true] at hS
 obtain ⟨hBn,hBs,hBA,hBi,hBN,hBo⟩:=hB
 obtain ⟨ns,hns⟩:∃ ns,n*s=ns:=⟨_,rfl⟩
 rw [hns] at hBA hS
 simp only [DC.after,df83]
 refine run_sound (Tab.ok_Γ _) 400 _ _ _ _ ?_
 simp (maxSteps:=999999) only [go_sem,simprocAttr,↓qT,↓qF,TUz,roG,capF,cap_eta,hR,hsizeG,hsv,hse,bne,setT,Cap.cl,put,fillP,sub,EVt]
 obtain ⟨W,hW⟩:∃ W,rtF k b' n.toNat A (n1+4*i)=W:=⟨_,rfl⟩
 rw [hW] at hS
 obtain ⟨hc1,hk,hn0,i0,i1,i2⟩:=hok
 simp only at hc1 hn0 i1 i2 hBo hu1 hu2 hu3 hu4 hu5 hu6 hA2
 have hjs:∀ j:Nat,(j:Int)<n->0<=(j:Int)*s/\(j:Int)*s+s<=ns:=fun j hj=>by
  refine ⟨Int.mul_nonneg (by omega) (by omega), ?_⟩
  have h1:((j:Int)+1)*s<=n*s:=Int.mul_le_mul_of_nonneg_right (by omega) (by omega)
  rw [Int.add_mul,Int.one_mul] at h1
  omega
 have hsa:=fun q=>slotAt_node (i:=q) hr hn0
 simp only at hsa
 refine loop_rule (α:=Nat) [16,24,25,26,75,76,77,78,79,80,81,82,83,84,85,86,87,88,89,90,91,92,93,94,95,96,97,98] (fun j=>[(24, .s (.i .i64 (j:Int)))]) (fun _=>[⟨.rw,Cap.cl ⟨n0,n1,n2,n3,n4,n5,n6,n7,n8,n9,n10⟩,11⟩,⟨.rw,Cap.cl ⟨g0,g1,g2,g3,g4,g5,g6,g7,g8,g9,g10⟩,11⟩]) (fun _=>setM hb a b mm) (fun j=>(j:Int)<=n/\rtF k b' (n.toNat-j) (A+j*s) (n1+4*(i+j))=W) (fun j=>n.toNat-j) 0 ⟨by omega,by rw [<-hW]; simp only [Int.natCast_zero,Int.zero_mul,Int.add_zero,Nat.sub_zero]⟩ ?_ ?_
 ·refine Wk.same rfl rfl ?_
  simp (maxSteps:=999999) only [go_sem,simprocAttr,↓qT,↓qF,Int.natCast_zero]
 ·clear hW
  rintro Y j ⟨hj,hW⟩ IH
  first|simp only at hj hW ⊢|skip
  by_cases hz:(j:Int)<n
  ·obtain ⟨z,hzz⟩:∃ z,n.toNat-j=z+1:=⟨n.toNat-j-1,by omega⟩
   rw [hzz] at hW
   obtain ⟨b1,b2⟩:=hjs j hz
   obtain ⟨J,hJ⟩:∃ J,(j:Int)*s=J:=⟨_,rfl⟩
   have e1:((j+1:Nat):Int)*s=J+s:=by rw [Int.natCast_add,Int.add_mul,hJ,Int.natCast_one,Int.one_mul]
   rw [hJ] at hW b1 b2
   have w1:IntKind.i64.wrap (i+j)=i+j:=by rw [wrap64]<;>omega
   have w2:IntKind.i64.wrap ((j:Int)+1)=((j+1:Nat):Int):=by rw [wrap64]<;>omega
   have w3:IntKind.i64.wrap (4*(i+j))=4*(i+j):=by rw [wrap64]<;>omega
   have w4:IntKind.i64.wrap (n1+4*(i+j))=n1+4*(i+j):=by rw [wrap64]<;>omega
   have w5:IntKind.i64.wrap J=J:=by rw [wrap64]<;>omega
   have w6:IntKind.i64.wrap (A+J)=A+J:=by rw [wrap64]<;>omega
   have hsa:=hsa (i+j) (by omega) (by omega)
   have e2:n1+4*(i+((j+1:Nat):Int))=n1+4*(i+j)+4:=by omega
   obtain ⟨AT,hAT⟩:∃ q,n1+4*(i+j)=q:=⟨_,rfl⟩
   obtain ⟨AA,hAA⟩:∃ q,A+J=q:=⟨_,rfl⟩
   have e3:A+(J+s)=AA+s:=by omega
   rw [hAT] at hW w4 hsa e2
   rw [hAA] at hW w6
   simp only [rtF,frC,hsv] at hW
   obtain ⟨fb,hfb⟩:∃ q,fitB ⟨k,AA,if k=1\/k=2 then b' else 0,0,0,0,0,if k=4\/k=5\/k=8 then 7 else 0,0,0,0⟩ AT=q:=⟨_,rfl⟩
   rw [hfb] at hW
   cases fb with
   | true =>
    simp only [Bool.true_and] at hW
    refine run_sound (Tab.ok_Γ _) 300 _ _ _ _ ?_
    simp (maxSteps:=999999) only [go_sem,simprocAttr,↓qT,↓qF,TUz,frG,frC,slotAtG,capIF,capF,cap_eta,fitG,memF_set H,hr,hz,hJ,w1,w2,w3,w4,w5,w6,hAA,hAT,hsa,hfb,Cap.cl,put,fillP,sub,EVt]
    try intros
    refine IH (j+1) _ (by omega) ⟨by omega,by rw [e1,e2,e3,show n.toNat-(j+1)=z by omega]; exact hW⟩ ?_
    exact Wk.keep 2 rfl rfl (by simp only [go_sem,simprocAttr,↓qT,↓qF]) (by simp only [go_sem,simprocAttr,↓qT,↓qF]) (by rfl)
   | false =>
    simp only [Bool.false_and] at hW
    subst hW
    simp only [Bool.false_eq_true,if_false] at hS
    refine run_sound (Tab.ok_Γ _) 300 _ _ _ _ ?_
    simp (maxSteps:=999999) only [go_sem,simprocAttr,↓qT,↓qF,TUz,frG,frC,slotAtG,capIF,capF,cap_eta,fitG,memF_set H,hr,hz,hJ,w1,w2,w3,w4,w5,w6,hAA,hAT,hsa,hfb,Cap.cl,put,fillP,sub,EVt]
    try intros
    exact hS
  ·have e:W=true:=by rw [<-hW,show n.toNat-j=0 by omega]; rfl
   subst e
   clear hW IH
   simp only [if_true,Cap.mk'] at hS
   have hns0:0<=ns:=by rw [<-hns]; exact Int.mul_nonneg (by omega) (by omega)
   have v1:IntKind.i64.wrap ns=ns:=by rw [wrap64]<;>omega
   have v2:IntKind.i64.wrap (A+ns)=A+ns:=by rw [wrap64]<;>omega
   obtain ⟨Z,hZ⟩:∃ Z,A+ns-(⟨g0,g1,g2,g3,g4,g5,g6,g7,g8,g9,g10⟩:Cap).obj=Z:=⟨_,rfl⟩
   simp only at hZ
   rw [hZ] at hS
   have v3:IntKind.i64.wrap Z=Z:=by rw [wrap64]<;>omega
   refine run_sound (Tab.ok_Γ _) 300 _ _ _ _ ?_
   simp (maxSteps:=999999) only [go_sem,simprocAttr,↓qT,↓qF,TUz,frG,frC,slotAtG,capIF,capF,cap_eta,fitG,memF_set H,hr,hz,hns,v1,v2,v3,hZ,setCap9G,setCap9M,Cap.cl,put,fillP,sub,EVt]
   clear v1 v2 v3
   obtain ⟨W,hW⟩:∃ W,rtL M.rlayX k b' x n.toNat (mm.scX x ⟨g0,g1,g2,Z,g4,g5,g6,g7,g8,g9,g10⟩) A (n1+4*i)=W:=⟨_,rfl⟩
   rw [hW] at hS
   refine loop_rule (α:=Nat×M) [27,28,112,113,114,115,116,117,118,119,120,121,122,123,124,125,126,127,128,129,130,131,132,133,134,135,136,137,138,139,140,141,142] (fun y=>[(27, .s (.i .i64 (y.1:Int)))]) (fun _=>[⟨.rw,Cap.cl ⟨n0,n1,n2,n3,n4,n5,n6,n7,n8,n9,n10⟩,11⟩,⟨.rw,Cap.cl ⟨g0,g1,g2,Z,g4,g5,g6,g7,g8,g9,g10⟩,11⟩]) (fun y=>setM hb a b y.2) (fun y=>(y.1:Int)<=n/\rtL M.rlayX k b' x (n.toNat-y.1) y.2 (A+y.1*s) (n1+4*(i+y.1))=W) (fun y=>n.toNat-y.1) (0,mm.scX x ⟨g0,g1,g2,Z,g4,g5,g6,g7,g8,g9,g10⟩) ⟨by simp only; omega,by rw [<-hW]; simp only [Int.natCast_zero,Int.zero_mul,Int.add_zero,Nat.sub_zero]⟩ ?_ ?_
   ·refine Wk.keep 2 rfl rfl (by simp only [go_sem,simprocAttr,↓qT,↓qF,Int.natCast_zero]) (by simp only [go_sem,simprocAttr,↓qT,↓qF]) (by rfl)
   ·clear hW
    rintro Y ⟨j,m3⟩ ⟨hj,hW⟩ IH
    first|simp only at hj hW ⊢|skip
    by_cases hz:(j:Int)<n
    ·obtain ⟨z,hzz⟩:∃ z,n.toNat-j=z+1:=⟨n.toNat-j-1,by omega⟩
     rw [hzz] at hW
     obtain ⟨b1,b2⟩:=hjs j hz
     obtain ⟨J,hJ⟩:∃ J,(j:Int)*s=J:=⟨_,rfl⟩
     have e1:((j+1:Nat):Int)*s=J+s:=by rw [Int.natCast_add,Int.add_mul,hJ,Int.natCast_one,Int.one_mul]
     rw [hJ] at hW b1 b2
     have w1:IntKind.i64.wrap (i+j)=i+j:=by rw [wrap64]<;>omega
     have w2:IntKind.i64.wrap ((j:Int)+1)=((j+1:Nat):Int):=by rw [wrap64]<;>omega
     have w3:IntKind.i64.wrap (4*(i+j))=4*(i+j):=by rw [wrap64]<;>omega
     have w4:IntKind.i64.wrap (n1+4*(i+j))=n1+4*(i+j):=by rw [wrap64]<;>omega
     have w5:IntKind.i64.wrap J=J:=by rw [wrap64]<;>omega
     have w6:IntKind.i64.wrap (A+J)=A+J:=by rw [wrap64]<;>omega
     have hsa:=hsa (i+j) (by omega) (by omega)
     have e2:n1+4*(i+((j+1:Nat):Int))=n1+4*(i+j)+4:=by omega
     obtain ⟨AT,hAT⟩:∃ q,n1+4*(i+j)=q:=⟨_,rfl⟩
     obtain ⟨AA,hAA⟩:∃ q,A+J=q:=⟨_,rfl⟩
     have e3:A+(J+s)=AA+s:=by omega
     rw [hAT] at hW w4 hsa e2
     rw [hAA] at hW w6
     simp only [rtL,frC,hsv] at hW
     by_cases h3:k=3
     ·subst h3
      simp only [rtK,if_true,Int.reduceEq,or_self,if_false] at hW
      refine run_sound (Tab.ok_Γ _) 300 _ _ _ _ ?_
      simp (maxSteps:=999999) only [go_sem,simprocAttr,↓qT,↓qF,TUz,frG,frC,slotAtG,capIF,capF,cap_eta,fitG,memF_set H,hr,hz,hJ,w1,w2,w3,w4,w5,w6,hAA,hAT,hsa,st9G,st9M,thT_F,rlay9G,lay9M,Cap.cl,put,fillP,sub,EVt]
      refine ⟨thT_up, ?_⟩
      try intros
      refine IH (j+1,_) _ (by simp only; omega) ⟨by simp only; omega,by simp only; rw [e1,e2,e3,show n.toNat-(j+1)=z by omega]; exact hW⟩ ?_
      exact Wk.keep 2 rfl rfl (by simp only [go_sem,simprocAttr,↓qT,↓qF]) (by simp only [go_sem,simprocAttr,↓qT,↓qF]) (by rfl)
     ·simp only [rtK,if_neg h3] at hW
      have h3':(k==3)=false:=by simpa using h3
      refine run_sound (Tab.ok_Γ _) 300 _ _ _ _ ?_
      simp (maxSteps:=999999) only [go_sem,simprocAttr,↓qT,↓qF,TUz,frG,frC,slotAtG,capIF,capF,cap_eta,fitG,memF_set H,hr,hz,hJ,w1,w2,w3,w4,w5,w6,hAA,hAT,hsa,h3',rlay9G,lay9M,Cap.cl,put,fillP,sub,EVt]
      try intros
      refine IH (j+1,_) _ (by simp only; omega) ⟨by simp only; omega,by simp only; rw [e1,e2,e3,show n.toNat-(j+1)=z by omega]; exact hW⟩ ?_
      exact Wk.keep 2 rfl rfl (by simp only [go_sem,simprocAttr,↓qT,↓qF]) (by simp only [go_sem,simprocAttr,↓qT,↓qF]) (by rfl)
    ·have e:W=m3:=by rw [<-hW,show n.toNat-j=0 by omega]; rfl
     subst e
     refine run_sound (Tab.ok_Γ _) 300 _ _ _ _ ?_
     simp (maxSteps:=999999) only [go_sem,simprocAttr,↓qT,↓qF,hz,put,fillP,sub,EVt]
     exact hS
theorem rty_snd:Snd Tryz.prog 21 (FSpec.of rtyG):=(fwp_sound (Tab.snd_Γ TUy_snd) mixed Tryz.func21 dc21).weaken fun args h K hc hS=>by
 obtain ⟨a,b,m,rest,rfl,H,hS1⟩:=memF_spec (f:=rtyM) hS
 refine fwp_of _ (fun _ _=>finP_fin) (cut_at 4 ?_)
 clear hS
 have hS:=hS1
 clear hS1
 unfold rtyM at hS
 split at hS
 ·rename_i x k b' y i n
  obtain ⟨nd,e,hS1⟩:=capF_spec hS
  simp only [List.cons.injEq,and_true] at e
  subst e
  clear hS
  simp only [spec_ob,spec_ok] at hS1
  obtain ⟨hr,hS⟩:=hS1
  obtain ⟨C,hC⟩:∃ C,(m.gV x).cap=C:=⟨_,rfl⟩
  obtain ⟨⟨e1,m2⟩,hq⟩:∃ q,askV (m.gX x) C k b' nd i n=q:=⟨_,rfl⟩
  simp only [rtV,hC,hq] at hS
  obtain ⟨n0,n1,n2,n3,n4,n5,n6,n7,n8,n9,n10⟩:=nd
  obtain ⟨c0,c1,c2,c3,c4,c5,c6,c7,c8,c9,c10⟩:=C
  by_cases he:e1=0
  rotate_left
  ·have he':(e1==0)=false:=by simpa using he
   simp only [he,if_false] at hS
   simp only [df21]
   refine run_sound (Tab.ok_Γ _) 300 _ _ _ _ ?_
   simp (maxSteps:=999999) only [go_sem,simprocAttr,↓qT,↓qF,TUy,cap9G,cap9M,askG,askM,nextG,nextM,capF,cap_eta,memF_eq H,memF_set H,hC,hr,hq,he',bne,Cap.cl,put,fillP,sub,EVt]
   exact hS
  subst he
  simp only [if_true] at hS
  have hok:=ask_ok (m:=m.gX x) (c:=⟨c0,c1,c2,c3,c4,c5,c6,c7,c8,c9,c10⟩) (k:=k) (b:=b') (nd:=⟨n0,n1,n2,n3,n4,n5,n6,n7,n8,n9,n10⟩) (i:=i) (n:=n) (by rw [hq])
  by_cases hnx:m2.nxV x=0
  rotate_left
  ·have hnx':(m2.nxV x==0)=false:=by simpa using hnx
   simp only [hnx,if_false] at hS
   obtain ⟨mm,hmm⟩:∃ q,m2.nxX x=q:=⟨_,rfl⟩
   rw [hmm] at hS
   have key:=rty_end (h:=h) (x:=x) (k:=k) (b':=b') (i:=i) (n:=n) hr hok H  hS
   simp only [df21]
   refine run_sound (Tab.ok_Γ _) 300 _ _ _ _ ?_
   simp (maxSteps:=999999) only [go_sem,simprocAttr,↓qT,↓qF,TUy,cap9G,cap9M,askG,askM,nextG,nextM,capF,cap_eta,memF_eq H,memF_set H,hC,hr,hq,hnx,hnx',hmm,bne,Cap.cl,put,fillP,sub,EVt]
   exact swp_weak (Wk.same rfl rfl (by simp only [go_sem,simprocAttr,↓qT,↓qF,setT])) key
  obtain ⟨⟨m3,u3,e3⟩,hrs⟩:∃ q,rstV (m2.nxX x) x none=q:=⟨_,rfl⟩
  simp only [hnx,if_true,hrs] at hS
  by_cases he3:e3=0
  rotate_left
  ·have he3':(e3==0)=false:=by simpa using he3
   simp only [he3,if_false] at hS
   simp only [df21]
   refine run_sound (Tab.ok_Γ _) 300 _ _ _ _ ?_
   simp (maxSteps:=999999) only [go_sem,simprocAttr,↓qT,↓qF,TUy,cap9G,cap9M,askG,askM,nextG,nextM,capF,cap_eta,memF_eq H,memF_set H,hC,hr,hq,hnx,rstG2,rstM2,hrs,he3',bne,Cap.cl,put,fillP,sub,EVt]
   exact hS
  subst he3
  simp only [if_true] at hS
  obtain ⟨G,hG⟩:∃ G,(m3.gV x).cap=G:=⟨_,rfl⟩
  rw [hG] at hS
  obtain ⟨g0,g1,g2,g3,g4,g5,g6,g7,g8,g9,g10⟩:=G
  obtain ⟨mm,hmm⟩:∃ q,m3.gX x=q:=⟨_,rfl⟩
  rw [hmm] at hS
  have key:=rty_end (h:=h) (x:=x) (k:=k) (b':=b') (i:=i) (n:=n) hr hok H  hS
  simp only [df21]
  refine run_sound (Tab.ok_Γ _) 300 _ _ _ _ ?_
  simp (maxSteps:=999999) only [go_sem,simprocAttr,↓qT,↓qF,TUy,cap9G,cap9M,askG,askM,nextG,nextM,capF,cap_eta,memF_eq H,memF_set H,hC,hr,hq,hnx,rstG2,rstM2,hrs,hG,hmm,bne,Cap.cl,put,fillP,sub,EVt]
  exact swp_weak (Wk.same rfl rfl (by simp only [go_sem,simprocAttr,↓qT,↓qF,setT])) key
 ·rename_i x k b' y i n d
  split at hS
  ·rename_i u hd
   rw [setM_self H] at hd
   obtain ⟨hda,hdb,hdl⟩:=cell_ne H hd
   obtain ⟨nd,e,hS1⟩:=capF_spec hS
   simp only [List.cons.injEq,and_true] at e
   subst e
   clear hS
   simp only [spec_ob,spec_ok] at hS1
   obtain ⟨⟨hr,hi⟩,hS⟩:=hS1
   have hset:∀ m u,(setM h a b m).set d (uB u)=setM (h.set d (uB u)) a b m:=fun m u=>cell_set (m0:=m) hda hdb
   have hself:=set_back hd
   change h.set d (uB u)=h at hself
   have hself':∀ m,setM (h.set d (uB u)) a b m=setM h a b m:=fun m=>by rw [hself]
   have hgd:∀ m,(setM h a b m)[d]?=some (uB u):=fun m=>by
    unfold setM
    rw [List.getElem?_set_ne (Ne.symm hdb),List.getElem?_set_ne (Ne.symm hda)]
    exact hd
   simp only [uB] at hgd
   have hmf:=fun v f m rest=>memF_set (f:=f) (m':=m) (rest:=rest) (H.cell hda hdb v)
   obtain ⟨C,hC⟩:∃ C,(m.gV x).cap=C:=⟨_,rfl⟩
   obtain ⟨⟨e1,m2⟩,hq⟩:∃ q,askV (m.gX x) C k b' nd i n=q:=⟨_,rfl⟩
   simp only [rtV,hC,hq] at hS
   obtain ⟨n0,n1,n2,n3,n4,n5,n6,n7,n8,n9,n10⟩:=nd
   obtain ⟨c0,c1,c2,c3,c4,c5,c6,c7,c8,c9,c10⟩:=C
   by_cases he:e1=0
   rotate_left
   ·have he':(e1==0)=false:=by simpa using he
    simp only [he,if_false,hset,hself',Option.getD_some] at hS
    simp only [df21]
    refine run_sound (Tab.ok_Γ _) 300 _ _ _ _ ?_
    simp (maxSteps:=999999) only [go_sem,simprocAttr,↓qT,↓qF,TUy,cap9G,cap9M,askG,askM,nextG,nextM,capF,cap_eta,memF_eq H,memF_set H,hC,hr,hq,he',bne,Cap.cl,put,fillP,sub,EVt]
    exact hS
   subst he
   simp only [if_true] at hS
   have hok:=ask_ok (m:=m.gX x) (c:=⟨c0,c1,c2,c3,c4,c5,c6,c7,c8,c9,c10⟩) (k:=k) (b:=b') (nd:=⟨n0,n1,n2,n3,n4,n5,n6,n7,n8,n9,n10⟩) (i:=i) (n:=n) (by rw [hq])
   by_cases hnx:m2.nxV x=0
   rotate_left
   ·have hnx':(m2.nxV x==0)=false:=by simpa using hnx
    simp only [hnx,if_false,hset,hself',Option.getD_some] at hS
    obtain ⟨mm,hmm⟩:∃ q,m2.nxX x=q:=⟨_,rfl⟩
    rw [hmm] at hS
    have key:=rty_end (h:=h) (x:=x) (k:=k) (b':=b') (i:=i) (n:=n) hr hok H  hS
    simp only [df21]
    refine run_sound (Tab.ok_Γ _) 300 _ _ _ _ ?_
    simp (maxSteps:=999999) only [go_sem,simprocAttr,↓qT,↓qF,TUy,cap9G,cap9M,askG,askM,nextG,nextM,capF,cap_eta,memF_eq H,memF_set H,hC,hr,hq,hnx,hnx',hmm,bne,Cap.cl,put,fillP,sub,EVt]
    exact swp_weak (Wk.same rfl rfl (by simp only [go_sem,simprocAttr,↓qT,↓qF,setT])) key
   obtain ⟨⟨m3,u3,e3⟩,hrs⟩:∃ q,rstV (m2.nxX x) x (some u)=q:=⟨_,rfl⟩
   simp only [hnx,if_true,hrs,hset,hself',Option.getD_some] at hS
   by_cases he3:e3=0
   rotate_left
   ·have he3':(e3==0)=false:=by simpa using he3
    simp only [he3,if_false] at hS
    simp only [df21]
    refine run_sound (Tab.ok_Γ _) 300 _ _ _ _ ?_
    simp (maxSteps:=999999) only [go_sem,simprocAttr,↓qT,↓qF,TUy,cap9G,cap9M,askG,askM,nextG,nextM,capF,cap_eta,memF_eq H,memF_set H,hC,hr,hq,hnx,rstG2,rstM2,hgd,hset,hi,hrs,he3',bne,Cap.cl,put,fillP,sub,EVt]
    exact hS
   subst he3
   simp only [if_true] at hS
   obtain ⟨G,hG⟩:∃ G,(m3.gV x).cap=G:=⟨_,rfl⟩
   rw [hG] at hS
   obtain ⟨g0,g1,g2,g3,g4,g5,g6,g7,g8,g9,g10⟩:=G
   obtain ⟨mm,hmm⟩:∃ q,m3.gX x=q:=⟨_,rfl⟩
   rw [hmm] at hS
   have key:=rty_end (h:=h) (x:=x) (k:=k) (b':=b') (i:=i) (n:=n) hr hok (H.cell hda hdb (u3.getD 0))  hS
   simp only [df21]
   refine run_sound (Tab.ok_Γ _) 300 _ _ _ _ ?_
   simp (maxSteps:=999999) only [go_sem,simprocAttr,↓qT,↓qF,TUy,cap9G,cap9M,askG,askM,nextG,nextM,capF,cap_eta,memF_eq H,memF_set H,hC,hr,hq,hnx,rstG2,rstM2,hgd,hset,hi,hrs,hG,hmf,hmm,bne,Cap.cl,put,fillP,sub,EVt]
   exact swp_weak (Wk.same rfl rfl (by simp only [go_sem,simprocAttr,↓qT,↓qF,setT])) key
  ·exact hS.elim
 ·exact hS.elim
theorem rrty_snd:Snd Tryz.prog 83 (FSpec.of rrtyG):=(fwp_sound (Tab.snd_Γ TUz_snd) mixed Tryz.func83 dc83).weaken fun args h K hc hS=>by
 obtain ⟨a,b,m,rest,rfl,H,hS1⟩:=memF_spec (f:=rrtyM) hS
 refine fwp_of _ (fun _ _=>finP_fin) (cut_at 6 ?_)
 clear hS
 have hS:=hS1
 clear hS1
 unfold rrtyM at hS
 split at hS
 ·rename_i x k b' y i n d
  split at hS
  ·rename_i u hd
   rw [setM_self H] at hd
   obtain ⟨hda,hdb,hdl⟩:=cell_ne H hd
   obtain ⟨nd,e,hS1⟩:=capF_spec hS
   simp only [List.cons.injEq,and_true] at e
   subst e
   clear hS
   simp only [spec_ob,spec_ok] at hS1
   obtain ⟨⟨hr,hi,hi0⟩,hS⟩:=hS1
   have hset:∀ m u,(setM h a b m).set d (uB u)=setM (h.set d (uB u)) a b m:=fun m u=>cell_set (m0:=m) hda hdb
   have hself:=set_back hd
   change h.set d (uB u)=h at hself
   have hself':∀ m,setM (h.set d (uB u)) a b m=setM h a b m:=fun m=>by rw [hself]
   have hgd:∀ m,(setM h a b m)[d]?=some (uB u):=fun m=>by
    unfold setM
    rw [List.getElem?_set_ne (Ne.symm hdb),List.getElem?_set_ne (Ne.symm hda)]
    exact hd
   simp only [uB] at hgd
   have hmf:=fun v f m rest=>memF_set (f:=f) (m':=m) (rest:=rest) (H.cell hda hdb v)
   obtain ⟨C,hC⟩:∃ C,(m.gV x).cap=C:=⟨_,rfl⟩
   obtain ⟨⟨e1,m2⟩,hq⟩:∃ q,askV (m.gX x) C k b' nd i n=q:=⟨_,rfl⟩
   simp only [rtV,hC,hq] at hS
   obtain ⟨n0,n1,n2,n3,n4,n5,n6,n7,n8,n9,n10⟩:=nd
   obtain ⟨c0,c1,c2,c3,c4,c5,c6,c7,c8,c9,c10⟩:=C
   by_cases he:e1=0
   rotate_left
   ·have he':(e1==0)=false:=by simpa using he
    simp only [he,if_false,hset,hself',Option.getD_some] at hS
    simp only [df83]
    refine run_sound (Tab.ok_Γ _) 300 _ _ _ _ ?_
    simp (maxSteps:=999999) only [go_sem,simprocAttr,↓qT,↓qF,TUz,cap9G,cap9M,askG,askM,nextG,nextM,capF,cap_eta,memF_eq H,memF_set H,hC,hr,hq,he',bne,Cap.cl,put,fillP,sub,EVt]
    exact hS
   subst he
   simp only [if_true] at hS
   have hok:=ask_ok (m:=m.gX x) (c:=⟨c0,c1,c2,c3,c4,c5,c6,c7,c8,c9,c10⟩) (k:=k) (b:=b') (nd:=⟨n0,n1,n2,n3,n4,n5,n6,n7,n8,n9,n10⟩) (i:=i) (n:=n) (by rw [hq])
   by_cases hnx:m2.nxV x=0
   rotate_left
   ·have hnx':(m2.nxV x==0)=false:=by simpa using hnx
    simp only [hnx,if_false,hset,hself',Option.getD_some] at hS
    obtain ⟨mm,hmm⟩:∃ q,m2.nxX x=q:=⟨_,rfl⟩
    rw [hmm] at hS
    have key:=rrty_end (h:=h) (x:=x) (k:=k) (b':=b') (i:=i) (n:=n) hr hok H  hS
    simp only [df83]
    refine run_sound (Tab.ok_Γ _) 300 _ _ _ _ ?_
    simp (maxSteps:=999999) only [go_sem,simprocAttr,↓qT,↓qF,TUz,cap9G,cap9M,askG,askM,nextG,nextM,capF,cap_eta,memF_eq H,memF_set H,hC,hr,hq,hnx,hnx',hmm,bne,Cap.cl,put,fillP,sub,EVt]
    exact swp_weak (Wk.same rfl rfl (by simp only [go_sem,simprocAttr,↓qT,↓qF,setT])) key
   obtain ⟨⟨m3,u3,e3⟩,hrs⟩:∃ q,rstV (m2.nxX x) x (some u)=q:=⟨_,rfl⟩
   simp only [hnx,if_true,hrs,hset,hself',Option.getD_some] at hS
   by_cases he3:e3=0
   rotate_left
   ·have he3':(e3==0)=false:=by simpa using he3
    simp only [he3,if_false] at hS
    simp only [df83]
    refine run_sound (Tab.ok_Γ _) 300 _ _ _ _ ?_
    simp (maxSteps:=999999) only [go_sem,simprocAttr,↓qT,↓qF,TUz,cap9G,cap9M,askG,askM,nextG,nextM,capF,cap_eta,memF_eq H,memF_set H,hC,hr,hq,hnx,rrstG2,rrstM2,hgd,hset,hi,hi0,hrs,he3',bne,Cap.cl,put,fillP,sub,EVt]
    exact hS
   subst he3
   simp only [if_true] at hS
   obtain ⟨G,hG⟩:∃ G,(m3.gV x).cap=G:=⟨_,rfl⟩
   rw [hG] at hS
   obtain ⟨g0,g1,g2,g3,g4,g5,g6,g7,g8,g9,g10⟩:=G
   obtain ⟨mm,hmm⟩:∃ q,m3.gX x=q:=⟨_,rfl⟩
   rw [hmm] at hS
   have key:=rrty_end (h:=h) (x:=x) (k:=k) (b':=b') (i:=i) (n:=n) hr hok (H.cell hda hdb (u3.getD 0))  hS
   simp only [df83]
   refine run_sound (Tab.ok_Γ _) 300 _ _ _ _ ?_
   simp (maxSteps:=999999) only [go_sem,simprocAttr,↓qT,↓qF,TUz,cap9G,cap9M,askG,askM,nextG,nextM,capF,cap_eta,memF_eq H,memF_set H,hC,hr,hq,hnx,rrstG2,rrstM2,hgd,hset,hi,hi0,hrs,hG,hmf,hmm,bne,Cap.cl,put,fillP,sub,EVt]
   exact swp_weak (Wk.same rfl rfl (by simp only [go_sem,simprocAttr,↓qT,↓qF,setT])) key
  ·exact hS.elim
 ·exact hS.elim
end Go.Proofs.YtcdfofeolgbnbaaGreat

