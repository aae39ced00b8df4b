/- Law 15: UntypedFull: the walk. -/
import Derived.Test.YtcdfofeolgbnbaaGreatZ11
import Derived.Test.YtcdfofeolgbnbaaGreatZ27
import Derived.Test.YtcdfofeolgbnbaaGreatZ29
import Derived.Test.YtcdfofeolgbnbaaGreatZ24
import Derived.Test.YtcdfofeolgbnbaaGreatRows
import Derived.Test.YtcdfofeolgbnbaaGreatZ14
import Derived.Test.YtcdfofeolgbnbaaGreatZ15
/- Package untyped: Retype: the walk; the document's. -/
namespace Go.Proofs.YtcdfofeolgbnbaaGreat
open Go.D
set_option linter.all false
set_option maxRecDepth 100000
set_option maxHeartbeats 1000000

def rtyM (b:Nat) (m:M) (st:M->List Blk):List V->Res
 | [.s (.i .i64 x), .s (.i .i64 k), .s (.i .i64 b'),y, .s (.i .i64 i), .s (.i .i64 n), .s .np]=>capF (fun nd=>.ob (rightB nd=true) (.ok (.s (.i .i64 (rtV M.layX m x k b' nd i n none).2.2)) [] (st (rtV M.layX m x k b' nd i n none).1))) [y]
 | [.s (.i .i64 x), .s (.i .i64 k), .s (.i .i64 b'),y, .s (.i .i64 i), .s (.i .i64 n), .s (.p (.g d) 0)]=>match (st m)[d]? with
  | some ⟨.rw,[.i .i64 u],1⟩=>capF (fun nd=>.ob (rightB nd=true/\i64 u) (.ok (.s (.i .i64 (rtV M.layX m x k b' nd i n (some u)).2.2)) [] ((st (rtV M.layX m x k b' nd i n (some u)).1).set d (uB ((rtV M.layX m x k b' nd i n (some u)).2.1.getD 0))))) [y]
  | _=>.bad
 | _=>.bad
noncomputable def rtyG:=memF rtyM
noncomputable def TUy:Tab:=addT 67 cap9G (addT 68 askG (addT 41 nextG (addT 27 rstG2 (addT 15 roG (addT 19 hsizeG (addT 70 frG (addT 30 slotAtG (addT 69 fitG (addT 71 setCap9G (addT 72 st9G (addT 73 lay9G (noT))))))))))))
theorem TUy_snd:TUy.Snd Tryz.prog:=addT_snd ok67 cap9_snd (addT_snd ok68 ask_snd (addT_snd ok41 next_snd (addT_snd ok27 rst_snd2 (addT_snd ok15 ro_snd (addT_snd ok19 hsize_snd (addT_snd ok70 fr_snd (addT_snd ok30 slotAt_snd (addT_snd ok69 fit_snd (addT_snd ok71 setCap9_snd (addT_snd ok72 pt_snd (addT_snd ok73 lay9_snd ((noT_snd _)))))))))))))
theorem rtb_of2 {c nd:Cap} {k b i n:Int} (hr:rightB nd=true) (h1:c.ty=1/\knE k b n=0/\nd.ty=2/\0<=i/\i<slotsN nd/\n<=slotsN nd-i) {c':Cap} (h2:(roV c' k b n).2=0):RtB c' nd k b i n (roV c' k b n).1 (hszV k b) (slotsN nd):=by
 obtain ⟨_,hk,ht,i0,i1,i2⟩:=h1
 obtain ⟨hu,_,e,ha⟩:=ro_ok h2
 obtain ⟨s1,s2,_,n1,n2,_,_⟩:=kn_sz hk
 obtain ⟨_,o1,o2,N1,N2,_⟩:=node_b hr ht
 obtain ⟨_,u1,u2,u3,u4,u5,u6⟩:=hu
 obtain ⟨p1,p2,_⟩:=pow_b u5 u6
 obtain ⟨a1,a2,a3⟩:=up_is (x:=c'.obj+c'.mark) s1
 rw [e]
 exact ⟨⟨n1,n2⟩,⟨s1,s2⟩,⟨by omega,by omega⟩,⟨i0,by omega⟩,N2,⟨o1,o2⟩⟩
theorem rty_end {h hb:List Blk} {K:V->List Blk->Prop} {a b:Nat} {m0 mm:M} {x k b' i n n0 n1 n2 n3 n4 n5 n6 n7 n8 n9 n10 g0 g1 g2 g3 g4 g5 g6 g7 g8 g9 g10:Int} {c:Cap} (hr:rightB ⟨n0,n1,n2,n3,n4,n5,n6,n7,n8,n9,n10⟩=true) (hok:c.ty=1/\knE k b' n=0/\Cap.ty ⟨n0,n1,n2,n3,n4,n5,n6,n7,n8,n9,n10⟩=2/\0<=i/\i<slotsN ⟨n0,n1,n2,n3,n4,n5,n6,n7,n8,n9,n10⟩/\n<=slotsN ⟨n0,n1,n2,n3,n4,n5,n6,n7,n8,n9,n10⟩-i) (H:IsMem hb a b m0) (hS:K (.s (.i .i64 (rtM M.layX mm x k b' ⟨n0,n1,n2,n3,n4,n5,n6,n7,n8,n9,n10⟩ i n ⟨g0,g1,g2,g3,g4,g5,g6,g7,g8,g9,g10⟩).2)) (setM hb a b (rtM M.layX mm x k b' ⟨n0,n1,n2,n3,n4,n5,n6,n7,n8,n9,n10⟩ i n ⟨g0,g1,g2,g3,g4,g5,g6,g7,g8,g9,g10⟩).1)) :
  swp TUy.Γ h.length (finP df21.res K) [.c (DC.after 4 df21.body)] ⟨setT [(0, .s (.p (.g a) 0)),(1, .s (.i .i64 x)),(2, .s (.i .i64 k)),(3, .s (.i .i64 b')),(5, .s (.i .i64 i)),(6, .s (.i .i64 n)),(12, .s (.p (.l 0) 0)),(17, .s (.p (.l 1) 0))] (List.replicate 134 (.s .u)),[⟨.rw,Cap.cl ⟨n0,n1,n2,n3,n4,n5,n6,n7,n8,n9,n10⟩,11⟩,⟨.rw,Cap.cl ⟨g0,g1,g2,g3,g4,g5,g6,g7,g8,g9,g10⟩,11⟩],setM hb a b mm⟩:=by
 unfold rtM at hS
 obtain ⟨⟨A,f⟩,hR⟩:∃ q,roV ⟨g0,g1,g2,g3,g4,g5,g6,g7,g8,g9,g10⟩ k b' n=q:=⟨_,rfl⟩
 rw [hR] at hS
 by_cases hf:f=0
 rotate_left
 ·have hf':(f==0)=false:=by simpa using hf
  simp only [hf,if_false] at hS
  simp only [DC.after,df21]
  refine run_sound (Tab.ok_Γ _) 400 _ _ _ _ ?_
  simp (maxSteps:=999999) only [go_sem,simprocAttr,↓qT,↓qF,TUy,roG,capF,cap_eta,hR,hf',bne,setT,Cap.cl,put,fillP,sub,EVt]
  exact hS
 subst hf
 have hB:=rtb_of2 (k:=k) (b:=b') (i:=i) (n:=n) hr hok (c':=⟨g0,g1,g2,g3,g4,g5,g6,g7,g8,g9,g10⟩) (by rw [hR])
 obtain ⟨hut,_,hA1,hA2⟩:=ro_ok (c:=⟨g0,g1,g2,g3,g4,g5,g6,g7,g8,g9,g10⟩) (k:=k) (b:=b') (n:=n) (by rw [hR])
 rw [hR] at hB hA1
 rw [<-hA1] at hA2
 obtain ⟨_,hu1,hu2,hu3,hu4,hu5,hu6⟩:=hut
 obtain ⟨_,_,hse,_⟩:=kn_sz hok.2.1
 obtain ⟨s,hsv⟩:∃ s,hszV k b'=s:=⟨_,rfl⟩
 rw [hsv] at hB hS hA2
 simp only [if_true] at hS
 obtain ⟨hBn,hBs,hBA,hBi,hBN,hBo⟩:=hB
 obtain ⟨ns,hns⟩:∃ ns,n*s=ns:=⟨_,rfl⟩
 rw [hns] at hBA hS
 simp only [DC.after,df21]
 refine run_sound (Tab.ok_Γ _) 400 _ _ _ _ ?_
 simp (maxSteps:=999999) only [go_sem,simprocAttr,↓qT,↓qF,TUy,roG,capF,cap_eta,hR,hsizeG,hsv,hse,bne,setT,Cap.cl,put,fillP,sub,EVt]
 obtain ⟨W,hW⟩:∃ W,rtF k b' n.toNat A (n1+4*i)=W:=⟨_,rfl⟩
 rw [hW] at hS
 obtain ⟨hc1,hk,hn0,i0,i1,i2⟩:=hok
 simp only at hc1 hn0 i1 i2 hBo hu1 hu2 hu3 hu4 hu5 hu6 hA2
 have hjs:∀ j:Nat,(j:Int)<n->0<=(j:Int)*s/\(j:Int)*s+s<=ns:=fun j hj=>by
  refine ⟨Int.mul_nonneg (by omega) (by omega), ?_⟩
  have h1:((j:Int)+1)*s<=n*s:=Int.mul_le_mul_of_nonneg_right (by omega) (by omega)
  rw [Int.add_mul,Int.one_mul] at h1
  omega
 have hsa:=fun q=>slotAt_node (i:=q) hr hn0
 simp only at hsa
 refine loop_rule (α:=Nat) [16,24,73,74,75,76,77,78,79,80,81,82,83,84,85,86,87,88,89,90,91] (fun j=>[(73, .s (.i .i64 (j:Int)))]) (fun _=>[⟨.rw,Cap.cl ⟨n0,n1,n2,n3,n4,n5,n6,n7,n8,n9,n10⟩,11⟩,⟨.rw,Cap.cl ⟨g0,g1,g2,g3,g4,g5,g6,g7,g8,g9,g10⟩,11⟩]) (fun _=>setM hb a b mm) (fun j=>(j:Int)<=n/\rtF k b' (n.toNat-j) (A+j*s) (n1+4*(i+j))=W) (fun j=>n.toNat-j) 0 ⟨by omega,by rw [<-hW]; simp only [Int.natCast_zero,Int.zero_mul,Int.add_zero,Nat.sub_zero]⟩ ?_ ?_
 ·refine Wk.same rfl rfl ?_
  simp (maxSteps:=999999) only [go_sem,simprocAttr,↓qT,↓qF,Int.natCast_zero]
 ·clear hW
  rintro Y j ⟨hj,hW⟩ IH
  first|simp only at hj hW ⊢|skip
  by_cases hz:(j:Int)<n
  ·obtain ⟨z,hzz⟩:∃ z,n.toNat-j=z+1:=⟨n.toNat-j-1,by omega⟩
   rw [hzz] at hW
   obtain ⟨b1,b2⟩:=hjs j hz
   obtain ⟨J,hJ⟩:∃ J,(j:Int)*s=J:=⟨_,rfl⟩
   have e1:((j+1:Nat):Int)*s=J+s:=by rw [Int.natCast_add,Int.add_mul,hJ,Int.natCast_one,Int.one_mul]
   rw [hJ] at hW b1 b2
   have w1:IntKind.i64.wrap (i+j)=i+j:=by rw [wrap64]<;>omega
   have w2:IntKind.i64.wrap ((j:Int)+1)=((j+1:Nat):Int):=by rw [wrap64]<;>omega
   have w3:IntKind.i64.wrap (4*(i+j))=4*(i+j):=by rw [wrap64]<;>omega
   have w4:IntKind.i64.wrap (n1+4*(i+j))=n1+4*(i+j):=by rw [wrap64]<;>omega
   have w5:IntKind.i64.wrap J=J:=by rw [wrap64]<;>omega
   have w6:IntKind.i64.wrap (A+J)=A+J:=by rw [wrap64]<;>omega
   have hsa:=hsa (i+j) (by omega) (by omega)
   have e2:n1+4*(i+((j+1:Nat):Int))=n1+4*(i+j)+4:=by omega
   obtain ⟨AT,hAT⟩:∃ q,n1+4*(i+j)=q:=⟨_,rfl⟩
   obtain ⟨AA,hAA⟩:∃ q,A+J=q:=⟨_,rfl⟩
   have e3:A+(J+s)=AA+s:=by omega
   rw [hAT] at hW w4 hsa e2
   rw [hAA] at hW w6
   simp only [rtF,frC,hsv] at hW
   obtain ⟨fb,hfb⟩:∃ q,fitB ⟨k,AA,if k=1\/k=2 then b' else 0,0,0,0,0,if k=4\/k=5\/k=8 then 7 else 0,0,0,0⟩ AT=q:=⟨_,rfl⟩
   rw [hfb] at hW
   cases fb with
   | true =>
    simp only [Bool.true_and] at hW
    refine run_sound (Tab.ok_Γ _) 300 _ _ _ _ ?_
    simp (maxSteps:=999999) only [go_sem,simprocAttr,↓qT,↓qF,TUy,frG,frC,slotAtG,capIF,capF,cap_eta,fitG,memF_set H,hr,hz,hJ,w1,w2,w3,w4,w5,w6,hAA,hAT,hsa,hfb,Cap.cl,put,fillP,sub,EVt]
    try intros
    refine IH (j+1) _ (by omega) ⟨by omega,by rw [e1,e2,e3,show n.toNat-(j+1)=z by omega]; exact hW⟩ ?_
    exact Wk.keep 2 rfl rfl (by simp only [go_sem,simprocAttr,↓qT,↓qF]) (by simp only [go_sem,simprocAttr,↓qT,↓qF]) (by rfl)
   | false =>
    simp only [Bool.false_and] at hW
    subst hW
    simp only [Bool.false_eq_true,if_false] at hS
    refine run_sound (Tab.ok_Γ _) 300 _ _ _ _ ?_
    simp (maxSteps:=999999) only [go_sem,simprocAttr,↓qT,↓qF,TUy,frG,frC,slotAtG,capIF,capF,cap_eta,fitG,memF_set H,hr,hz,hJ,w1,w2,w3,w4,w5,w6,hAA,hAT,hsa,hfb,Cap.cl,put,fillP,sub,EVt]
    try intros
    exact hS
  ·have e:W=true:=by rw [<-hW,show n.toNat-j=0 by omega]; rfl
   subst e
   clear hW IH
   simp only [if_true,Cap.mk'] at hS
   have hns0:0<=ns:=by rw [<-hns]; exact Int.mul_nonneg (by omega) (by omega)
   have v1:IntKind.i64.wrap ns=ns:=by rw [wrap64]<;>omega
   have v2:IntKind.i64.wrap (A+ns)=A+ns:=by rw [wrap64]<;>omega
   obtain ⟨Z,hZ⟩:∃ Z,A+ns-(⟨g0,g1,g2,g3,g4,g5,g6,g7,g8,g9,g10⟩:Cap).obj=Z:=⟨_,rfl⟩
   simp only at hZ
   rw [hZ] at hS
   have v3:IntKind.i64.wrap Z=Z:=by rw [wrap64]<;>omega
   refine run_sound (Tab.ok_Γ _) 300 _ _ _ _ ?_
   simp (maxSteps:=999999) only [go_sem,simprocAttr,↓qT,↓qF,TUy,frG,frC,slotAtG,capIF,capF,cap_eta,fitG,memF_set H,hr,hz,hns,v1,v2,v3,hZ,setCap9G,setCap9M,Cap.cl,put,fillP,sub,EVt]
   clear v1 v2 v3
   obtain ⟨W,hW⟩:∃ W,rtL M.layX k b' x n.toNat (mm.scX x ⟨g0,g1,g2,Z,g4,g5,g6,g7,g8,g9,g10⟩) A (n1+4*i)=W:=⟨_,rfl⟩
   rw [hW] at hS
   refine loop_rule (α:=Nat×M) [25,26,106,107,108,109,110,111,112,113,114,115,116,117,118,119,120,121,122,123,124,125,126,127,128,129,130,131,132,133] (fun y=>[(106, .s (.i .i64 (y.1:Int)))]) (fun _=>[⟨.rw,Cap.cl ⟨n0,n1,n2,n3,n4,n5,n6,n7,n8,n9,n10⟩,11⟩,⟨.rw,Cap.cl ⟨g0,g1,g2,Z,g4,g5,g6,g7,g8,g9,g10⟩,11⟩]) (fun y=>setM hb a b y.2) (fun y=>(y.1:Int)<=n/\rtL M.layX k b' x (n.toNat-y.1) y.2 (A+y.1*s) (n1+4*(i+y.1))=W) (fun y=>n.toNat-y.1) (0,mm.scX x ⟨g0,g1,g2,Z,g4,g5,g6,g7,g8,g9,g10⟩) ⟨by simp only; omega,by rw [<-hW]; simp only [Int.natCast_zero,Int.zero_mul,Int.add_zero,Nat.sub_zero]⟩ ?_ ?_
   ·refine Wk.keep 2 rfl rfl (by simp only [go_sem,simprocAttr,↓qT,↓qF,Int.natCast_zero]) (by simp only [go_sem,simprocAttr,↓qT,↓qF]) (by rfl)
   ·clear hW
    rintro Y ⟨j,m3⟩ ⟨hj,hW⟩ IH
    first|simp only at hj hW ⊢|skip
    by_cases hz:(j:Int)<n
    ·obtain ⟨z,hzz⟩:∃ z,n.toNat-j=z+1:=⟨n.toNat-j-1,by omega⟩
     rw [hzz] at hW
     obtain ⟨b1,b2⟩:=hjs j hz
     obtain ⟨J,hJ⟩:∃ J,(j:Int)*s=J:=⟨_,rfl⟩
     have e1:((j+1:Nat):Int)*s=J+s:=by rw [Int.natCast_add,Int.add_mul,hJ,Int.natCast_one,Int.one_mul]
     rw [hJ] at hW b1 b2
     have w1:IntKind.i64.wrap (i+j)=i+j:=by rw [wrap64]<;>omega
     have w2:IntKind.i64.wrap ((j:Int)+1)=((j+1:Nat):Int):=by rw [wrap64]<;>omega
     have w3:IntKind.i64.wrap (4*(i+j))=4*(i+j):=by rw [wrap64]<;>omega
     have w4:IntKind.i64.wrap (n1+4*(i+j))=n1+4*(i+j):=by rw [wrap64]<;>omega
     have w5:IntKind.i64.wrap J=J:=by rw [wrap64]<;>omega
     have w6:IntKind.i64.wrap (A+J)=A+J:=by rw [wrap64]<;>omega
     have hsa:=hsa (i+j) (by omega) (by omega)
     have e2:n1+4*(i+((j+1:Nat):Int))=n1+4*(i+j)+4:=by omega
     obtain ⟨AT,hAT⟩:∃ q,n1+4*(i+j)=q:=⟨_,rfl⟩
     obtain ⟨AA,hAA⟩:∃ q,A+J=q:=⟨_,rfl⟩
     have e3:A+(J+s)=AA+s:=by omega
     rw [hAT] at hW w4 hsa e2
     rw [hAA] at hW w6
     simp only [rtL,frC,hsv] at hW
     by_cases h3:k=3
     ·subst h3
      simp only [rtK,if_true,Int.reduceEq,or_self,if_false] at hW
      refine run_sound (Tab.ok_Γ _) 300 _ _ _ _ ?_
      simp (maxSteps:=999999) only [go_sem,simprocAttr,↓qT,↓qF,TUy,frG,frC,slotAtG,capIF,capF,cap_eta,fitG,memF_set H,hr,hz,hJ,w1,w2,w3,w4,w5,w6,hAA,hAT,hsa,st9G,st9M,thT_F,lay9G,lay9M,Cap.cl,put,fillP,sub,EVt]
      refine ⟨thT_up, ?_⟩
      try intros
      refine IH (j+1,_) _ (by simp only; omega) ⟨by simp only; omega,by simp only; rw [e1,e2,e3,show n.toNat-(j+1)=z by omega]; exact hW⟩ ?_
      exact Wk.keep 2 rfl rfl (by simp only [go_sem,simprocAttr,↓qT,↓qF]) (by simp only [go_sem,simprocAttr,↓qT,↓qF]) (by rfl)
     ·simp only [rtK,if_neg h3] at hW
      have h3':(k==3)=false:=by simpa using h3
      refine run_sound (Tab.ok_Γ _) 300 _ _ _ _ ?_
      simp (maxSteps:=999999) only [go_sem,simprocAttr,↓qT,↓qF,TUy,frG,frC,slotAtG,capIF,capF,cap_eta,fitG,memF_set H,hr,hz,hJ,w1,w2,w3,w4,w5,w6,hAA,hAT,hsa,h3',lay9G,lay9M,Cap.cl,put,fillP,sub,EVt]
      try intros
      refine IH (j+1,_) _ (by simp only; omega) ⟨by simp only; omega,by simp only; rw [e1,e2,e3,show n.toNat-(j+1)=z by omega]; exact hW⟩ ?_
      exact Wk.keep 2 rfl rfl (by simp only [go_sem,simprocAttr,↓qT,↓qF]) (by simp only [go_sem,simprocAttr,↓qT,↓qF]) (by rfl)
    ·have e:W=m3:=by rw [<-hW,show n.toNat-j=0 by omega]; rfl
     subst e
     refine run_sound (Tab.ok_Γ _) 300 _ _ _ _ ?_
     simp (maxSteps:=999999) only [go_sem,simprocAttr,↓qT,↓qF,hz,put,fillP,sub,EVt]
     exact hS
theorem rty_snd:Snd Tryz.prog 21 (FSpec.of rtyG):=(fwp_sound (Tab.snd_Γ TUy_snd) mixed Tryz.func21 dc21).weaken fun args h K hc hS=>by
 obtain ⟨a,b,m,rest,rfl,H,hS1⟩:=memF_spec (f:=rtyM) hS
 refine fwp_of _ (fun _ _=>finP_fin) (cut_at 4 ?_)
 clear hS
 have hS:=hS1
 clear hS1
 unfold rtyM at hS
 split at hS
 ·rename_i x k b' y i n
  obtain ⟨nd,e,hS1⟩:=capF_spec hS
  simp only [List.cons.injEq,and_true] at e
  subst e
  clear hS
  simp only [spec_ob,spec_ok] at hS1
  obtain ⟨hr,hS⟩:=hS1
  obtain ⟨C,hC⟩:∃ C,(m.gV x).cap=C:=⟨_,rfl⟩
  obtain ⟨⟨e1,m2⟩,hq⟩:∃ q,askV (m.gX x) C k b' nd i n=q:=⟨_,rfl⟩
  simp only [rtV,hC,hq] at hS
  obtain ⟨n0,n1,n2,n3,n4,n5,n6,n7,n8,n9,n10⟩:=nd
  obtain ⟨c0,c1,c2,c3,c4,c5,c6,c7,c8,c9,c10⟩:=C
  by_cases he:e1=0
  rotate_left
  ·have he':(e1==0)=false:=by simpa using he
   simp only [he,if_false] at hS
   simp only [df21]
   refine run_sound (Tab.ok_Γ _) 300 _ _ _ _ ?_
   simp (maxSteps:=999999) only [go_sem,simprocAttr,↓qT,↓qF,TUy,cap9G,cap9M,askG,askM,nextG,nextM,capF,cap_eta,memF_eq H,memF_set H,hC,hr,hq,he',bne,Cap.cl,put,fillP,sub,EVt]
   exact hS
  subst he
  simp only [if_true] at hS
  have hok:=ask_ok (m:=m.gX x) (c:=⟨c0,c1,c2,c3,c4,c5,c6,c7,c8,c9,c10⟩) (k:=k) (b:=b') (nd:=⟨n0,n1,n2,n3,n4,n5,n6,n7,n8,n9,n10⟩) (i:=i) (n:=n) (by rw [hq])
  by_cases hnx:m2.nxV x=0
  rotate_left
  ·have hnx':(m2.nxV x==0)=false:=by simpa using hnx
   simp only [hnx,if_false] at hS
   obtain ⟨mm,hmm⟩:∃ q,m2.nxX x=q:=⟨_,rfl⟩
   rw [hmm] at hS
   have key:=rty_end (h:=h) (x:=x) (k:=k) (b':=b') (i:=i) (n:=n) hr hok H  hS
   simp only [df21]
   refine run_sound (Tab.ok_Γ _) 300 _ _ _ _ ?_
   simp (maxSteps:=999999) only [go_sem,simprocAttr,↓qT,↓qF,TUy,cap9G,cap9M,askG,askM,nextG,nextM,capF,cap_eta,memF_eq H,memF_set H,hC,hr,hq,hnx,hnx',hmm,bne,Cap.cl,put,fillP,sub,EVt]
   exact swp_weak (Wk.same rfl rfl (by simp only [go_sem,simprocAttr,↓qT,↓qF,setT])) key
  obtain ⟨⟨m3,u3,e3⟩,hrs⟩:∃ q,rstV (m2.nxX x) x none=q:=⟨_,rfl⟩
  simp only [hnx,if_true,hrs] at hS
  by_cases he3:e3=0
  rotate_left
  ·have he3':(e3==0)=false:=by simpa using he3
   simp only [he3,if_false] at hS
   simp only [df21]
   refine run_sound (Tab.ok_Γ _) 300 _ _ _ _ ?_
   simp (maxSteps:=999999) only [go_sem,simprocAttr,↓qT,↓qF,TUy,cap9G,cap9M,askG,askM,nextG,nextM,capF,cap_eta,memF_eq H,memF_set H,hC,hr,hq,hnx,rstG2,rstM2,hrs,he3',bne,Cap.cl,put,fillP,sub,EVt]
   exact hS
  subst he3
  simp only [if_true] at hS
  obtain ⟨G,hG⟩:∃ G,(m3.gV x).cap=G:=⟨_,rfl⟩
  rw [hG] at hS
  obtain ⟨g0,g1,g2,g3,g4,g5,g6,g7,g8,g9,g10⟩:=G
  obtain ⟨mm,hmm⟩:∃ q,m3.gX x=q:=⟨_,rfl⟩
  rw [hmm] at hS
  have key:=rty_end (h:=h) (x:=x) (k:=k) (b':=b') (i:=i) (n:=n) hr hok H  hS
  simp only [df21]
  refine run_sound (Tab.ok_Γ _) 300 _ _ _ _ ?_
  simp (maxSteps:=999999) only [go_sem,simprocAttr,↓qT,↓qF,TUy,cap9G,cap9M,askG,askM,nextG,nextM,capF,cap_eta,memF_eq H,memF_set H,hC,hr,hq,hnx,rstG2,rstM2,hrs,hG,hmm,bne,Cap.cl,put,fillP,sub,EVt]
  exact swp_weak (Wk.same rfl rfl (by simp only [go_sem,simprocAttr,↓qT,↓qF,setT])) key
 ·rename_i x k b' y i n d
  split at hS
  ·rename_i u hd
   rw [setM_self H] at hd
   obtain ⟨hda,hdb,hdl⟩:=cell_ne H hd
   obtain ⟨nd,e,hS1⟩:=capF_spec hS
   simp only [List.cons.injEq,and_true] at e
   subst e
   clear hS
   simp only [spec_ob,spec_ok] at hS1
   obtain ⟨⟨hr,hi⟩,hS⟩:=hS1
   have hset:∀ m u,(setM h a b m).set d (uB u)=setM (h.set d (uB u)) a b m:=fun m u=>cell_set (m0:=m) hda hdb
   have hself:=set_back hd
   change h.set d (uB u)=h at hself
   have hself':∀ m,setM (h.set d (uB u)) a b m=setM h a b m:=fun m=>by rw [hself]
   have hgd:∀ m,(setM h a b m)[d]?=some (uB u):=fun m=>by
    unfold setM
    rw [List.getElem?_set_ne (Ne.symm hdb),List.getElem?_set_ne (Ne.symm hda)]
    exact hd
   simp only [uB] at hgd
   have hmf:=fun v f m rest=>memF_set (f:=f) (m':=m) (rest:=rest) (H.cell hda hdb v)
   obtain ⟨C,hC⟩:∃ C,(m.gV x).cap=C:=⟨_,rfl⟩
   obtain ⟨⟨e1,m2⟩,hq⟩:∃ q,askV (m.gX x) C k b' nd i n=q:=⟨_,rfl⟩
   simp only [rtV,hC,hq] at hS
   obtain ⟨n0,n1,n2,n3,n4,n5,n6,n7,n8,n9,n10⟩:=nd
   obtain ⟨c0,c1,c2,c3,c4,c5,c6,c7,c8,c9,c10⟩:=C
   by_cases he:e1=0
   rotate_left
   ·have he':(e1==0)=false:=by simpa using he
    simp only [he,if_false,hset,hself',Option.getD_some] at hS
    simp only [df21]
    refine run_sound (Tab.ok_Γ _) 300 _ _ _ _ ?_
    simp (maxSteps:=999999) only [go_sem,simprocAttr,↓qT,↓qF,TUy,cap9G,cap9M,askG,askM,nextG,nextM,capF,cap_eta,memF_eq H,memF_set H,hC,hr,hq,he',bne,Cap.cl,put,fillP,sub,EVt]
    exact hS
   subst he
   simp only [if_true] at hS
   have hok:=ask_ok (m:=m.gX x) (c:=⟨c0,c1,c2,c3,c4,c5,c6,c7,c8,c9,c10⟩) (k:=k) (b:=b') (nd:=⟨n0,n1,n2,n3,n4,n5,n6,n7,n8,n9,n10⟩) (i:=i) (n:=n) (by rw [hq])
   by_cases hnx:m2.nxV x=0
   rotate_left
   ·have hnx':(m2.nxV x==0)=false:=by simpa using hnx
    simp only [hnx,if_false,hset,hself',Option.getD_some] at hS
    obtain ⟨mm,hmm⟩:∃ q,m2.nxX x=q:=⟨_,rfl⟩
    rw [hmm] at hS
    have key:=rty_end (h:=h) (x:=x) (k:=k) (b':=b') (i:=i) (n:=n) hr hok H  hS
    simp only [df21]
    refine run_sound (Tab.ok_Γ _) 300 _ _ _ _ ?_
    simp (maxSteps:=999999) only [go_sem,simprocAttr,↓qT,↓qF,TUy,cap9G,cap9M,askG,askM,nextG,nextM,capF,cap_eta,memF_eq H,memF_set H,hC,hr,hq,hnx,hnx',hmm,bne,Cap.cl,put,fillP,sub,EVt]
    exact swp_weak (Wk.same rfl rfl (by simp only [go_sem,simprocAttr,↓qT,↓qF,setT])) key
   obtain ⟨⟨m3,u3,e3⟩,hrs⟩:∃ q,rstV (m2.nxX x) x (some u)=q:=⟨_,rfl⟩
   simp only [hnx,if_true,hrs,hset,hself',Option.getD_some] at hS
   by_cases he3:e3=0
   rotate_left
   ·have he3':(e3==0)=false:=by simpa using he3
    simp only [he3,if_false] at hS
    simp only [df21]
    refine run_sound (Tab.ok_Γ _) 300 _ _ _ _ ?_
    simp (maxSteps:=999999) only [go_sem,simprocAttr,↓qT,↓qF,TUy,cap9G,cap9M,askG,askM,nextG,nextM,capF,cap_eta,memF_eq H,memF_set H,hC,hr,hq,hnx,rstG2,rstM2,hgd,hset,hi,hrs,he3',bne,Cap.cl,put,fillP,sub,EVt]
    exact hS
   subst he3
   simp only [if_true] at hS
   obtain ⟨G,hG⟩:∃ G,(m3.gV x).cap=G:=⟨_,rfl⟩
   rw [hG] at hS
   obtain ⟨g0,g1,g2,g3,g4,g5,g6,g7,g8,g9,g10⟩:=G
   obtain ⟨mm,hmm⟩:∃ q,m3.gX x=q:=⟨_,rfl⟩
   rw [hmm] at hS
   have key:=rty_end (h:=h) (x:=x) (k:=k) (b':=b') (i:=i) (n:=n) hr hok (H.cell hda hdb (u3.getD 0))  hS
   simp only [df21]
   refine run_sound (Tab.ok_Γ _) 300 _ _ _ _ ?_
   simp (maxSteps:=999999) only [go_sem,simprocAttr,↓qT,↓qF,TUy,cap9G,cap9M,askG,askM,nextG,nextM,capF,cap_eta,memF_eq H,memF_set H,hC,hr,hq,hnx,rstG2,rstM2,hgd,hset,hi,hrs,hG,hmf,hmm,bne,Cap.cl,put,fillP,sub,EVt]
   exact swp_weak (Wk.same rfl rfl (by simp only [go_sem,simprocAttr,↓qT,↓qF,setT])) key
  ·exact hS.elim
 ·exact hS.elim
end Go.Proofs.YtcdfofeolgbnbaaGreat

/- Law 15: an act by both. -/
namespace Go.Proofs.YtcdfofeolgbnbaaGreat
open Go.D
set_option linter.all false
set_option maxRecDepth 100000
set_option maxHeartbeats 8000000

def u0 (u:Int):Int:=if 0<u then u else 0
theorem wH_get (h:List Blk) (m r:M) (X Y:List Blk) (k:Nat):(wH h m r (X++Y))[h.length+5+X.length+k]?=Y[k]?:=by
 rw [<-wH_app,List.getElem?_append_right (by rw [wH_len]; omega),wH_len,Nat.add_sub_cancel_left]
theorem wH_put (h:List Blk) (m r:M) (X Y:List Blk) (k:Nat) (B:Blk):(wH h m r (X++Y)).set (h.length+5+X.length+k) B=wH h m r (X++Y.set k B):=by
 rw [<-wH_app,<-wH_app,List.set_append_right _ _ (by rw [wH_len]; omega),wH_len,Nat.add_sub_cancel_left]
theorem wH_tk (h:List Blk) (m r:M) (X Y:List Blk):(wH h m r (X++Y)).take (h.length+5+X.length)=wH h m r X:=by
 rw [<-wH_app,<-wH_len h m r X,List.take_left]
theorem wH_dr (h:List Blk) (m r:M) (X Y:List Blk):(wH h m r (X++Y)).drop (h.length+5+X.length)=Y:=by
 rw [<-wH_app,<-wH_len h m r X,List.drop_left]
end Go.Proofs.YtcdfofeolgbnbaaGreat

/- Law 15: acts keep what is in order; both do alike. -/
namespace Go.Proofs.YtcdfofeolgbnbaaGreat
open Go.D
set_option linter.all false
set_option maxRecDepth 100000
set_option maxHeartbeats 4000000

/-! ### the three CNodes -/
def nodeB:Cap:=⟨2,3072,3,0,0,0,0,0,0,0,0⟩
def nodeC:Cap:=⟨2,3104,2,0,1,1,0,0,0,0,0⟩
theorem ndok_root:NdOk rootC:=by
 have e:slotsN rootC=256:=by decide
 refine ⟨by decide,fun _ j h0 h1=>?_⟩
 rw [e] at h1
 show P15 (2048+4*j)
 unfold P15; omega
structure W15 (m:M) (L:List Int):Prop where
 ut:UT m L
 n0:(m.gV 1024).cap=rootC
 n1:(m.gV 2052).cap=nodeB
 n2:(m.gV 2056).cap=nodeC
section
variable {m r:M} {L:List Int}
theorem UT.rem (U:UT m L) (hw:r.w=m.w) {a:Int} (ha:a∈L) (hu:under m.D L a=[]) :
  (m.rem a).1=0/\(r.rrem a).1=0/\(r.rrem a).2.w=(m.rem a).2.w/\∃ L',UT (m.rem a).2 L'/\(∀ y,y∈L'↔y∈L/\y≠a)/\(∀ y,y≠0->((m.rem a).2.gV y).cap=if y=a then capZ else (m.gV y).cap)/\(∀ y,y≠0->y≠a->(m.rem a).2.D y=m.D y) /\
   (∀ y w,y≠a->w≠a->(y∈under (m.rem a).2.D L' w↔y∈under m.D L w))/\∀ j,3120<=j->(m.rem a).2.at j=m.at j:=by
 obtain ⟨L1,L2,e⟩:=List.append_of_mem ha
 obtain ⟨k1,k2,k3,D,T⟩:=U.ui.rem hw e
 have hat:=fun j (hj:3120<=j)=>U.ui.rem_at e hj
 have ed:deep m.gV (m.gV a).depth L2=[]:=by
  have:=U.ui.split e
  rw [hu] at this
  rw [deep_tw]
  exact this.symm
 rw [ed] at T
 refine ⟨k1,k2,k3,L1++L2, ?_⟩
 obtain ⟨m',hm⟩:∃ q,(m.rem a).2=q:=⟨_,rfl⟩
 rw [hm] at D T hat ⊢
 have hnd:=U.ui.inv.nd
 have hmem:∀ y,y∈L1++L2↔y∈L/\y≠a:=fun y=>by
  rw [e] at hnd ⊢
  obtain ⟨n1,n2,n3⟩:=List.nodup_append.1 hnd
  obtain ⟨n4,n5⟩:=List.nodup_cons.1 n2
  simp only [List.mem_append,List.mem_cons]
  constructor
  ·rintro (h|h)
   ·exact ⟨.inl h,fun q=>n3 y h a List.mem_cons_self q⟩
   ·exact ⟨.inr (.inr h),fun q=>n4 (q ▸ h)⟩
  ·rintro ⟨h|h|h,h2⟩
   ·exact .inl h
   ·exact absurd h h2
   ·exact .inr h
 have hcap:∀ y,y≠0->(m'.gV y).cap=if y=a then capZ else (m.gV y).cap:=fun y hy=>by
  rw [T.V y hy]
  unfold M.remV
  split
  ·rfl
  ·rfl
 have hD:∀ y,y≠0->y≠a->m'.D y=m.D y:=fun y hy hya=>by
  rw [rem_D T hy hya,if_neg List.not_mem_nil]
 have hcL:∀ y,y∈L1++L2->(m'.gV y).cap=(m.gV y).cap:=fun y hy=>by
  rw [hcap y (D.l0 hy),if_neg ((hmem y).1 hy).2]
 have hun:∀ y w,y≠a->w≠a->(y∈under m'.D (L1++L2) w↔y∈under m.D L w):=fun y w hy hw'=>by
  have hh:headLe m.D (m.D a) L2:=by
   cases L2 with
   | nil=>exact .inl rfl
   | cons z Z =>
    refine .inr ⟨z,Z,rfl, ?_⟩
    have:=U.ui.split e
    rw [hu,tw_cons] at this
    split at this
    ·cases this
    ·omega
  have hdep:dep m.D (m.D a) ([]++L2):=by
   have hd:=U.ui.dep
   rw [e] at hd
   exact (dep_app.1 hd).2.2
  have hA:∀ w,w∈L1->m'.D w=m.D w:=fun w hw=>by
   have:=(hmem w).1 (List.mem_append_left _ hw)
   exact hD w (U.ui.l0 this.1) this.2
  have hE:∀ w,w∈L2->m'.D w=m.D w:=fun w hw=>by
   have:=(hmem w).1 (List.mem_append_right _ hw)
   exact hD w (U.ui.l0 this.1) this.2
  have:=under_rem (D:=m.D) (D':=m'.D) (a:=a) (Ds:=[]) (E:=L2) hE hh (fun w hw=>(nomatch hw)) hdep (x:=w) (y:=y) hw' hy (A:=L1) hA
  rw [List.nil_append] at this
  rw [this,<-e]
 refine ⟨⟨D,fun y hy=>?_,fun y hy=>?_,fun x y hx=>?_,fun x y hx hy=>?_⟩,hmem,hcap,hD,hun,hat⟩
 ·rw [hcL y hy]; exact U.pc y ((hmem y).1 hy).1
 ·rw [hcL y hy]
  intro h1 j j1 j2
  have:=(U.pcn h1).mark
  have:=U.pc y ((hmem y).1 hy).1 h1
  rw [hat j (by omega)]
  exact U.no y ((hmem y).1 hy).1 h1 j j1 j2
 ·rw [hcL x hx]
  intro h1 hy
  have hyL:=(hmem y).1 (under_sub hy).1
  rw [hun y x hyL.2 ((hmem x).1 hx).2] at hy
  rw [hcL y ((hmem y).2 hyL)]
  exact U.bel x y ((hmem x).1 hx).1 h1 hy
 ·rw [hcL x hx,hcL y hy]
  intro hne n1 n2
  rw [hun _ _ ((hmem y).1 hy).2 ((hmem x).1 hx).2] at n1
  rw [hun _ _ ((hmem x).1 hx).2 ((hmem y).1 hy).2] at n2
  exact U.apt x y ((hmem x).1 hx).1 ((hmem y).1 hy).1 hne n1 n2
theorem UT.under0 (U:UT m L) {x:Int} (hP:P15 x) (h:m.nxV x=0):under m.D L x=[]:=by
 rw [U.ui.nx hP] at h
 cases hh:under m.D L x with
 | nil=>rfl
 | cons y Y =>
  rw [hh] at h
  have:y∈L:=(under_sub (D:=m.D) (x:=x) (by rw [hh]; exact List.mem_cons_self)).1
  exact absurd h (U.ui.l0 this)
end
theorem W15_base {m:M} (R:RepU m buT):W15 m buL:=by
 have k:∀ x,x∈buL->(m.gV x).cap=(capT buT x).1:=fun x hx=>by rw [<-R.cap x (by rw [buL_is]; exact hx)]
 exact ⟨R.ut,(k 1024 (by decide)).trans rfl,(k 2052 (by decide)).trans rfl,(k 2056 (by decide)).trans rfl⟩

theorem askS_ok:∀ (k:Nat) {m:M} (a:Int),(∀ j:Nat,j<k->(m.gV (a+4*j)).cap.ty=0)->(askS k m a).1=0
 | 0,m,a,h=>rfl
 | k+1,m,a,h=>by
  have h0:=h 0 (by omega)
  rw [Int.natCast_zero,Int.mul_zero,Int.add_zero] at h0
  simp only [askS]
  rw [if_pos h0]
  refine askS_ok k _ fun j hj=>?_
  rw [gV_w (gX_w _ _),show a+4+4*(j:Int)=a+4*((j+1:Nat):Int) by omega]
  exact h (j+1) (by omega)
theorem rsW_none (x:Int):∀ (k:Nat) (m:M) (c:Cap),(rsW x k m c none).2.2=0
 | 0,m,c=>rfl
 | k+1,m,c=>by
  simp only [rsW]
  split
  ·rfl
  ·exact rsW_none x k _ _
theorem roV_is {c:Cap} {k b n:Int} (h:utB c) (hk:knE k b n=0):(roV c k b n).2=if c.obj+2^c.bits.toNat<upV (c.obj+c.mark) (hszV k b)+n*hszV k b then 151 else 0:=by
 unfold roV
 rw [if_pos h,if_pos hk]
 split<;>rfl
theorem PcN.ut {c:Cap} (h:PcN c) (h1:c.ty=1):utB c:=by
 obtain ⟨b,s,l,o,_,mk,_⟩:=h
 unfold utB
 omega
section
variable {m r:M} {L:List Int}
theorem UT.rtM_code (U:UT m L) {x k b i n:Int} {nd:Cap} (hx:x∈L) (h1:(m.gV x).cap.ty=1) (N:NdOk nd) (ht:nd.ty=2) (i0:0<=i) (i2:n<=slotsN nd-i) (hk:knE k b n=0)
  (he:∀ j:Nat,j<n.toNat->nd.obj+4*i+4*j∉L) :
  (Go.Proofs.YtcdfofeolgbnbaaGreat.rtM M.layX m x k b nd i n (m.gV x).cap).2=if upV ((m.gV x).cap.obj+(m.gV x).cap.mark) (hszV k b)+n*hszV k b<=(m.gV x).cap.obj+szN (m.gV x).cap then 0 else 151:=by
 have hp:=U.pcn h1
 obtain ⟨_,_,_,n1,_,_,_⟩:=kn_sz hk
 have e:=roV_is (hp.ut h1) hk
 rw [<-hp.sz] at e
 rcases (U.rtM (r:=m) rfl hx h1 N ht i0 i2 hk he).2.2 with ⟨g1,_,g3⟩|⟨g1,L',G⟩
 ·rw [g3] at g1 ⊢
  rw [e] at g1 ⊢
  split at g1
  ·rw [if_pos (by assumption),if_neg (by omega)]
  ·exact absurd rfl g1
 ·have:=G.fit.2
  rw [show (n.toNat:Int)=n by omega] at this
  rw [g1,if_pos this]
theorem UT.rt_code (U:UT m L) {x k b i n:Int} {nd:Cap} (hP:P15 x) (hx:x∈L) (h1:(m.gV x).cap.ty=1) (hk:knE k b n=0) (N:NdOk nd) (ht:nd.ty=2) (i0:0<=i) (i2:n<=slotsN nd-i)
  (he:∀ j:Nat,j<n.toNat->nd.obj+4*i+4*j∉L) {z:Int} (hz:(under m.D L x=[]/\z=0)\/(under m.D L x≠[]/\z=(m.gV x).cap.mark)) :
  (rtV M.layX m x k b nd i n none).2.2=if upV ((m.gV x).cap.obj+z) (hszV k b)+n*hszV k b<=(m.gV x).cap.obj+szN (m.gV x).cap then 0 else 151:=by
 obtain ⟨_,_,_,n1,n2,_,_⟩:=kn_sz hk
 have hem:∀ j:Nat,j<n.toNat->((m.gX x).gV (nd.obj+4*i+4*j)).cap.ty=0:=fun j hj=>by
  have hPj:P15 (nd.obj+4*i+4*j):=by
   rw [show nd.obj+4*i+4*(j:Int)=nd.obj+4*(i+j) by omega]
   exact N.p ht _ (by omega) (by omega)
  rw [gV_w (gX_w _ _)]
  exact (U.ui.em hPj).2 (he j hj)
 have hq:(askV (m.gX x) (m.gV x).cap k b nd i n).1=0:=by
  unfold askV
  rw [if_pos h1,if_pos hk,if_pos ⟨ht,i0,by omega,i2⟩]
  exact askS_ok _ _ hem
 have w1:(askV (m.gX x) (m.gV x).cap k b nd i n).2.w=m.w:=by rw [askV_w,gX_w]
 unfold rtV
 simp only
 rw [if_pos hq]
 obtain ⟨q,hq'⟩:∃ q,(askV (m.gX x) (m.gV x).cap k b nd i n).2=q:=⟨_,rfl⟩
 rw [hq'] at w1 ⊢
 rw [nxV_w w1]
 have hnx:=U.ui.nx hP
 rcases hz with ⟨hu,hz⟩|⟨hu,hz⟩
 ·have h0:m.nxV x=0:=by rw [hnx,hu]; rfl
  rw [if_pos h0]
  have w3:(q.nxX x).w=m.w:=by rw [nxX_w]; exact w1
  have U3:=U.of_w w3
  obtain ⟨s,hs⟩:∃ s,rstV (q.nxX x) x none=s:=⟨_,rfl⟩
  have hs0:s.2.2=0:=by
   rw [<-hs]
   unfold rstV
   rw [gV_w w3,if_pos h1,if_pos (by rw [nxV_w (gX_w _ _),nxV_w w3]; exact h0)]
   exact rsW_none _ _ _ _
  have R:=U3.rst hP none
  rw [hs] at R ⊢
  rw [if_pos hs0]
  rcases R with ⟨R,_⟩|⟨_,_,_,z',z0,z1,R,hz0,_⟩
  ·exact absurd hs0 R
  ·have hz0:=hz0 hs0
   subst hz0
   have hVx:=R.V x hP
   rw [if_pos rfl,gV_w w3] at hVx
   have w5:(s.1.gX x).w=s.1.w:=gX_w _ _
   have U5:UT (s.1.gX x) L:=R.ut.of_w w5
   have e5:(s.1.gX x).gV x=s.1.gV x:=gV_w w5 x
   have f:=U5.rtM_code (x:=x) (k:=k) (b:=b) (i:=i) (n:=n) (nd:=nd) hx (by rw [e5,hVx]; exact h1) N ht i0 i2 hk he
   rw [e5] at f
   simp only
   rw [f,hVx,hz]
   rfl
 ·have h0:¬ m.nxV x=0:=fun h=>hu (U.under0 hP h)
  rw [if_neg h0]
  have w3:(q.nxX x).w=m.w:=by rw [nxX_w]; exact w1
  have U3:=U.of_w w3
  have e3:(q.nxX x).gV x=m.gV x:=gV_w w3 x
  have f:=U3.rtM_code (x:=x) (k:=k) (b:=b) (i:=i) (n:=n) (nd:=nd) hx (by rw [e3]; exact h1) N ht i0 i2 hk he
  rw [e3] at f
  simp only
  rw [f,hz]
theorem UT.make (U:UT m L) {x k b i n:Int} {nd:Cap} (hP:P15 x) (hx:x∈L) (h1:(m.gV x).cap.ty=1) (hk:knE k b n=0) (N:NdOk nd) (ht:nd.ty=2) (i0:0<=i) (i2:n<=slotsN nd-i)
  (he:∀ j:Nat,j<n.toNat->nd.obj+4*i+4*j∉L) {z:Int} (hz:(under m.D L x=[]/\z=0)\/(under m.D L x≠[]/\z=(m.gV x).cap.mark))
  (hr:upV ((m.gV x).cap.obj+z) (hszV k b)+n*hszV k b<=(m.gV x).cap.obj+szN (m.gV x).cap) :
  (rtV M.layX m x k b nd i n none).2.2=0/\∃ m0 L',Rst m m0 L x z/\Got m0 (rtV M.layX m x k b nd i n none).1 L L' x k b (upV ((m.gV x).cap.obj+z) (hszV k b)) (nd.obj+4*i) n.toNat:=by
 have hc:=U.rt_code hP hx h1 hk N ht i0 i2 he hz
 rw [if_pos hr] at hc
 refine ⟨hc, ?_⟩
 rcases (U.rt (r:=m) rfl (x:=x) (k:=k) (b:=b) (i:=i) (n:=n) (nd:=nd) hP N none).2.2 with ⟨g,_⟩|⟨_,_,_,_,_,_,_,_,m0,z',L',R,q1,q2,_,_,G⟩
 ·exact absurd hc g
 ·have e:z'=z:=by
   rcases hz with ⟨hu,hz⟩|⟨hu,hz⟩
   ·rw [hz]; exact q1 hu
   ·rw [hz]; exact q2 hu
  subst e
  exact ⟨m0,L',R,G⟩
theorem Got.cx' {m0 m':M} {L':List Int} {x k b A T z:Int} {n:Nat} (G:Got m0 m' L L' x k b A T n) (hP:P15 x) (R:Rst m m0 L x z):(m'.gV x).cap=(m.gV x).cap.mk' (A+n*hszV k b-(m.gV x).cap.obj):=by
 have:=R.V x hP
 rw [if_pos rfl] at this
 rw [G.cx,this]
 rfl
end
/-! ### the chapter's example -/
theorem slots_root:slotsN rootC=256:=by decide
theorem awf15 {m:M} (R:RepU m buT):∃ (mA mB mC:M) (vA vB vC:Option Int),rtV M.layX m 2108 4 0 rootC 20 2 none=(mA,vA,0)/\rtV M.layX mA 2108 3 0 rootC 22 1 none=(mB,vB,0)/\rtV M.layX mB 2108 2 8 rootC 23 1 none=(mC,vC,151) /\
  mC.gE 2108=0/\(mC.gV 2108).cap.mark=128/\mC.gE 2136=0/\(mC.gV 2136).cap=⟨3,3648,0,0,0,0,0,0,0,0,0⟩/\(rstV mC 2108 none).2.2=152/\(rstV mC 2108 none).1.nxV 2108=2136:=by
 obtain ⟨⟨mA,vA,eA⟩,hA⟩:∃ q,rtV M.layX m 2108 4 0 rootC 20 2 none=q:=⟨_,rfl⟩
 obtain ⟨⟨mB,vB,eB⟩,hB⟩:∃ q,rtV M.layX mA 2108 3 0 rootC 22 1 none=q:=⟨_,rfl⟩
 obtain ⟨⟨mC,vC,eC⟩,hC⟩:∃ q,rtV M.layX mB 2108 2 8 rootC 23 1 none=q:=⟨_,rfl⟩
 have hP:P15 2108:=by decide
 have hx:(2108:Int)∈buL:=by decide
 have U:=(W15_base R).ut
 have c0:(m.gV 2108).cap=⟨1,3584,9,0,0,0,0,0,0,0,0⟩:=by
  have:=R.cap 2108 (by rw [buL_is]; exact hx)
  have h2:(m.gV 2108).cap=(capT buT 2108).1:=by rw [<-this]
  exact h2.trans rfl
 have hu0:under m.D buL 2108=[]:=by
  rw [under_congr (D:=buD) (fun y hy=>by unfold buD; rw [<-R.cap y (by rw [buL_is]; exact hy)])]
  decide
 have o:rootC.obj=2048:=rfl
 have t:rootC.ty=2:=rfl
 obtain ⟨a1,m0,L1,R0,G1⟩:=U.make (k:=4) (b:=0) (i:=20) (n:=2) (nd:=rootC) hP hx (by rw [c0]) (by decide) ndok_root t (by decide) (by decide) (fun j hj=>by
  have:j=0\/j=1:=by have:(2:Int).toNat=2:=rfl; omega
  rw [o]
  rcases this with h|h<;>subst h<;>decide) (z:=0) (.inl ⟨hu0,rfl⟩) (by rw [c0]; decide)
 rw [hA] at a1 G1
 simp only at a1 G1
 have e1:=G1.cx' hP R0
 rw [c0] at e1
 have e1:(mA.gV 2108).cap=⟨1,3584,9,8,0,0,0,0,0,0,0⟩:=e1.trans rfl
 have x1:=G1.old _ hx
 have u1:=(G1.Dn 0 (by decide)).2
 have n1:under mA.D L1 2108≠[]:=fun h=>by rw [h] at u1; cases u1
 have s1:(2136:Int)∉L1:=fun h=>by
  rcases G1.new _ h with h|⟨j,hj,h⟩
  ·exact absurd h (by decide)
  ·have:j=0\/j=1:=by have:(2:Int).toNat=2:=rfl; omega
   rw [o] at h
   rcases this with h2|h2<;>subst h2<;>exact absurd h (by decide)
 obtain ⟨a2,m1,L2,R1,G2⟩:=G1.ut.make (k:=3) (b:=0) (i:=22) (n:=1) (nd:=rootC) hP x1 (by rw [e1]) (by decide) ndok_root t (by decide) (by decide) (fun j hj=>by
  have:j=0:=by have:(1:Int).toNat=1:=rfl; omega
  subst this
  rw [o]
  exact s1) (z:=8) (.inr ⟨n1,by rw [e1]⟩) (by rw [e1]; decide)
 rw [hB] at a2 G2
 simp only at a2 G2
 have e2:=G2.cx' hP R1
 rw [e1] at e2
 have e2:(mB.gV 2108).cap=⟨1,3584,9,128,0,0,0,0,0,0,0⟩:=e2.trans rfl
 have x2:=G2.old _ x1
 have u2:=(G2.Dn 0 (by decide)).2
 have n2:under mB.D L2 2108≠[]:=fun h=>by rw [h] at u2; cases u2
 have t2:=G2.cnew 0 (by decide)
 have hd2:=G2.hd 0 rfl
 rw [o] at t2 hd2
 rw [e1] at t2
 have t2:(mB.gV 2136).cap=⟨3,3648,0,0,0,0,0,0,0,0,0⟩:=by
  have e:(2048+4*22+4*((0:Nat):Int))=2136:=rfl
  rw [e] at t2
  exact t2.trans rfl
 have s2:(2140:Int)∉L2:=fun h=>by
  rcases G2.new _ h with h|⟨j,hj,h⟩
  ·rcases G1.new _ h with h|⟨j,hj,h⟩
   ·exact absurd h (by decide)
   ·have:j=0\/j=1:=by have:(2:Int).toNat=2:=rfl; omega
    rw [o] at h
    rcases this with h2|h2<;>subst h2<;>exact absurd h (by decide)
  ·have:j=0:=by have:(1:Int).toNat=1:=rfl; omega
   subst this
   rw [o] at h
   exact absurd h (by decide)
 have he3:∀ j:Nat,j<(1:Int).toNat->rootC.obj+4*23+4*j∉L2:=fun j hj=>by
  have:j=0:=by have:(1:Int).toNat=1:=rfl; omega
  subst this
  rw [o]
  exact s2
 have a3:=G2.ut.rt_code (k:=2) (b:=8) (i:=23) (n:=1) (nd:=rootC) hP x2 (by rw [e2]) (by decide) ndok_root t (by decide) (by decide) he3 (z:=128) (.inr ⟨n2,by rw [e2]⟩)
 rw [hC,e2,if_neg (by decide)] at a3
 simp only at a3
 have w3:mC.w=mB.w:=by
  rcases (G2.ut.rt (r:=mB) rfl (x:=2108) (k:=2) (b:=8) (i:=23) (n:=1) (nd:=rootC) hP ndok_root none).2.2 with ⟨_,h|⟨_,_,h,_⟩⟩|⟨h,_⟩
  ·rw [hC] at h; exact h
  ·exact absurd h n2
  ·rw [hC] at h
   simp only at h
   rw [a3] at h; exact absurd h (by decide)
 have U3:=G2.ut.of_w w3
 have nx:mC.nxV 2108=2136:=by
  rw [nxV_w w3,G2.ut.ui.nx hP,hd2]; rfl
 have rs:rstV mC 2108 none=((mC.gX 2108).nxX 2108,none,152):=by
  unfold rstV
  rw [gV_w w3,e2]
  rw [if_pos rfl,if_neg (by rw [nxV_w (gX_w _ _),nx]; decide)]
 subst a1 a2 a3
 refine ⟨mA,mB,mC,vA,vB,vC,hA,hB,hC,U3.ui.gE hP,by rw [gV_w w3,e2],U3.ui.gE (by decide),by rw [gV_w w3,t2],by rw [rs], ?_⟩
 rw [rs]
 simp only
 rw [nxV_w (m:=mC) (by rw [nxX_w,gX_w]),nx]
end Go.Proofs.YtcdfofeolgbnbaaGreat

/- Law 15: awake; UntypedPlays: the walk. -/
namespace Go.Proofs.YtcdfofeolgbnbaaGreat
open Go.D
set_option linter.all false
set_option maxRecDepth 100000
set_option maxHeartbeats 8000000

theorem root_base {m:M} (R:RepU m buT):(m.gV 1024).cap=rootC:=(W15_base R).n0
noncomputable def TVw:Tab:=addT 17 basedG5 (addT 20 root9G (addT 22 pieceG (addT 21 rtyG (addT 26 get2G (addT 27 rstG2 (addT 41 nextG (noT)))))))
theorem TVw_snd:TVw.Snd Tryz.prog:=addT_snd ok17 based15_snd (addT_snd ok20 rroot_snd (addT_snd ok22 piece_snd (addT_snd ok21 rty_snd (addT_snd ok26 get2_snd (addT_snd ok27 rst_snd2 (addT_snd ok41 next_snd ((noT_snd _))))))))
theorem awake15_snd:Snd Tryz.prog 14 (FSpec.of awake12G5):=snd_cut TVw_snd mixed Tryz.func14 dc14 400 fun args h K hc hS=>by
 unfold awake12G5 at hS
 split at hS
 ·simp only [spec_ok] at hS
  obtain ⟨mA,mB,mC,vA,vB,vC,hA,hB,hC,f1,f2,f3,f4,f5,f6⟩:=awf15 repuC
  have hr:=root_base repu_base
  obtain ⟨⟨⟨a0,a1,a2,a3,a4,a5,a6,a7,a8,a9,a10⟩,p0,q0,r0⟩,hs⟩:∃ s,mC.gV 2108=s:=⟨_,rfl⟩
  obtain ⟨⟨c,p1,q1,r1⟩,ht⟩:∃ s,mC.gV 2136=s:=⟨_,rfl⟩
  rw [hs] at f2
  rw [ht] at f4
  simp only at f2 f4
  subst f2 f4
  obtain ⟨⟨mD,vD,eD⟩,hd⟩:∃ q,rstV ((mC.gX 2108).gX 2136) 2108 none=q:=⟨_,rfl⟩
  have wD:((mC.gX 2108).gX 2136).w=mC.w:=by rw [gX_w,gX_w]
  obtain ⟨k1,k2⟩:=rstV_wc wD 2108 none
  rw [hd] at k1 k2
  simp only at k1 k2
  rw [<-k2] at f5
  rw [nxV_w k1.symm] at f6
  simp only at f5 f6
  subst f5
  have hmD:=f6
  have hB4:∀ m' Y,(wH h m' baseM Y)[h.length+4]?=some ⟨.rw,[.p (.g (h.length+2)) 0, .p (.g h.length) 0],2⟩:=fun m' Y=>wH_at h m' baseM Y
  have hB5:∀ m' Y,(wH h m' (baseM.gX 1024) Y)[h.length+4]?=some ⟨.rw,[.p (.g (h.length+2)) 0, .p (.g h.length) 0],2⟩:=fun m' Y=>wH_at h m' (baseM.gX 1024) Y
  have hpc:pieceV 0=2108:=rfl
  have hrb:rightB rootC=true:=by decide
  have g3:(mC.gX 2108).gE 2136=0:=by rw [gE_w (gX_w _ _)]; exact f3
  have g4:(mC.gX 2108).gV 2136=_:=(gV_w (gX_w _ _) _).trans ht
  simp only [rootC] at hA hB hC hr hrb
  simp (maxSteps:=999999) only [go_sem,simprocAttr,↓qT,↓qF,df14,TVw,basedG5,root9G,root9M,pieceG,hpc,rtyG,rtyM,capF,hr,hrb,hA,hB,hC,get2G,get2M,f1,hs,g3,g4,rstG2,rstM2,hd,nextG,nextM,hmD,hB4,hB5,wH_m,wH_r,Slot.cl,Cap.cl,put,fillP,sub,EVt,List.drop_succ_cons]
  exact cut_wH5 hc rfl hS
 ·exact hS.elim
end Go.Proofs.YtcdfofeolgbnbaaGreat

/- Law 15: arguments by types. -/
namespace Go.Proofs.YtcdfofeolgbnbaaGreat
open Go.D
set_option linter.all false
set_option maxRecDepth 100000

theorem lawC {h:List Blk} {x:Bool×List TY} {xs:List (Bool×List TY)} {us:List V} (H:hasVs h (x::xs) us):∃ u vs,us=u::vs/\hasV h x u/\hasVs h xs vs:=by
 match us,H with
 | u::vs,H=>exact ⟨u,vs,rfl,H.1,H.2⟩
 | [],H=>exact H.elim
theorem lawN {h:List Blk} {us:List V} (H:hasVs h [] us):us=[]:=by
 match us,H with
 | [],_=>rfl
 | _::_,H=>exact H.elim
theorem i64_b {n:Int} (h:(Lit.int .i64 n).wf=true):i64b n:=by
 have e:(decide ((-9223372036854775808:Int)<=n)&&decide (n<=9223372036854775807))=true:=h
 simp only [Bool.and_eq_true,decide_eq_true_eq] at e
 unfold i64b; omega
end Go.Proofs.YtcdfofeolgbnbaaGreat

/- Law 15: UntypedFull: a piece gives as many things as go into it. -/
namespace Go.Proofs.YtcdfofeolgbnbaaGreat
open Go.D
set_option linter.all false
set_option maxRecDepth 100000
set_option maxHeartbeats 4000000

theorem hsz6 {k:Int} (h:3<=k/\k<=8):(hszV k 0=4\/hszV k 0=8\/hszV k 0=16\/hszV k 0=64)/\hszE k 0=0/\∀ n,1<=n->n<=16->knE k 0 n=0:=by
 have hk:k=3\/k=4\/k=5\/k=6\/k=7\/k=8:=by omega
 refine ⟨?_, ?_,fun n h1 h2=>?_⟩
 ·rcases hk with e|e|e|e|e|e<;>subst e<;>decide
 ·rcases hk with e|e|e|e|e|e<;>subst e<;>decide
 ·unfold knE
  rw [if_neg (by omega),if_neg (by omega),if_neg (by omega),if_pos rfl]
end Go.Proofs.YtcdfofeolgbnbaaGreat

/- Law 15: UntypedFull: the walk. -/
namespace Go.Proofs.YtcdfofeolgbnbaaGreat
open Go.D
set_option linter.all false
set_option maxRecDepth 100000
set_option maxHeartbeats 8000000

theorem pick_n {n:Int} (h:i64b n) {k:Int} (hk:0<k):0<=pickV n k/\pickV n k<k:=by
 unfold pickV
 unfold i64b at h
 have:0<=(if n<0 then IntKind.i64.wrap (0-IntKind.i64.wrap (n+1)) else n):=by
  split
  ·rw [wrap64 (n:=n+1) (by omega) (by omega),wrap64 (by omega) (by omega)]; omega
  ·omega
 rw [Int.tmod_eq_emod_of_nonneg this]
 exact ⟨Int.emod_nonneg _ (by omega),Int.emod_lt_of_pos _ hk⟩
end Go.Proofs.YtcdfofeolgbnbaaGreat

