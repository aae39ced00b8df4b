/- Law 15: UntypedApart: what the list's order and the forest tell of two caps. -/
import Derived.Test.YtcdfofeolgbnbaaGreatZ11
import Derived.Test.YtcdfofeolgbnbaaGreatZ33
import Derived.Test.YtcdfofeolgbnbaaGreatZ34
import Derived.Test.YtcdfofeolgbnbaaGreatZ26
import Derived.Test.YtcdfofeolgbnbaaGreatRows
import Derived.Test.YtcdfofeolgbnbaaGreatZ14
import Derived.Test.YtcdfofeolgbnbaaGreatZ15
import Derived.Test.YtcdfofeolgbnbaaGreatZ29
import Derived.Test.YtcdfofeolgbnbaaGreatZ27
/- Law 15: an act by both. -/
namespace Go.Proofs.YtcdfofeolgbnbaaGreat
open Go.D
set_option linter.all false
set_option maxRecDepth 100000
set_option maxHeartbeats 8000000

def u0 (u:Int):Int:=if 0<u then u else 0
noncomputable def act15 (m r:M) (x:Act):Bool×M×M :=
 if x.wh=1 then
  let R:=rtV M.layX m (pieceV x.a) x.b x.c (r.gV (ndA x.rg)).cap x.bd x.g (some x.n)
  let Q:=rtV M.rlayX (r.gX (ndA x.rg)) (pieceV x.a) x.b x.c (r.gV (ndA x.rg)).cap x.bd x.g (some (u0 x.n))
  (R.2.2==Q.2.2&&u0 (R.2.1.getD 0)==Q.2.1.getD 0,R.1,Q.1)
 else if x.wh=2 then
  let R:=rstV m (pieceV x.a) (some x.n)
  let Q:=rstV r (pieceV x.a) (some (u0 x.n))
  (R.2.2==Q.2.2&&u0 (R.2.1.getD 0)==Q.2.1.getD 0,R.1,Q.1)
 else
  let a:=plcV x.a
  if (r.gX a).nxV a≠0\/((r.gV a).cap.ty=2/\a<2060) then (true,m,(r.gX a).nxX a)
  else ((m.rem a).1==(((r.gX a).nxX a).rrem a).1,(m.rem a).2,(((r.gX a).nxX a).rrem a).2)
noncomputable def does15M (m r:M) (st:M->M->List Blk):List V->Res:=actF fun x=>.ob (i64b x.rg/\i64b x.n) (.ok (.s (.b (act15 m r x).1)) [] (st (act15 m r x).2.1 (act15 m r x).2.2))
noncomputable def does15G:=wldF does15M
theorem wH_get (h:List Blk) (m r:M) (X Y:List Blk) (k:Nat):(wH h m r (X++Y))[h.length+5+X.length+k]?=Y[k]?:=by
 rw [<-wH_app,List.getElem?_append_right (by rw [wH_len]; omega),wH_len,Nat.add_sub_cancel_left]
theorem wH_put (h:List Blk) (m r:M) (X Y:List Blk) (k:Nat) (B:Blk):(wH h m r (X++Y)).set (h.length+5+X.length+k) B=wH h m r (X++Y.set k B):=by
 rw [<-wH_app,<-wH_app,List.set_append_right _ _ (by rw [wH_len]; omega),wH_len,Nat.add_sub_cancel_left]
theorem wH_tk (h:List Blk) (m r:M) (X Y:List Blk):(wH h m r (X++Y)).take (h.length+5+X.length)=wH h m r X:=by
 rw [<-wH_app,<-wH_len h m r X,List.take_left]
theorem wH_dr (h:List Blk) (m r:M) (X Y:List Blk):(wH h m r (X++Y)).drop (h.length+5+X.length)=Y:=by
 rw [<-wH_app,<-wH_len h m r X,List.drop_left]
theorem wH_clean2 {h:List Blk} {m r:M} {X:List Blk} (hc:clean (wH h m r X).length (wH h m r X)=true) (m' r':M):clean (h.length+5+X.length) (wH h m' r' X)=true:=by
 have h1:clean (wH h m' r X).length (wH h m' r X)=true:=by
  have k1:=setM_clean (m:=m') (wH_ism h m r X) hc (by rw [wH_len]; omega)
  have k2:setM (wH h m r X) (h.length+2) (h.length+3) m'=wH h m' r X:=setM_2
  rw [k2] at k1
  rw [wH_len] at k1 ⊢
  exact k1
 have h2:=setM_clean (m:=r') (wH_isr h m' r X) h1 (by rw [wH_len]; omega)
 have h3:setM (wH h m' r X) h.length (h.length+1) r'=wH h m' r' X:=setM_1
 rw [h3,wH_len] at h2
 exact h2
noncomputable def TVd:Tab:=addT 22 pieceG (addT 29 node15G (addT 21 rtyG (addT 83 rrtyG (addT 27 rstG2 (addT 84 rrstG2 (addT 39 plcG (addT 66 cap9G (addT 32 nextG (addT 23 remG (addT 57 rremG (noT)))))))))))
theorem TVd_snd:TVd.Snd Tryz.prog:=addT_snd ok22 piece_snd (addT_snd ok29 node15_snd (addT_snd ok21 rty_snd (addT_snd ok83 rrty_snd (addT_snd ok27 rst_snd2 (addT_snd ok84 rrst_snd2 (addT_snd ok39 plc_snd (addT_snd ok66 rcap9_snd (addT_snd ok32 rnext_snd (addT_snd ok23 rem_snd (addT_snd ok57 rrem_snd ((noT_snd _))))))))))))
theorem does15_snd:Snd Tryz.prog 24 (FSpec.of does15G):=snd_run TVd_snd mixed Tryz.func24 dc24 400 fun args H K hc hS=>by
 obtain ⟨h,m,r,X,rest,rfl,rfl,hS1⟩:=wldF_spec hS
 clear hS
 obtain ⟨x,rfl,hS⟩:=actF_spec hS1
 clear hS1
 obtain ⟨wh,a,b,c,rg,bd,g,n⟩:=x
 simp only [spec_ob,spec_ok] at hS
 obtain ⟨⟨hrg,hn⟩,hS⟩:=hS
 have hB:∀ (m r:M) (X:List Blk),(wH h m r X)[h.length+4]?=some ⟨.rw,[.p (.g (h.length+2)) 0, .p (.g h.length) 0],2⟩:=fun m r X=>wH_at h m r X
 have hcc:=wH_clean2 hc
 have hl1:∀ m r B0 B1 B2 B3,(wH h m r (X++[B0,B1,B2,B3]))[h.length+5+X.length+1]?=some B1:=fun m r B0 B1 B2 B3=>wH_get h m r X [B0,B1,B2,B3] 1
 have hl2:∀ m r B0 B1 B2 B3,(wH h m r (X++[B0,B1,B2,B3]))[h.length+5+X.length+2]?=some B2:=fun m r B0 B1 B2 B3=>wH_get h m r X [B0,B1,B2,B3] 2
 have hp1:∀ m r B0 B1 B2 B3 B,(wH h m r (X++[B0,B1,B2,B3])).set (h.length+5+X.length+1) B=wH h m r (X++[B0,B,B2,B3]):=fun m r B0 B1 B2 B3 B=>wH_put h m r X [B0,B1,B2,B3] 1 B
 have hp2:∀ m r B0 B1 B2 B3 B,(wH h m r (X++[B0,B1,B2,B3])).set (h.length+5+X.length+2) B=wH h m r (X++[B0,B1,B,B3]):=fun m r B0 B1 B2 B3 B=>wH_put h m r X [B0,B1,B2,B3] 2 B
 have hn':i64 n:=hn
 have hv:i64 (if 0<n then n else 0):=by unfold i64 at *; split<;>omega
 have hv0:0<=(if 0<n then n else 0):=by split<;>omega
 simp only [act15] at hS
 by_cases k1:wh=1
 ·subst k1
  simp only [if_true] at hS
  have hr:rightB (r.gV (ndA rg)).cap=true:=(slotRB_iff (r.gV_u (ndA rg))).1
  obtain ⟨C,hC⟩:∃ C,(r.gV (ndA rg)).cap=C:=⟨_,rfl⟩
  rw [hC] at hS hr
  obtain ⟨c0,c1,c2,c3,c4,c5,c6,c7,c8,c9,c10⟩:=C
  obtain ⟨R,hR⟩:∃ R,rtV M.layX m (pieceV a) b c ⟨c0,c1,c2,c3,c4,c5,c6,c7,c8,c9,c10⟩ bd g (some n)=R:=⟨_,rfl⟩
  obtain ⟨Q,hQ⟩:∃ R,rtV M.rlayX (r.gX (ndA rg)) (pieceV a) b c ⟨c0,c1,c2,c3,c4,c5,c6,c7,c8,c9,c10⟩ bd g (some (if 0<n then n else 0))=R:=⟨_,rfl⟩
  simp only [u0,hR,hQ] at hS
  obtain ⟨R0,R1,R2⟩:=R
  obtain ⟨Q0,Q1,Q2⟩:=Q
  simp only at hS
  simp (maxSteps:=999999) only [go_sem,simprocAttr,↓qT,↓qF,df24,TVd,pieceG,node15G,nodeM,wldF_eq,hrg,hC,rtyG,rtyM,rrtyG,rrtyM,capF,wH_app,wH_m,wH_r,wH_len,hl1,hl2,hp1,hp2,hcc,wH_tk,wH_dr,R.lend,R.unlend,S_ren,C.ren,V.ren,Blk.ren,Nat.add_sub_cancel_left,Nat.not_lt,Nat.le_add_right,Nat.add_lt_add_iff_left,hB,hr,hn',hv,hv0,hR,hQ,uB,Act.cl,Cap.cl,put,fillP,sub,EVt,List.drop_succ_cons]
  exact ⟨by omega,by omega,hS⟩
 have q1:(wh==1)=false:=by simpa using k1
 rw [if_neg k1] at hS
 by_cases k2:wh=2
 ·subst k2
  simp only [if_true] at hS
  obtain ⟨R,hR⟩:∃ R,rstV m (pieceV a) (some n)=R:=⟨_,rfl⟩
  obtain ⟨Q,hQ⟩:∃ R,rstV r (pieceV a) (some (if 0<n then n else 0))=R:=⟨_,rfl⟩
  simp only [u0,hR,hQ] at hS
  obtain ⟨R0,R1,R2⟩:=R
  obtain ⟨Q0,Q1,Q2⟩:=Q
  simp only at hS
  have hw1:∀ m r B0 B1 B2,(wH h m r (X++[B0,B1,B2]))[h.length+5+X.length+1]?=some B1:=fun m r B0 B1 B2=>wH_get h m r X [B0,B1,B2] 1
  have hw2:∀ m r B0 B1 B2,(wH h m r (X++[B0,B1,B2]))[h.length+5+X.length+2]?=some B2:=fun m r B0 B1 B2=>wH_get h m r X [B0,B1,B2] 2
  have hx1:∀ m r B0 B1 B2 B,(wH h m r (X++[B0,B1,B2])).set (h.length+5+X.length+1) B=wH h m r (X++[B0,B,B2]):=fun m r B0 B1 B2 B=>wH_put h m r X [B0,B1,B2] 1 B
  have hx2:∀ m r B0 B1 B2 B,(wH h m r (X++[B0,B1,B2])).set (h.length+5+X.length+2) B=wH h m r (X++[B0,B1,B]):=fun m r B0 B1 B2 B=>wH_put h m r X [B0,B1,B2] 2 B
  simp (maxSteps:=999999) only [go_sem,simprocAttr,↓qT,↓qF,df24,TVd,pieceG,rstG2,rstM2,rrstG2,rrstM2,wH_app,wH_m,wH_r,wH_len,hl1,hl2,hp1,hp2,hcc,wH_tk,wH_dr,R.lend,R.unlend,S_ren,C.ren,V.ren,Blk.ren,Nat.add_sub_cancel_left,Nat.not_lt,Nat.le_add_right,Nat.add_lt_add_iff_left,hB,hn',hv,hv0,hw1,hw2,hx1,hx2,hR,hQ,uB,Act.cl,Cap.cl,put,fillP,sub,EVt,List.drop_succ_cons]
  exact ⟨by omega,by omega,hS⟩
 have q2:(wh==2)=false:=by simpa using k2
 rw [if_neg k2] at hS
 obtain ⟨A,hA⟩:∃ A,plcV a=A:=⟨_,rfl⟩
 rw [hA] at hS
 obtain ⟨C,hC⟩:∃ C,(r.gV A).cap=C:=⟨_,rfl⟩
 rw [hC] at hS
 obtain ⟨c0,c1,c2,c3,c4,c5,c6,c7,c8,c9,c10⟩:=C
 simp only at hS
 by_cases k3:(r.gX A).nxV A=0
 ·by_cases k4:c0=2
  ·by_cases k5:A<2060
   ·rw [if_pos (.inr ⟨k4,k5⟩)] at hS
    subst k4
    simp (maxSteps:=999999) only [go_sem,simprocAttr,↓qT,↓qF,df24,TVd,pieceG,plcG,hA,nextG,nextM,cap9G,cap9M,hC,k3,k5,q1,q2,wH_m,wH_r,hB,uB,Act.cl,Cap.cl,put,fillP,sub,EVt,List.drop_succ_cons]
    exact hS
   ·rw [if_neg (by simp only [not_or,Decidable.not_not,not_and]; exact ⟨k3,fun _=>k5⟩)] at hS
    subst k4
    simp (maxSteps:=999999) only [go_sem,simprocAttr,↓qT,↓qF,df24,TVd,pieceG,plcG,hA,nextG,nextM,cap9G,cap9M,remG,remM,rremG,rremM,hC,k3,k5,q1,q2,wH_m,wH_r,hB,uB,Act.cl,Cap.cl,put,fillP,sub,EVt,List.drop_succ_cons]
    exact hS
  ·rw [if_neg (by simp only [not_or,Decidable.not_not,not_and]; exact ⟨k3,fun h=>absurd h k4⟩)] at hS
   have k4':(c0==2)=false:=by simpa using k4
   simp (maxSteps:=999999) only [go_sem,simprocAttr,↓qT,↓qF,df24,TVd,pieceG,plcG,hA,nextG,nextM,cap9G,cap9M,remG,remM,rremG,rremM,hC,k3,k4',q1,q2,wH_m,wH_r,hB,uB,Act.cl,Cap.cl,put,fillP,sub,EVt,List.drop_succ_cons]
   exact hS
 ·rw [if_pos (.inl k3)] at hS
  have k3':((r.gX A).nxV A==0)=false:=by simpa using k3
  simp (maxSteps:=999999) only [go_sem,simprocAttr,↓qT,↓qF,df24,TVd,pieceG,plcG,hA,nextG,nextM,cap9G,cap9M,hC,k3',q1,q2,bne,wH_m,wH_r,hB,uB,Act.cl,Cap.cl,put,fillP,sub,EVt,List.drop_succ_cons]
  exact hS
end Go.Proofs.YtcdfofeolgbnbaaGreat

/- Law 15: acts keep what is in order; both do alike. -/
namespace Go.Proofs.YtcdfofeolgbnbaaGreat
open Go.D
set_option linter.all false
set_option maxRecDepth 100000
set_option maxHeartbeats 4000000

theorem u0_id {u:Int} (h:0<=u):u0 u=u:=by unfold u0; split<;>omega
theorem rsW_nn (x:Int):∀ (k:Nat) (m:M) (c:Cap) (u:Int),0<=u->∃ w,0<=w/\(rsW x k m c (some u)).2.1=some w
 | 0,m,c,u,h=>⟨u,h,rfl⟩
 | k+1,m,c,u,h=>by
  simp only [rsW]
  split
  ·exact ⟨u,h,rfl⟩
  ·split
   ·exact ⟨u,h,rfl⟩
   ·exact rsW_nn x k _ _ _ (by omega)
structure Mx (R Q:M×Option Int×Int):Prop where
 m:Q.1=R.1
 e:Q.2.2=R.2.2
 u:∃ w,R.2.1=some w/\Q.2.1=some (u0 w)
theorem rsW_mx (x:Int) (k:Nat) (m:M) (c:Cap) (u:Int):Mx (rsW x k m c (some u)) (rsW x k m c (some (u0 u))):=by
 by_cases h:0<=u
 ·rw [u0_id h]
  obtain ⟨w,h1,h2⟩:=rsW_nn x k m c u h
  exact ⟨rfl,rfl,w,h2,by rw [h2,u0_id h1]⟩
 ·have e0:u0 u=0:=by unfold u0; rw [if_neg (by omega)]
  cases k with
  | zero=>exact ⟨rfl,rfl,u,rfl,rfl⟩
  | succ k =>
   simp only [rsW]
   split
   ·exact ⟨rfl,rfl,u,rfl,rfl⟩
   ·rw [if_pos (by omega),if_pos (by omega)]
    exact ⟨rfl,rfl,u,rfl,rfl⟩
theorem rstV_mx (m:M) (x:Int) (u:Int):Mx (rstV m x (some u)) (rstV m x (some (u0 u))):=by
 unfold rstV
 split
 ·split
  ·exact rsW_mx _ _ _ _ _
  ·exact ⟨rfl,rfl,u,rfl,rfl⟩
 ·exact ⟨rfl,rfl,u,rfl,rfl⟩
theorem rtV_mx (f:M->Int->Int->Cap->M) (m:M) (x k b:Int) (nd:Cap) (i n:Int) (u:Int):Mx (rtV f m x k b nd i n (some u)) (rtV f m x k b nd i n (some (u0 u))):=by
 unfold rtV
 simp only
 split
 ·split
  ·obtain ⟨e1,e2,w,e3,e4⟩:=rstV_mx ((askV (m.gX x) (m.gV x).cap k b nd i n).2.nxX x) x u
   rw [e2]
   split
   ·rw [e1]
    exact ⟨rfl,rfl,w,e3,e4⟩
   ·exact ⟨e1,e2,w,e3,e4⟩
  ·exact ⟨rfl,rfl,u,rfl,rfl⟩
 ·exact ⟨rfl,rfl,u,rfl,rfl⟩

/-! ### the three CNodes -/
def nodeB:Cap:=⟨2,3072,3,0,0,0,0,0,0,0,0⟩
def nodeC:Cap:=⟨2,3104,2,0,1,1,0,0,0,0,0⟩
theorem ndok_root:NdOk rootC:=by
 have e:slotsN rootC=256:=by decide
 refine ⟨by decide,fun _ j h0 h1=>?_⟩
 rw [e] at h1
 show P15 (2048+4*j)
 unfold P15; omega
theorem ndok_B:NdOk nodeB:=by
 have e:slotsN nodeB=8:=by decide
 refine ⟨by decide,fun _ j h0 h1=>?_⟩
 rw [e] at h1
 show P15 (3072+4*j)
 unfold P15; omega
theorem ndok_C:NdOk nodeC:=by
 have e:slotsN nodeC=4:=by decide
 refine ⟨by decide,fun _ j h0 h1=>?_⟩
 rw [e] at h1
 show P15 (3104+4*j)
 unfold P15; omega
structure W15 (m:M) (L:List Int):Prop where
 ut:UT m L
 n0:(m.gV 1024).cap=rootC
 n1:(m.gV 2052).cap=nodeB
 n2:(m.gV 2056).cap=nodeC
section
variable {m r:M} {L:List Int}
theorem W15.of_w {m':M} (W:W15 m L) (e:m'.w=m.w):W15 m' L:=⟨W.ut.of_w e,by rw [gV_w e]; exact W.n0,by rw [gV_w e]; exact W.n1,by rw [gV_w e]; exact W.n2⟩
theorem W15.node (W:W15 m L) {n:Int} (h:i64b n):NdOk (m.gV (ndA n)).cap:=by
 rcases nd_is h with e|e|e<;>rw [e]
 ·rw [W.n0]; exact ndok_root
 ·rw [W.n1]; exact ndok_B
 ·rw [W.n2]; exact ndok_C
def isN (y:Int):Prop:=y=1024\/y=2052\/y=2056
theorem isN.P {y:Int} (h:isN y):P15 y:=by unfold isN at h; unfold P15; omega
theorem W15.ty (W:W15 m L) {y:Int} (h:isN y):(m.gV y).cap.ty=2:=by
 rcases h with e|e|e<;>rw [e]
 ·rw [W.n0]; rfl
 ·rw [W.n1]; rfl
 ·rw [W.n2]; rfl
theorem W15.mem (W:W15 m L) {y:Int} (h:isN y):y∈L:=Decidable.not_not.1 fun q=>by
 have:=(W.ut.ui.em h.P).2 q
 rw [W.ty h] at this
 exact absurd this (by decide)
theorem W15.keep {m':M} {L':List Int} (W:W15 m L) (U:UT m' L') (h:∀ y,isN y->(m'.gV y).cap=(m.gV y).cap):W15 m' L' :=
 ⟨U,by rw [h _ (.inl rfl)]; exact W.n0,by rw [h _ (.inr (.inl rfl))]; exact W.n1,by rw [h _ (.inr (.inr rfl))]; exact W.n2⟩
theorem W15.rst {m':M} (W:W15 m L) {x z:Int} (h1:(m.gV x).cap.ty=1) (R:Rst m m' L x z):W15 m' L :=
 W.keep R.ut fun y hy=>by
  rw [R.V y hy.P,if_neg]
  intro e
  have:=W.ty hy
  rw [e,h1] at this
  exact absurd this (by decide)
theorem W15.rt (W:W15 m L) (hw:r.w=m.w) {x k b i n:Int} {nd:Cap} (hP:P15 x) (N:NdOk nd) (u:Option Int) :
  (rtV M.rlayX r x k b nd i n u).1.w=(rtV M.layX m x k b nd i n u).1.w/\(rtV M.rlayX r x k b nd i n u).2=(rtV M.layX m x k b nd i n u).2/\∃ L',W15 (rtV M.layX m x k b nd i n u).1 L':=by
 obtain ⟨e1,e2,h⟩:=W.ut.rt hw hP N u (k:=k) (b:=b) (i:=i) (n:=n)
 refine ⟨e1,e2, ?_⟩
 rcases h with ⟨_,h|⟨_,h1,_,z,R⟩⟩|⟨_,_,h1,_,ht,i0,i2,he,m0,z,L',R,_,_,_,_,G⟩
 ·exact ⟨L,W.of_w h⟩
 ·exact ⟨L,W.rst h1 R⟩
 ·have W0:=W.rst h1 R
  refine ⟨L',W0.keep G.ut fun y hy=>G.cold y hy.P ?_ fun j hj e=>?_⟩
  ·intro e
   have:=W.ty hy
   rw [e,h1] at this
   exact absurd this (by decide)
  ·have:=he j hj
   rw [<-e] at this
   exact this (W.mem hy)
theorem W15.rs (W:W15 m L) (hw:r.w=m.w) {x:Int} (hP:P15 x) (u:Option Int) :
  (rstV r x u).1.w=(rstV m x u).1.w/\(rstV r x u).2=(rstV m x u).2/\W15 (rstV m x u).1 L:=by
 obtain ⟨e1,e2⟩:=rstV_wc hw x u
 refine ⟨e1,e2, ?_⟩
 rcases W.ut.rst hP u with ⟨_,h⟩|⟨_,h1,_,z,_,_,R,_⟩
 ·exact W.of_w h
 ·exact W.rst h1 R
theorem UT.rem (U:UT m L) (hw:r.w=m.w) {a:Int} (ha:a∈L) (hu:under m.D L a=[]) :
  (m.rem a).1=0/\(r.rrem a).1=0/\(r.rrem a).2.w=(m.rem a).2.w/\∃ L',UT (m.rem a).2 L'/\(∀ y,y∈L'↔y∈L/\y≠a)/\(∀ y,y≠0->((m.rem a).2.gV y).cap=if y=a then capZ else (m.gV y).cap)/\(∀ y,y≠0->y≠a->(m.rem a).2.D y=m.D y) /\
   (∀ y w,y≠a->w≠a->(y∈under (m.rem a).2.D L' w↔y∈under m.D L w))/\∀ j,3120<=j->(m.rem a).2.at j=m.at j:=by
 obtain ⟨L1,L2,e⟩:=List.append_of_mem ha
 obtain ⟨k1,k2,k3,D,T⟩:=U.ui.rem hw e
 have hat:=fun j (hj:3120<=j)=>U.ui.rem_at e hj
 have ed:deep m.gV (m.gV a).depth L2=[]:=by
  have:=U.ui.split e
  rw [hu] at this
  rw [deep_tw]
  exact this.symm
 rw [ed] at T
 refine ⟨k1,k2,k3,L1++L2, ?_⟩
 obtain ⟨m',hm⟩:∃ q,(m.rem a).2=q:=⟨_,rfl⟩
 rw [hm] at D T hat ⊢
 have hnd:=U.ui.inv.nd
 have hmem:∀ y,y∈L1++L2↔y∈L/\y≠a:=fun y=>by
  rw [e] at hnd ⊢
  obtain ⟨n1,n2,n3⟩:=List.nodup_append.1 hnd
  obtain ⟨n4,n5⟩:=List.nodup_cons.1 n2
  simp only [List.mem_append,List.mem_cons]
  constructor
  ·rintro (h|h)
   ·exact ⟨.inl h,fun q=>n3 y h a List.mem_cons_self q⟩
   ·exact ⟨.inr (.inr h),fun q=>n4 (q ▸ h)⟩
  ·rintro ⟨h|h|h,h2⟩
   ·exact .inl h
   ·exact absurd h h2
   ·exact .inr h
 have hcap:∀ y,y≠0->(m'.gV y).cap=if y=a then capZ else (m.gV y).cap:=fun y hy=>by
  rw [T.V y hy]
  unfold M.remV
  split
  ·rfl
  ·rfl
 have hD:∀ y,y≠0->y≠a->m'.D y=m.D y:=fun y hy hya=>by
  rw [rem_D T hy hya,if_neg List.not_mem_nil]
 have hcL:∀ y,y∈L1++L2->(m'.gV y).cap=(m.gV y).cap:=fun y hy=>by
  rw [hcap y (D.l0 hy),if_neg ((hmem y).1 hy).2]
 have hun:∀ y w,y≠a->w≠a->(y∈under m'.D (L1++L2) w↔y∈under m.D L w):=fun y w hy hw'=>by
  have hh:headLe m.D (m.D a) L2:=by
   cases L2 with
   | nil=>exact .inl rfl
   | cons z Z =>
    refine .inr ⟨z,Z,rfl, ?_⟩
    have:=U.ui.split e
    rw [hu,tw_cons] at this
    split at this
    ·cases this
    ·omega
  have hdep:dep m.D (m.D a) ([]++L2):=by
   have hd:=U.ui.dep
   rw [e] at hd
   exact (dep_app.1 hd).2.2
  have hA:∀ w,w∈L1->m'.D w=m.D w:=fun w hw=>by
   have:=(hmem w).1 (List.mem_append_left _ hw)
   exact hD w (U.ui.l0 this.1) this.2
  have hE:∀ w,w∈L2->m'.D w=m.D w:=fun w hw=>by
   have:=(hmem w).1 (List.mem_append_right _ hw)
   exact hD w (U.ui.l0 this.1) this.2
  have:=under_rem (D:=m.D) (D':=m'.D) (a:=a) (Ds:=[]) (E:=L2) hE hh (fun w hw=>(nomatch hw)) hdep (x:=w) (y:=y) hw' hy (A:=L1) hA
  rw [List.nil_append] at this
  rw [this,<-e]
 refine ⟨⟨D,fun y hy=>?_,fun y hy=>?_,fun x y hx=>?_,fun x y hx hy=>?_⟩,hmem,hcap,hD,hun,hat⟩
 ·rw [hcL y hy]; exact U.pc y ((hmem y).1 hy).1
 ·rw [hcL y hy]
  intro h1 j j1 j2
  have:=(U.pcn h1).mark
  have:=U.pc y ((hmem y).1 hy).1 h1
  rw [hat j (by omega)]
  exact U.no y ((hmem y).1 hy).1 h1 j j1 j2
 ·rw [hcL x hx]
  intro h1 hy
  have hyL:=(hmem y).1 (under_sub hy).1
  rw [hun y x hyL.2 ((hmem x).1 hx).2] at hy
  rw [hcL y ((hmem y).2 hyL)]
  exact U.bel x y ((hmem x).1 hx).1 h1 hy
 ·rw [hcL x hx,hcL y hy]
  intro hne n1 n2
  rw [hun _ _ ((hmem y).1 hy).2 ((hmem x).1 hx).2] at n1
  rw [hun _ _ ((hmem x).1 hx).2 ((hmem y).1 hy).2] at n2
  exact U.apt x y ((hmem x).1 hx).1 ((hmem y).1 hy).1 hne n1 n2
theorem UT.under0 (U:UT m L) {x:Int} (hP:P15 x) (h:m.nxV x=0):under m.D L x=[]:=by
 rw [U.ui.nx hP] at h
 cases hh:under m.D L x with
 | nil=>rfl
 | cons y Y =>
  rw [hh] at h
  have:y∈L:=(under_sub (D:=m.D) (x:=x) (by rw [hh]; exact List.mem_cons_self)).1
  exact absurd h (U.ui.l0 this)
theorem beq_refl' (a:Int):(a==a)=true:=by simp
theorem W15.act (W:W15 m L) (hw:r.w=m.w) {x:Act} (ha:i64b x.a) (hrg:i64b x.rg):(act15 m r x).1=true/\(act15 m r x).2.2.w=(act15 m r x).2.1.w/\∃ L',W15 (act15 m r x).2.1 L':=by
 unfold act15
 by_cases k1:x.wh=1
 ·rw [if_pos k1]
  simp only
  have wg:(r.gX (ndA x.rg)).w=m.w:=by rw [gX_w]; exact hw
  have N:=W.node hrg
  rw [gV_w hw]
  obtain ⟨e1,e2,h⟩:=W.rt wg (piece_P ha) N (some x.n) (k:=x.b) (b:=x.c) (i:=x.bd) (n:=x.g)
  obtain ⟨j1,j2,w,j3,j4⟩:=rtV_mx M.rlayX (r.gX (ndA x.rg)) (pieceV x.a) x.b x.c (m.gV (ndA x.rg)).cap x.bd x.g x.n
  rw [e2] at j2 j3
  refine ⟨?_,by rw [j1]; exact e1,h⟩
  rw [j2,j3,j4]
  simp only [Option.getD_some,beq_self_eq_true,Bool.and_self]
 rw [if_neg k1]
 by_cases k2:x.wh=2
 ·rw [if_pos k2]
  simp only
  obtain ⟨e1,e2,h⟩:=W.rs hw (piece_P ha) (some x.n)
  obtain ⟨j1,j2,w,j3,j4⟩:=rstV_mx r (pieceV x.a) x.n
  rw [e2] at j2 j3
  refine ⟨?_,by rw [j1]; exact e1,L,h⟩
  rw [j2,j3,j4]
  simp only [Option.getD_some,beq_self_eq_true,Bool.and_self]
 rw [if_neg k2]
 simp only
 have hP:P15 (plcV x.a):=by
  obtain ⟨k,hk,e⟩:=plc_is ha
  rw [e]
  unfold placeN P15
  split
  ·omega
  ·split<;>omega
 obtain ⟨A,hA⟩:∃ A,plcV x.a=A:=⟨_,rfl⟩
 have hA1:A≠1024:=by
  obtain ⟨k,hk,e⟩:=plc_is ha
  rw [<-hA,e]
  unfold placeN
  split
  ·omega
  ·split<;>omega
 rw [hA] at hP ⊢
 have w1:((r.gX A).nxX A).w=m.w:=by rw [nxX_w,gX_w]; exact hw
 have e0:(r.gX A).nxV A=m.nxV A:=nxV_w (by rw [gX_w]; exact hw) A
 rw [e0,gV_w hw]
 by_cases c:m.nxV A≠0\/((m.gV A).cap.ty=2/\A<2060)
 ·rw [if_pos c]
  exact ⟨rfl,w1,L,W⟩
 ·rw [if_neg c]
  simp only [not_or,Decidable.not_not,not_and] at c
  have hu:=W.ut.under0 hP c.1
  by_cases hAL:A∈L
  ·obtain ⟨k1,k2,k3,L',U,_,hcap,_⟩:=W.ut.rem w1 hAL hu
   refine ⟨by rw [k1,k2]; rfl,k3,L',W.keep U fun y hy=>?_⟩
   rw [hcap y (W.ut.ui.n0 hy.P),if_neg]
   intro e
   have ht:=W.ty hy
   rw [e] at ht
   have:=c.2 ht
   unfold isN at hy
   rcases hy with h|h|h
   ·exact hA1 (e.symm.trans h)
   ·omega
   ·omega
  ·have hf:m.fE A≠0:=fun h=>(fE_zero.1 h).2 ((W.ut.ui.em hP).2 hAL)
   have e1:m.rem A=(m.fE A,m.gX A):=by unfold M.rem; rw [if_neg hf]
   have e2:((r.gX A).nxX A).rrem A=(m.fE A,((r.gX A).nxX A).gX A):=by unfold M.rrem; rw [fE_w w1,if_neg hf]
   rw [e1,e2]
   refine ⟨beq_refl' _, ?_,L,W.of_w (gX_w _ _)⟩
   simp only [gX_w]; exact w1
end
theorem W15_base {m:M} (R:RepU m buT):W15 m buL:=by
 have k:∀ x,x∈buL->(m.gV x).cap=(capT buT x).1:=fun x hx=>by rw [<-R.cap x (by rw [buL_is]; exact hx)]
 exact ⟨R.ut,(k 1024 (by decide)).trans rfl,(k 2052 (by decide)).trans rfl,(k 2056 (by decide)).trans rfl⟩
theorem W15_baseC:W15 baseC5 buL:=W15_base repuC

theorem askS_ok:∀ (k:Nat) {m:M} (a:Int),(∀ j:Nat,j<k->(m.gV (a+4*j)).cap.ty=0)->(askS k m a).1=0
 | 0,m,a,h=>rfl
 | k+1,m,a,h=>by
  have h0:=h 0 (by omega)
  rw [Int.natCast_zero,Int.mul_zero,Int.add_zero] at h0
  simp only [askS]
  rw [if_pos h0]
  refine askS_ok k _ fun j hj=>?_
  rw [gV_w (gX_w _ _),show a+4+4*(j:Int)=a+4*((j+1:Nat):Int) by omega]
  exact h (j+1) (by omega)
theorem rsW_none (x:Int):∀ (k:Nat) (m:M) (c:Cap),(rsW x k m c none).2.2=0
 | 0,m,c=>rfl
 | k+1,m,c=>by
  simp only [rsW]
  split
  ·rfl
  ·exact rsW_none x k _ _
theorem roV_is {c:Cap} {k b n:Int} (h:utB c) (hk:knE k b n=0):(roV c k b n).2=if c.obj+2^c.bits.toNat<upV (c.obj+c.mark) (hszV k b)+n*hszV k b then 151 else 0:=by
 unfold roV
 rw [if_pos h,if_pos hk]
 split<;>rfl
theorem PcN.ut {c:Cap} (h:PcN c) (h1:c.ty=1):utB c:=by
 obtain ⟨b,s,l,o,_,mk,_⟩:=h
 unfold utB
 omega
section
variable {m r:M} {L:List Int}
theorem UT.rtM_code (U:UT m L) {x k b i n:Int} {nd:Cap} (hx:x∈L) (h1:(m.gV x).cap.ty=1) (N:NdOk nd) (ht:nd.ty=2) (i0:0<=i) (i2:n<=slotsN nd-i) (hk:knE k b n=0)
  (he:∀ j:Nat,j<n.toNat->nd.obj+4*i+4*j∉L) :
  (Go.Proofs.YtcdfofeolgbnbaaGreat.rtM M.layX m x k b nd i n (m.gV x).cap).2=if upV ((m.gV x).cap.obj+(m.gV x).cap.mark) (hszV k b)+n*hszV k b<=(m.gV x).cap.obj+szN (m.gV x).cap then 0 else 151:=by
 have hp:=U.pcn h1
 obtain ⟨_,_,_,n1,_,_,_⟩:=kn_sz hk
 have e:=roV_is (hp.ut h1) hk
 rw [<-hp.sz] at e
 rcases (U.rtM (r:=m) rfl hx h1 N ht i0 i2 hk he).2.2 with ⟨g1,_,g3⟩|⟨g1,L',G⟩
 ·rw [g3] at g1 ⊢
  rw [e] at g1 ⊢
  split at g1
  ·rw [if_pos (by assumption),if_neg (by omega)]
  ·exact absurd rfl g1
 ·have:=G.fit.2
  rw [show (n.toNat:Int)=n by omega] at this
  rw [g1,if_pos this]
theorem UT.rt_code (U:UT m L) {x k b i n:Int} {nd:Cap} (hP:P15 x) (hx:x∈L) (h1:(m.gV x).cap.ty=1) (hk:knE k b n=0) (N:NdOk nd) (ht:nd.ty=2) (i0:0<=i) (i2:n<=slotsN nd-i)
  (he:∀ j:Nat,j<n.toNat->nd.obj+4*i+4*j∉L) {z:Int} (hz:(under m.D L x=[]/\z=0)\/(under m.D L x≠[]/\z=(m.gV x).cap.mark)) :
  (rtV M.layX m x k b nd i n none).2.2=if upV ((m.gV x).cap.obj+z) (hszV k b)+n*hszV k b<=(m.gV x).cap.obj+szN (m.gV x).cap then 0 else 151:=by
 obtain ⟨_,_,_,n1,n2,_,_⟩:=kn_sz hk
 have hem:∀ j:Nat,j<n.toNat->((m.gX x).gV (nd.obj+4*i+4*j)).cap.ty=0:=fun j hj=>by
  have hPj:P15 (nd.obj+4*i+4*j):=by
   rw [show nd.obj+4*i+4*(j:Int)=nd.obj+4*(i+j) by omega]
   exact N.p ht _ (by omega) (by omega)
  rw [gV_w (gX_w _ _)]
  exact (U.ui.em hPj).2 (he j hj)
 have hq:(askV (m.gX x) (m.gV x).cap k b nd i n).1=0:=by
  unfold askV
  rw [if_pos h1,if_pos hk,if_pos ⟨ht,i0,by omega,i2⟩]
  exact askS_ok _ _ hem
 have w1:(askV (m.gX x) (m.gV x).cap k b nd i n).2.w=m.w:=by rw [askV_w,gX_w]
 unfold rtV
 simp only
 rw [if_pos hq]
 obtain ⟨q,hq'⟩:∃ q,(askV (m.gX x) (m.gV x).cap k b nd i n).2=q:=⟨_,rfl⟩
 rw [hq'] at w1 ⊢
 rw [nxV_w w1]
 have hnx:=U.ui.nx hP
 rcases hz with ⟨hu,hz⟩|⟨hu,hz⟩
 ·have h0:m.nxV x=0:=by rw [hnx,hu]; rfl
  rw [if_pos h0]
  have w3:(q.nxX x).w=m.w:=by rw [nxX_w]; exact w1
  have U3:=U.of_w w3
  obtain ⟨s,hs⟩:∃ s,rstV (q.nxX x) x none=s:=⟨_,rfl⟩
  have hs0:s.2.2=0:=by
   rw [<-hs]
   unfold rstV
   rw [gV_w w3,if_pos h1,if_pos (by rw [nxV_w (gX_w _ _),nxV_w w3]; exact h0)]
   exact rsW_none _ _ _ _
  have R:=U3.rst hP none
  rw [hs] at R ⊢
  rw [if_pos hs0]
  rcases R with ⟨R,_⟩|⟨_,_,_,z',z0,z1,R,hz0,_⟩
  ·exact absurd hs0 R
  ·have hz0:=hz0 hs0
   subst hz0
   have hVx:=R.V x hP
   rw [if_pos rfl,gV_w w3] at hVx
   have w5:(s.1.gX x).w=s.1.w:=gX_w _ _
   have U5:UT (s.1.gX x) L:=R.ut.of_w w5
   have e5:(s.1.gX x).gV x=s.1.gV x:=gV_w w5 x
   have f:=U5.rtM_code (x:=x) (k:=k) (b:=b) (i:=i) (n:=n) (nd:=nd) hx (by rw [e5,hVx]; exact h1) N ht i0 i2 hk he
   rw [e5] at f
   simp only
   rw [f,hVx,hz]
   rfl
 ·have h0:¬ m.nxV x=0:=fun h=>hu (U.under0 hP h)
  rw [if_neg h0]
  have w3:(q.nxX x).w=m.w:=by rw [nxX_w]; exact w1
  have U3:=U.of_w w3
  have e3:(q.nxX x).gV x=m.gV x:=gV_w w3 x
  have f:=U3.rtM_code (x:=x) (k:=k) (b:=b) (i:=i) (n:=n) (nd:=nd) hx (by rw [e3]; exact h1) N ht i0 i2 hk he
  rw [e3] at f
  simp only
  rw [f,hz]
theorem UT.make (U:UT m L) {x k b i n:Int} {nd:Cap} (hP:P15 x) (hx:x∈L) (h1:(m.gV x).cap.ty=1) (hk:knE k b n=0) (N:NdOk nd) (ht:nd.ty=2) (i0:0<=i) (i2:n<=slotsN nd-i)
  (he:∀ j:Nat,j<n.toNat->nd.obj+4*i+4*j∉L) {z:Int} (hz:(under m.D L x=[]/\z=0)\/(under m.D L x≠[]/\z=(m.gV x).cap.mark))
  (hr:upV ((m.gV x).cap.obj+z) (hszV k b)+n*hszV k b<=(m.gV x).cap.obj+szN (m.gV x).cap) :
  (rtV M.layX m x k b nd i n none).2.2=0/\∃ m0 L',Rst m m0 L x z/\Got m0 (rtV M.layX m x k b nd i n none).1 L L' x k b (upV ((m.gV x).cap.obj+z) (hszV k b)) (nd.obj+4*i) n.toNat:=by
 have hc:=U.rt_code hP hx h1 hk N ht i0 i2 he hz
 rw [if_pos hr] at hc
 refine ⟨hc, ?_⟩
 rcases (U.rt (r:=m) rfl (x:=x) (k:=k) (b:=b) (i:=i) (n:=n) (nd:=nd) hP N none).2.2 with ⟨g,_⟩|⟨_,_,_,_,_,_,_,_,m0,z',L',R,q1,q2,_,_,G⟩
 ·exact absurd hc g
 ·have e:z'=z:=by
   rcases hz with ⟨hu,hz⟩|⟨hu,hz⟩
   ·rw [hz]; exact q1 hu
   ·rw [hz]; exact q2 hu
  subst e
  exact ⟨m0,L',R,G⟩
theorem Got.cx' {m0 m':M} {L':List Int} {x k b A T z:Int} {n:Nat} (G:Got m0 m' L L' x k b A T n) (hP:P15 x) (R:Rst m m0 L x z):(m'.gV x).cap=(m.gV x).cap.mk' (A+n*hszV k b-(m.gV x).cap.obj):=by
 have:=R.V x hP
 rw [if_pos rfl] at this
 rw [G.cx,this]
 rfl
end
/-! ### the chapter's example -/
theorem awf15 {m:M} (R:RepU m buT):∃ (mA mB mC:M) (vA vB vC:Option Int),rtV M.layX m 2108 4 0 rootC 20 2 none=(mA,vA,0)/\rtV M.layX mA 2108 3 0 rootC 22 1 none=(mB,vB,0)/\rtV M.layX mB 2108 2 8 rootC 23 1 none=(mC,vC,151) /\
  mC.gE 2108=0/\(mC.gV 2108).cap.mark=128/\mC.gE 2136=0/\(mC.gV 2136).cap=⟨3,3648,0,0,0,0,0,0,0,0,0⟩/\(rstV mC 2108 none).2.2=152/\(rstV mC 2108 none).1.nxV 2108=2136:=by
 obtain ⟨⟨mA,vA,eA⟩,hA⟩:∃ q,rtV M.layX m 2108 4 0 rootC 20 2 none=q:=⟨_,rfl⟩
 obtain ⟨⟨mB,vB,eB⟩,hB⟩:∃ q,rtV M.layX mA 2108 3 0 rootC 22 1 none=q:=⟨_,rfl⟩
 obtain ⟨⟨mC,vC,eC⟩,hC⟩:∃ q,rtV M.layX mB 2108 2 8 rootC 23 1 none=q:=⟨_,rfl⟩
 have hP:P15 2108:=by decide
 have hx:(2108:Int)∈buL:=by decide
 have U:=(W15_base R).ut
 have c0:(m.gV 2108).cap=⟨1,3584,9,0,0,0,0,0,0,0,0⟩:=by
  have:=R.cap 2108 (by rw [buL_is]; exact hx)
  have h2:(m.gV 2108).cap=(capT buT 2108).1:=by rw [<-this]
  exact h2.trans rfl
 have hu0:under m.D buL 2108=[]:=by
  rw [under_congr (D:=buD) (fun y hy=>by unfold buD; rw [<-R.cap y (by rw [buL_is]; exact hy)])]
  decide
 have o:rootC.obj=2048:=rfl
 have t:rootC.ty=2:=rfl
 obtain ⟨a1,m0,L1,R0,G1⟩:=U.make (k:=4) (b:=0) (i:=20) (n:=2) (nd:=rootC) hP hx (by rw [c0]) (by decide) ndok_root t (by decide) (by decide) (fun j hj=>by
  have:j=0\/j=1:=by have:(2:Int).toNat=2:=rfl; omega
  rw [o]
  rcases this with h|h<;>subst h<;>decide) (z:=0) (.inl ⟨hu0,rfl⟩) (by rw [c0]; decide)
 rw [hA] at a1 G1
 simp only at a1 G1
 have e1:=G1.cx' hP R0
 rw [c0] at e1
 have e1:(mA.gV 2108).cap=⟨1,3584,9,8,0,0,0,0,0,0,0⟩:=e1.trans rfl
 have x1:=G1.old _ hx
 have u1:=(G1.Dn 0 (by decide)).2
 have n1:under mA.D L1 2108≠[]:=fun h=>by rw [h] at u1; cases u1
 have s1:(2136:Int)∉L1:=fun h=>by
  rcases G1.new _ h with h|⟨j,hj,h⟩
  ·exact absurd h (by decide)
  ·have:j=0\/j=1:=by have:(2:Int).toNat=2:=rfl; omega
   rw [o] at h
   rcases this with h2|h2<;>subst h2<;>exact absurd h (by decide)
 obtain ⟨a2,m1,L2,R1,G2⟩:=G1.ut.make (k:=3) (b:=0) (i:=22) (n:=1) (nd:=rootC) hP x1 (by rw [e1]) (by decide) ndok_root t (by decide) (by decide) (fun j hj=>by
  have:j=0:=by have:(1:Int).toNat=1:=rfl; omega
  subst this
  rw [o]
  exact s1) (z:=8) (.inr ⟨n1,by rw [e1]⟩) (by rw [e1]; decide)
 rw [hB] at a2 G2
 simp only at a2 G2
 have e2:=G2.cx' hP R1
 rw [e1] at e2
 have e2:(mB.gV 2108).cap=⟨1,3584,9,128,0,0,0,0,0,0,0⟩:=e2.trans rfl
 have x2:=G2.old _ x1
 have u2:=(G2.Dn 0 (by decide)).2
 have n2:under mB.D L2 2108≠[]:=fun h=>by rw [h] at u2; cases u2
 have t2:=G2.cnew 0 (by decide)
 have hd2:=G2.hd 0 rfl
 rw [o] at t2 hd2
 rw [e1] at t2
 have t2:(mB.gV 2136).cap=⟨3,3648,0,0,0,0,0,0,0,0,0⟩:=by
  have e:(2048+4*22+4*((0:Nat):Int))=2136:=rfl
  rw [e] at t2
  exact t2.trans rfl
 have s2:(2140:Int)∉L2:=fun h=>by
  rcases G2.new _ h with h|⟨j,hj,h⟩
  ·rcases G1.new _ h with h|⟨j,hj,h⟩
   ·exact absurd h (by decide)
   ·have:j=0\/j=1:=by have:(2:Int).toNat=2:=rfl; omega
    rw [o] at h
    rcases this with h2|h2<;>subst h2<;>exact absurd h (by decide)
  ·have:j=0:=by have:(1:Int).toNat=1:=rfl; omega
   subst this
   rw [o] at h
   exact absurd h (by decide)
 have he3:∀ j:Nat,j<(1:Int).toNat->rootC.obj+4*23+4*j∉L2:=fun j hj=>by
  have:j=0:=by have:(1:Int).toNat=1:=rfl; omega
  subst this
  rw [o]
  exact s2
 have a3:=G2.ut.rt_code (k:=2) (b:=8) (i:=23) (n:=1) (nd:=rootC) hP x2 (by rw [e2]) (by decide) ndok_root t (by decide) (by decide) he3 (z:=128) (.inr ⟨n2,by rw [e2]⟩)
 rw [hC,e2,if_neg (by decide)] at a3
 simp only at a3
 have w3:mC.w=mB.w:=by
  rcases (G2.ut.rt (r:=mB) rfl (x:=2108) (k:=2) (b:=8) (i:=23) (n:=1) (nd:=rootC) hP ndok_root none).2.2 with ⟨_,h|⟨_,_,h,_⟩⟩|⟨h,_⟩
  ·rw [hC] at h; exact h
  ·exact absurd h n2
  ·rw [hC] at h
   simp only at h
   rw [a3] at h; exact absurd h (by decide)
 have U3:=G2.ut.of_w w3
 have nx:mC.nxV 2108=2136:=by
  rw [nxV_w w3,G2.ut.ui.nx hP,hd2]; rfl
 have rs:rstV mC 2108 none=((mC.gX 2108).nxX 2108,none,152):=by
  unfold rstV
  rw [gV_w w3,e2]
  rw [if_pos rfl,if_neg (by rw [nxV_w (gX_w _ _),nx]; decide)]
 subst a1 a2 a3
 refine ⟨mA,mB,mC,vA,vB,vC,hA,hB,hC,U3.ui.gE hP,by rw [gV_w w3,e2],U3.ui.gE (by decide),by rw [gV_w w3,t2],by rw [rs], ?_⟩
 rw [rs]
 simp only
 rw [nxV_w (m:=mC) (by rw [nxX_w,gX_w]),nx]
end Go.Proofs.YtcdfofeolgbnbaaGreat

/- Law 15: awake; UntypedPlays: the walk. -/
namespace Go.Proofs.YtcdfofeolgbnbaaGreat
open Go.D
set_option linter.all false
set_option maxRecDepth 100000
set_option maxHeartbeats 8000000

theorem root_base {m:M} (R:RepU m buT):(m.gV 1024).cap=rootC:=(W15_base R).n0
noncomputable def TVw:Tab:=addT 17 basedG5 (addT 20 root9G (addT 22 pieceG (addT 21 rtyG (addT 26 get2G (addT 27 rstG2 (addT 41 nextG (noT)))))))
theorem TVw_snd:TVw.Snd Tryz.prog:=addT_snd ok17 based15_snd (addT_snd ok20 rroot_snd (addT_snd ok22 piece_snd (addT_snd ok21 rty_snd (addT_snd ok26 get2_snd (addT_snd ok27 rst_snd2 (addT_snd ok41 next_snd ((noT_snd _))))))))
theorem awake15_snd:Snd Tryz.prog 14 (FSpec.of awake12G5):=snd_cut TVw_snd mixed Tryz.func14 dc14 400 fun args h K hc hS=>by
 unfold awake12G5 at hS
 split at hS
 ·simp only [spec_ok] at hS
  obtain ⟨mA,mB,mC,vA,vB,vC,hA,hB,hC,f1,f2,f3,f4,f5,f6⟩:=awf15 repuC
  have hr:=root_base repu_base
  obtain ⟨⟨⟨a0,a1,a2,a3,a4,a5,a6,a7,a8,a9,a10⟩,p0,q0,r0⟩,hs⟩:∃ s,mC.gV 2108=s:=⟨_,rfl⟩
  obtain ⟨⟨c,p1,q1,r1⟩,ht⟩:∃ s,mC.gV 2136=s:=⟨_,rfl⟩
  rw [hs] at f2
  rw [ht] at f4
  simp only at f2 f4
  subst f2 f4
  obtain ⟨⟨mD,vD,eD⟩,hd⟩:∃ q,rstV ((mC.gX 2108).gX 2136) 2108 none=q:=⟨_,rfl⟩
  have wD:((mC.gX 2108).gX 2136).w=mC.w:=by rw [gX_w,gX_w]
  obtain ⟨k1,k2⟩:=rstV_wc wD 2108 none
  rw [hd] at k1 k2
  simp only at k1 k2
  rw [<-k2] at f5
  rw [nxV_w k1.symm] at f6
  simp only at f5 f6
  subst f5
  have hmD:=f6
  have hB4:∀ m' Y,(wH h m' baseM Y)[h.length+4]?=some ⟨.rw,[.p (.g (h.length+2)) 0, .p (.g h.length) 0],2⟩:=fun m' Y=>wH_at h m' baseM Y
  have hB5:∀ m' Y,(wH h m' (baseM.gX 1024) Y)[h.length+4]?=some ⟨.rw,[.p (.g (h.length+2)) 0, .p (.g h.length) 0],2⟩:=fun m' Y=>wH_at h m' (baseM.gX 1024) Y
  have hpc:pieceV 0=2108:=rfl
  have hrb:rightB rootC=true:=by decide
  have g3:(mC.gX 2108).gE 2136=0:=by rw [gE_w (gX_w _ _)]; exact f3
  have g4:(mC.gX 2108).gV 2136=_:=(gV_w (gX_w _ _) _).trans ht
  simp only [rootC] at hA hB hC hr hrb
  simp (maxSteps:=999999) only [go_sem,simprocAttr,↓qT,↓qF,df14,TVw,basedG5,root9G,root9M,pieceG,hpc,rtyG,rtyM,capF,hr,hrb,hA,hB,hC,get2G,get2M,f1,hs,g3,g4,rstG2,rstM2,hd,nextG,nextM,hmD,hB4,hB5,wH_m,wH_r,Slot.cl,Cap.cl,put,fillP,sub,EVt,List.drop_succ_cons]
  exact cut_wH5 hc rfl hS
 ·exact hS.elim
def Act.u5 (x:Act):Prop:=i64b x.a/\i64b x.rg/\i64b x.n
end Go.Proofs.YtcdfofeolgbnbaaGreat

/- Law 15: arguments by types. -/
namespace Go.Proofs.YtcdfofeolgbnbaaGreat
open Go.D
set_option linter.all false
set_option maxRecDepth 100000

theorem lawC {h:List Blk} {x:Bool×List TY} {xs:List (Bool×List TY)} {us:List V} (H:hasVs h (x::xs) us):∃ u vs,us=u::vs/\hasV h x u/\hasVs h xs vs:=by
 match us,H with
 | u::vs,H=>exact ⟨u,vs,rfl,H.1,H.2⟩
 | [],H=>exact H.elim
theorem lawN {h:List Blk} {us:List V} (H:hasVs h [] us):us=[]:=by
 match us,H with
 | [],_=>rfl
 | _::_,H=>exact H.elim
theorem i64_b {n:Int} (h:(Lit.int .i64 n).wf=true):i64b n:=by
 have e:(decide ((-9223372036854775808:Int)<=n)&&decide (n<=9223372036854775807))=true:=h
 simp only [Bool.and_eq_true,decide_eq_true_eq] at e
 unfold i64b; omega
def ActT:List TY:=[.int .i64, .int .i64, .int .i64, .int .i64, .int .i64, .int .i64, .int .i64, .int .i64]
theorem hasTs_act {h:List Blk} {ss:List S} (H0:hasTs h ActT ss):∃ o:Act,ss=o.cl/\o.u5:=by
 unfold ActT at H0
 obtain ⟨_,_,rfl,⟨x0,rfl,h0⟩,H1⟩:=hasTs_cons H0
 obtain ⟨_,_,rfl,⟨x1,rfl,h1⟩,H2⟩:=hasTs_cons H1
 obtain ⟨_,_,rfl,⟨x2,rfl,h2⟩,H3⟩:=hasTs_cons H2
 obtain ⟨_,_,rfl,⟨x3,rfl,h3⟩,H4⟩:=hasTs_cons H3
 obtain ⟨_,_,rfl,⟨x4,rfl,h4⟩,H5⟩:=hasTs_cons H4
 obtain ⟨_,_,rfl,⟨x5,rfl,h5⟩,H6⟩:=hasTs_cons H5
 obtain ⟨_,_,rfl,⟨x6,rfl,h6⟩,H7⟩:=hasTs_cons H6
 obtain ⟨_,_,rfl,⟨x7,rfl,h7⟩,H8⟩:=hasTs_cons H7
 obtain rfl:=hasTs_nil H8
 exact ⟨⟨x0,x1,x2,x3,x4,x5,x6,x7⟩,rfl,i64_b h1,i64_b h4,i64_b h7⟩
end Go.Proofs.YtcdfofeolgbnbaaGreat

/- Law 15: UntypedApart: what the list's order and the forest tell of two caps. -/
namespace Go.Proofs.YtcdfofeolgbnbaaGreat
open Go.D
set_option linter.all false
set_option maxRecDepth 100000
set_option maxHeartbeats 4000000

theorem szN_nn {c:Cap} (hr:rightB c=true):0<=szN c:=by
 have:=(right_bounds hr).obj
 by_cases hx:0<=szN c
 ·exact hx
 ·exfalso
  obtain ⟨t,o,b,d,e,g,i,j,k,l,m⟩:=c
  simp only [rightB] at hr
  simp only [szN] at hx
  rcases kinds t with rfl|rfl|rfl|rfl|rfl|rfl|rfl|rfl|rfl|rfl|rfl|rfl|rfl|rfl|⟨k0,k1,k2,k3,k4,k5,k6,k7,k8,k9,k10,k11,k12,k13,hy⟩
  case inr.inr.inr.inr.inr.inr.inr.inr.inr.inr.inr.inr.inr.inr=>simp only [k0,k1,k2,k3,k4,k5,k6,k7,k8,k9,k10,k11,k12,k13,if_false] at hx; exact hx (by decide)
  all_goals simp only [Int.reduceEq,if_true,if_false,ite_t,ite_f,not_or,Classical.not_not,nOk_iff,not_and] at hr hx
  all_goals try exact hx (by decide)
  ·have hb:4<=b/\b<=15:=by have:=hr.1.1; simpa [Classical.not_imp] using this
   have:=uRaw_pos hb; omega
  ·have hb:1<=b/\b<=8:=by have:=hr.1.1; simpa [Classical.not_imp] using this
   have:=nRaw_pos hb; omega
  ·rcases zrange.1 hr.1.1 with rfl|hb
   ·exact hx (by decide)
   ·rw [if_neg (by omega)] at hx; have:=nRaw_pos hb; omega
theorem wN_end {c:Cap} (hr:rightB c=true):wN c=szN c/\0<=szN c/\IntKind.i64.wrap (c.obj+szN c)=c.obj+szN c:=by
 have h0:=szN_nn hr
 have ho:=(right_bounds hr).obj
 refine ⟨by unfold wN; rw [if_pos hr],h0, ?_⟩
 by_cases h:szN c=0
 ·rw [h,wrap64 (by omega) (by omega)]
 ·have:=right_size hr (by omega)
  rw [wrap64 (by omega) (by omega)]
theorem aptP.apart {a b:Cap} (ha:rightB a=true) (hb:rightB b=true) (h:aptP a b) (hn:¬ (a.ty=b.ty/\a.obj=b.obj)):apartB a b=true:=by
 obtain ⟨ea,_,w1⟩:=wN_end ha
 obtain ⟨eb,_,w2⟩:=wN_end hb
 unfold apartB
 simp only [Bool.or_eq_true,decide_eq_true_eq,beq_iff_eq]
 rw [ea,eb,w1,w2]
 unfold aptP at h
 omega
theorem bel_within {a b:Cap} (ha:rightB a=true) (hb:rightB b=true) (h1:0<szN a) (h2:0<szN b) (h3:b.obj<=a.obj) (h4:a.obj+szN a<=b.obj+szN b):withinB a b=true:=by
 obtain ⟨ea,_,w1⟩:=wN_end ha
 obtain ⟨eb,_,w2⟩:=wN_end hb
 unfold withinB
 simp only [Bool.and_eq_true,decide_eq_true_eq]
 rw [ea,eb,w1,w2]
 omega
section
variable {m:M} {L:List Int}
theorem UT.pair (U:UT m L) {k i:Nat} (hk:k<i) (hi:i<L.length) {x y:Int} (hx:nth 0 L k=x) (hy:nth 0 L i=y) :
  (y∉under m.D L x->¬ ((m.gV y).cap.ty=(m.gV x).cap.ty/\(m.gV y).cap.obj=(m.gV x).cap.obj)->apartB (m.gV y).cap (m.gV x).cap=true) /\
  (y∈under m.D L x->(m.gV x).cap.ty=1->withinB (m.gV y).cap (m.gV x).cap=true):=by
 have hxL:x∈L:=by rw [<-hx]; exact nth_mem (by omega)
 have hyL:y∈L:=by rw [<-hy]; exact nth_mem hi
 have e:L=L.take i++y::L.drop (i+1):=by rw [<-hy,nth_eq hi,List.getElem_cons_drop,List.take_append_drop]
 have hn:=U.ui.inv.nd
 have h1:x∈L.take i:=by
  rw [<-hx,nth_eq (by omega)]
  exact List.mem_take_iff_getElem.2 ⟨k,by omega,rfl⟩
 have h2:x≠y/\x∉L.drop (i+1):=by
  rw [e] at hn
  have h3:=(List.nodup_append.1 hn).2.2
  exact ⟨h3 x h1 y List.mem_cons_self,fun h=>h3 x h1 x (List.mem_cons_of_mem _ h) rfl⟩
 have h3:x∉under m.D L y:=fun h=>by
  rw [U.ui.split e] at h
  exact h2.2 (tw_sub h)
 refine ⟨fun h h4=>?_,fun h h4=>?_⟩
 ·exact aptP.apart (U.ui.right y) (U.ui.right x) (U.apt x y hxL hyL h2.1 h h3).comm h4
 ·obtain ⟨b1,b2,b3⟩:=U.bel x y hxL h4 h
  have hm:=(U.pcn h4).mark
  have hl:=(U.pcn h4).lo
  exact bel_within (U.ui.right y) (U.ui.right x) b1 (by omega) b2 (by omega)
end
end Go.Proofs.YtcdfofeolgbnbaaGreat

