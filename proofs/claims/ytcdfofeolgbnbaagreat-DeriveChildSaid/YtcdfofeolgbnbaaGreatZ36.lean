/- DeriveChild: for every input the law's Go function answers true,and its arguments read behind the call as before. No conditions. -/
import Derived.Test.YtcdfofeolgbnbaaGreatZ30
import Derived.Test.YtcdfofeolgbnbaaGreatZ34
import Derived.Test.YtcdfofeolgbnbaaGreatZ35
import Derived.Test.YtcdfofeolgbnbaaGreatZ13
import Derived.Test.YtcdfofeolgbnbaaGreatZ33
/- Law 12: what a Copy makes. -/
namespace Go.Proofs.YtcdfofeolgbnbaaGreat
open Go.D
set_option linter.all false
set_option maxRecDepth 100000
set_option maxHeartbeats 4000000

theorem and_i64_le {x r : Int} (h0 : 0 ≤ x) (h1 : x ≤ 7) : 0 ≤ bits .and .i64 x r ∧ bits .and .i64 x r ≤ 7:=by
 have h2 : (BitVec.ofInt 64 x &&& BitVec.ofInt 64 r).toNat ≤ 7:=by
  rw [BitVec.toNat_and]
  refine Nat.le_trans Nat.and_le_left ?_
  rw [BitVec.toNat_ofInt]
  omega
 show 0 ≤ IntKind.i64.wrap ((BitVec.ofInt 64 x &&& BitVec.ofInt 64 r).toNat : Int) ∧ IntKind.i64.wrap ((BitVec.ofInt 64 x &&& BitVec.ofInt 64 r).toNat : Int) ≤ 7
 rw [wrap64] <;> omega
theorem and_i64_idem {x r : Int} (h0 : 0 ≤ x) (h1 : x ≤ 7) : bits .and .i64 (bits .and .i64 x r) r = bits .and .i64 x r:=by
 have e : ∀ y : Int,bits .and .i64 y r = IntKind.i64.wrap ((BitVec.ofInt 64 y &&& BitVec.ofInt 64 r).toNat : Int):=fun _ => rfl
 have h2 : (BitVec.ofInt 64 x &&& BitVec.ofInt 64 r).toNat ≤ 7:=by
  rw [BitVec.toNat_and]
  refine Nat.le_trans Nat.and_le_left ?_
  rw [BitVec.toNat_ofInt]
  omega
 have e2 : bits .and .i64 x r = ((BitVec.ofInt 64 x &&& BitVec.ofInt 64 r).toNat : Int):=by rw [e,wrap64] <;> omega
 rw [e2,e]
 have e3 : BitVec.ofInt 64 ((BitVec.ofInt 64 x &&& BitVec.ofInt 64 r).toNat : Int) = BitVec.ofInt 64 x &&& BitVec.ofInt 64 r:=by
  apply BitVec.eq_of_toNat_eq
  rw [BitVec.ofInt_natCast,BitVec.toNat_ofNat]
  exact Nat.mod_eq_of_lt (BitVec.isLt _)
 rw [e3,BitVec.and_assoc,BitVec.and_self,wrap64] <;> omega
theorem mask_idem {c : Cap} (hr : rightB c = true) (r : Int) : (c.mask r).mask r = c.mask r:=by
 have rb:=(right_bounds hr).rights
 unfold Cap.mask
 by_cases h : c.ty = 4 ∨ c.ty = 5 ∨ c.ty = 8
 ·rw [if_pos h]
  simp only
  rw [if_pos h,and_i64_idem rb.1 rb.2]
 ·rw [if_neg h,if_neg h]
theorem der_ty {c : Cap} (hr : rightB c = true) (h : derE c = 0) : c.ty = 2 ∨ c.ty = 3 ∨ c.ty = 4 ∨ c.ty = 5 ∨ c.ty = 8 ∨ c.ty = 12:=by
 have rb:=(right_bounds hr).ty
 unfold derE at h
 by_cases h0 : c.ty = 0
 ·rw [h0] at h; cases h
 rw [if_neg (by simpa using h0)] at h
 by_cases h1 : (c.ty == 1 || (c.ty == 6 || (c.ty == 7 || (c.ty == 9 || (c.ty == 10 || (c.ty == 11 || c.ty == 13)))))) = true
 ·rw [if_pos h1] at h; cases h
 ·simp only [Bool.or_eq_true,beq_iff_eq,not_or] at h1
  omega
theorem copy_right {c : Cap} (hr : rightB c = true) (h : derE c = 0) (r : Int) : rightB ((derC c).mask r) = true ∧ rightB (derC c) = true ∧ ((derC c).mask r).ty ≠ 0:=by
 have ht:=der_ty hr h
 have rb:=(right_bounds hr).rights
 obtain ⟨a1,a2⟩:=and_i64_le (r:=r) rb.1 rb.2
 have ia : inV (bits .and .i64 c.rights r) 7 = true:=inV_iff.2 ⟨a1,a2⟩
 have e8 : mapV 0 0 16 = true:=by decide
 obtain ⟨ty,obj,bits',mark,gu,gb,bd,ri,asd,va,li⟩:=c
 simp only at ht ia rb
 unfold derC
 rw [if_pos h]
 rcases ht with rfl | rfl | rfl | rfl | rfl | rfl
 ·simp only [Int.reduceBEq,Bool.false_eq_true,if_false,Cap.mask,Int.reduceEq,or_self,false_or,ne_eq,not_false_eq_true,and_true]
  exact ⟨hr,hr⟩
 ·simp only [Int.reduceBEq,Bool.false_eq_true,if_false,Cap.mask,Int.reduceEq,or_self,false_or,ne_eq,not_false_eq_true,and_true]
  exact ⟨hr,hr⟩
 ·simp only [Int.reduceBEq,Bool.false_eq_true,if_false,Cap.mask,Int.reduceEq,true_or,if_true,ne_eq,not_false_eq_true,and_true]
  refine ⟨?_,hr⟩
  simp only [rightB,Int.reduceEq,if_false,if_true] at hr ⊢
  split at hr
  ·rename_i h1
   rw [if_pos h1]
   split at hr
   ·cases hr
   ·rename_i h2
    rw [if_neg h2]
    simp only [Bool.and_eq_true] at hr ⊢
    exact ⟨ia,hr.2⟩
  ·cases hr
 ·simp only [Int.reduceBEq,Bool.false_eq_true,if_false,Cap.mask,Int.reduceEq,true_or,or_true,if_true,ne_eq,not_false_eq_true,and_true]
  refine ⟨?_,hr⟩
  simp only [rightB,Int.reduceEq,if_false,if_true] at hr ⊢
  split at hr
  ·rename_i h1
   rw [if_pos h1]
   split at hr
   ·cases hr
   ·rename_i h2
    rw [if_neg h2]
    simp only [Bool.and_eq_true] at hr ⊢
    exact ⟨ia,hr.2⟩
  ·cases hr
 ·simp only [Int.reduceBEq,if_true,Cap.mask,Int.reduceEq,or_true,ne_eq,not_false_eq_true,and_true]
  simp only [rightB,Int.reduceEq,if_false,if_true] at hr ⊢
  split at hr
  ·rename_i h1
   rw [if_pos h1,if_pos h1]
   split at hr
   ·cases hr
   ·rename_i h2
    rw [if_neg h2,if_neg h2]
    simp only [Bool.and_eq_true] at hr ⊢
    exact ⟨⟨ia,e8⟩,hr.1,e8⟩
  ·cases hr
 ·simp only [Int.reduceBEq,Bool.false_eq_true,if_false,Cap.mask,Int.reduceEq,or_self,false_or,ne_eq,not_false_eq_true,and_true]
  exact ⟨hr,hr⟩
section
variable {m : M} {L : List Int}
theorem DI.copied (D : DI m L) {a b r : Int} (ha : a ∈ PL) (hb : b ∈ PL) (hE : m.coE a b = 0) {m1 : M} (e1 : m.cpX M.enX M.layX a b r = m1) :
  ∃ L1 L2,DI m1 (L1 ++ a :: b :: L2) ∧ (m1.gV b).depth = (m1.gV a).depth + 1 ∧ (m1.gV a).next = b ∧ b ≠ 0 ∧ rightB (m1.gV b).cap = true ∧ (m1.gV b).cap.mask r = (m1.gV b).cap:=by
 obtain ⟨h1,h2,h3⟩:=coE_is hE
 obtain ⟨haL,hbL⟩:=D.enE ha hb h1
 have hr:=D.right a
 obtain ⟨k1,k2,k3⟩:=copy_right hr h2 r
 have D0:=D.of_w (coXe_w m a b)
 have hc : m.coC a b r = (derC (m.gV a).cap).mask r:=by unfold M.coC; rw [if_pos hE]
 unfold M.cpX at e1
 rw [if_pos hE,hc] at e1
 have hs : slotRB ⟨(derC (m.gV a).cap).mask r,0,0,0⟩ = true:=by
  have h4 : (((derC (m.gV a).cap).mask r).ty == 0) = false:=by simpa using k3
  simp only [slotRB,k1,h4,Bool.false_and,Bool.not_false,link_0]
  rfl
 obtain ⟨_,D1,_,_,hV⟩:=D0.lay (r:=m.coX M.enX a b) rfl (.inr haL) (PL_PB hb) hbL k3 hs
 rw [e1] at D1 hV
 have a0:=D.n0 (PL_PB ha)
 have b0:=D.n0 (PL_PB hb)
 have hba : b ≠ a:=fun e => hbL (e ▸ haL)
 obtain ⟨L1,L2,e⟩:=List.append_of_mem haL
 have nd:=D.inv.nd
 rw [e] at nd
 have hp1 : a ∉ L1:=fun h => (List.nodup_append.1 nd).2.2 a h a List.mem_cons_self rfl
 have hL : insLL a b L = L1 ++ a :: b :: L2:=by unfold insLL; rw [if_neg a0,e,insL_app hp1]
 rw [hL] at D1
 have hVb:=hV b b0
 have hVa:=hV a a0
 have hch:=D1.inv.ch
 obtain ⟨_,hch⟩:=chain_app.1 hch
 have hcb : (m1.gV b).cap = (derC (m.gV a).cap).mask r:=by rw [hVb,jnV_cap,if_pos rfl]
 refine ⟨L1,L2,D1, ?_,hch.2.1,b0,D1.right b, ?_⟩
 ·rw [hVb,hVa,jnV_depth,jnV_depth,if_pos rfl,if_neg (Ne.symm hba),if_neg a0]
 ·rw [hcb]; exact mask_idem k2 r
theorem DI.asked (D : DI m L) {a b : Int} {L1 L2 : List Int} (e : L = L1 ++ a :: b :: L2) (hd : (m.gV b).depth = (m.gV a).depth + 1) (hn : (m.gV a).next = b) (b0 : b ≠ 0) :
  m.gE a = 0 ∧ m.gE b = 0 ∧ b ∈ m.dsL a ∧ (m.dsO a).2.w = m.w ∧ ∀ m' : M,m'.w = m.w → m'.nxV a = b:=by
 have ha : a ∈ L:=by rw [e]; simp
 have hb : b ∈ L:=by rw [e]; simp
 obtain ⟨m2,q1,q2⟩:=D.split e
 have hO : m.dsO a = (some (deep m.gV (m.gV a).depth (b :: L2)),m2):=by unfold M.dsO; rw [if_pos (D.fE_in ha),q1]
 refine ⟨(D.inv.gE ha).1,(D.inv.gE hb).1, ?_,by rw [hO]; exact q2,fun m' hw => ?_⟩
 ·unfold M.dsL
  rw [hO]
  simp only [Option.getD_some,deep,List.takeWhile_cons]
  rw [if_pos (by simp; omega)]
  exact List.mem_cons_self
 ·unfold M.nxV
  rw [fE_w hw,fE_w hw,gV_fun hw,hn,if_pos (D.fE_in ha),if_neg b0,if_pos (D.fE_in hb),if_neg (by omega)]
end
end Go.Proofs.YtcdfofeolgbnbaaGreat

/- Law 12: DeriveChild: the walk. -/
namespace Go.Proofs.YtcdfofeolgbnbaaGreat
open Go.D
open Nat (reduceAdd reducePow reduceMul reduceSub reduceLeDiff reduceLT reduceEqDiff)
open Int (reduceNeg reduceLE reduceEq reduceNe reduceToNat)
open Go.D renaming istep → zy,pickR → zx,bin1R → zw,un1R → zv,eqS → zu,eq1 → zq,cmpS → zp,cmp1 → zj,isNil → zk,shows → zg,result → zZ,q_cond_t → zV,q_cond_f → zU
open List renaming set → zY,replicate → zX
open Option renaming map → zW
open Nat renaming reduceAdd → zQ,reducePow → yz,reduceMul → yy,reduceSub → yx,reduceLeDiff → yw,reduceLT → yv,reduceEqDiff → yu
open Int renaming reduceNeg → yq,reduceLE → yj,reduceEq → yk,reduceNe → yg,reduceToNat → yZ,reducePow → yY,reduceLT → yX,reduceAdd → yW,reduceSub → yV,reduceMul → yU,reduceBEq → yQ,reduceBNe → xz
set_option linter.all false
set_option maxRecDepth 100000
set_option maxHeartbeats 8000000

def deriveChildS : FSpec:=fun args h K => ∃ (s : S) (L : List Act) (p q n : Int),args = [.s s, .s (.i .i64 p), .s (.i .i64 q), .s (.i .i64 n)] ∧ IsArr Act.cl h s L ∧ (∀ x,x ∈ L → x.u) ∧ L.length ≤ 9223372036854775807 ∧ i64b p ∧ i64b q ∧ ∀ h',K (.s (.b true)) h'
noncomputable def TPc : Tab:=addT 39 plcG (addT 40 cp9G (addT 26 get2G (addT 31 belG (addT 41 nextG (addT 42 rightG (addT 43 cmaskG (TPl)))))))
theorem TPc_snd : TPc.Snd Tryz.prog:=addT_snd ok39 plc_snd (addT_snd ok40 cp9_snd (addT_snd ok26 get2_snd (addT_snd ok31 bel_snd (addT_snd ok41 next_snd (addT_snd ok42 rright_snd (addT_snd ok43 rcmask_snd (TPl_snd)))))))
theorem deriveChild_snd : Snd Tryz.prog 10 deriveChildS:=(fwp_sound (Tab.snd_Γ TPc_snd) mixed Tryz.func10 dc10).weaken fun args h K hc hS => by
 obtain ⟨s,L,p,q,n,rfl,Hs,hu,l1,up,uq,hK⟩:=hS
 refine fwp_run (Tab.ok_Γ _) 400 ?_
 have hlen:=fun ls h' => Hs.sl.len (ls:=ls) (h:=h')
 have hkn:=Hs.sl.known
 have hnl:=Hs.sl.noL
 simp (maxSteps:=9999999) only [EV0,zy,zx,zw,zv,zu,zq,zp,zj,zk,leT,zg,rvC,zZ,zY,zX,zW,↓zV,↓zU,reduceCtorEq,zQ,yz,yY,yy,yx,yw,yv,yu,yq,yX,yj,yk,yg,yW,yV,yU,yZ,yQ,xz,df10,TPc,TPl,awake12G,basedG,↓hlen,↓hkn,↓hnl]
 refine loop_rule (α:=Nat × M × M) [11,27,28,29,30,31,32,33,34,35,36,37,38,39,40,41,42] (fun x => [(11, .s (.i .i64 (x.1 : Int)))]) (fun _ => []) (fun x => wH h x.2.1 x.2.2 []) (fun x => x.1 ≤ L.length ∧ x.2.2.w = x.2.1.w ∧ (∃ Q,DI x.2.1 Q)) (fun x => L.length - x.1) (0,baseC,baseM) ⟨Nat.zero_le _,baseC_w.symm,DI_base⟩ ?_ ?_
 ·refine Wk.same rfl rfl ?_
  simp (maxSteps:=9999999) only [EV0,zy,zx,zw,zv,zu,zq,zp,zj,zk,leT,zg,rvC,zZ,zY,zX,zW,↓zV,↓zU,reduceCtorEq,zQ,yz,yY,yy,yx,yw,yv,yu,yq,yX,yj,yk,yg,yW,yV,yU,yZ,yQ,xz,Int.natCast_zero]
 ·rintro X ⟨i,m,r⟩ ⟨hi,hw,⟨Q,D⟩⟩ IH
  simp only at hi hw D ⊢
  by_cases h2 : i < L.length ∧ i < 60
  ·obtain ⟨h1,h100⟩:=h2
   obtain ⟨d1,d2,d3,d4⟩:=idx h1 l1
   have c100 : (i : Int) < 60:=by omega
   obtain ⟨j,cc,st,room,hse,hj,hd⟩:=Hs.at h1
   obtain ⟨x,hx⟩ : ∃ x,nth actZ L i = x:=⟨_,rfl⟩
   have hxu : x.u:=by rw [← hx]; exact hu _ (nth_mem h1)
   have hs : sub (arr Act.cl L) (i * 8) 8 = x.cl:=by rw [← hx,nth_eq h1]; exact arr_sub Act.cl_len h1
   have hle : i * 8 + 8 ≤ (arr Act.cl L).length:=by rw [arr_length Act.cl_len]; omega
   simp only [Act.cl] at hs
   obtain ⟨e1,Cf,hD,hF⟩:=D.act hw hxu
   have hob : ∀ m r,(wH h m r [])[j]? = _:=fun m r => wH_old hj m r []
   subst hse
   refine run_sound (Tab.ok_Γ _) 300 _ _ _ _ ?_
   simp (maxSteps:=9999999) only [EV0,zy,zx,zw,zv,zu,zq,zp,zj,zk,leT,zg,rvC,zZ,zY,zX,zW,↓zV,↓zU,reduceCtorEq,zQ,yz,yY,yy,yx,yw,yv,yu,yq,yX,yj,yk,yg,yW,yV,yU,yZ,yQ,xz,TPc,TPl,doesG,doesM,actF,act_eta,wldF_eq,↓hlen,↓hkn,↓hnl,d1,d2,d3,d4,c100,hob,hd,hs,hle,Int.toNat_natCast]
   exact IH (i + 1,(m.act x).2,(r.ract x).2) _ (by simp only; omega) ⟨by simp only; omega,hD.w,hD.L⟩ (Wk.same rfl rfl (by simp (maxSteps:=9999999) only [EV0,zy,zx,zw,zv,zu,zq,zp,zj,zk,leT,zg,rvC,zZ,zY,zX,zW,↓zV,↓zU,reduceCtorEq,zQ,yz,yY,yy,yx,yw,yv,yu,yq,yX,yj,yk,yg,yW,yV,yU,yZ,yQ,xz]))
  ·have hex:=exit2 h2
   clear IH h2
   simp only [show ((60 : Nat) : Int) = 60 from rfl] at hex
   have hB : ∀ (m' : M),(wH h m' r [])[h.length + 4]? = some ⟨.rw,[.p (.g (h.length + 2)) 0, .p (.g h.length) 0],2⟩:=fun m' => wH_at h m' r []
   have hpP:=plc_PL up
   have hqP:=plc_PL uq
   obtain ⟨a,hae⟩ : ∃ a,plcV p = a:=⟨_,rfl⟩
   obtain ⟨b,hbe⟩ : ∃ b,plcV q = b:=⟨_,rfl⟩
   rw [hae] at hpP
   rw [hbe] at hqP
   clear hi
   obtain ⟨m1,e1⟩ : ∃ m1,m.cpX M.enX M.layX a b n = m1:=⟨_,rfl⟩
   by_cases hE : m.coE a b = 0
   ·obtain ⟨L1,L2,D1,q1,q2,q3,q4,q5⟩:=D.copied hpP hqP hE e1
    obtain ⟨g1,g2,g3,g4,g5⟩:=(D1.of_w (show ((m1.gX a).gX b).w = m1.w by simp only [gX_w])).asked rfl (by rw [gX_gV,gX_gV,gX_gV,gX_gV]; exact q1) (by rw [gX_gV,gX_gV]; exact q2) q3
    rw [gX_gE,gX_gE] at g1 g2
    have g6:=g5 _ g4
    have g7 : decide (b ∈ ((m1.gX a).gX b).dsL a) = true:=by simpa using g3
    obtain ⟨⟨ca,pa,na,da⟩,hca⟩ : ∃ s,m1.gV a = s:=⟨_,rfl⟩
    obtain ⟨⟨cb,pb,nb,db⟩,hcb⟩ : ∃ s,m1.gV b = s:=⟨_,rfl⟩
    rw [hcb] at q4 q5
    rw [hca,hcb] at q1
    simp only at q1 q4 q5
    subst q1
    have hwr : IntKind.i64.wrap (da + 1) = da + 1:=by
     have h3:=(slotRB_iff (m1.gV_u a)).2.2.2
     rw [hca] at h3
     simp only at h3
     rw [wrap64] <;> omega
    have hcf : ∀ (f : Cap → Res),capF f [.agg cb.cl] = f cb:=fun f => by
     obtain ⟨c0,c1,c2,c3,c4,c5,c6,c7,c8,c9,c10⟩:=cb
     rfl
    obtain ⟨⟨a0,a1,a2,a3,a4,a5,a6,a7,a8,a9,a10⟩,ea⟩ : ∃ c,ca = c:=⟨_,rfl⟩
    obtain ⟨⟨c0,c1,c2,c3,c4,c5,c6,c7,c8,c9,c10⟩,ec⟩ : ∃ c,cb = c:=⟨_,rfl⟩
    subst ea ec
    simp only [Cap.cl] at hcf
    rcases hex with ⟨f1,f2⟩ | ⟨f1,f2⟩
    all_goals
     refine run_sound (Tab.ok_Γ _) 300 _ _ _ _ ?_
     simp (maxSteps:=9999999) only [EV0,zy,zx,zw,zv,zu,zq,zp,zj,zk,leT,zg,rvC,zZ,zY,zX,zW,↓zV,↓zU,reduceCtorEq,zQ,yz,yY,yy,yx,yw,yv,yu,yq,yX,yj,yk,yg,yW,yV,yU,yZ,yQ,xz,TPc,TPl,↓hlen,↓hkn,↓hnl,f1,f2,plcG,cp9G,cp9M,get2G,get2M,belG,belM,nextG,nextM,rightG,cmaskG,hB,wH_m,hae,hbe,hE,e1,g1,g2,gX_gE,gX_gV,g6,g7,hca,hcb,hcf,q4,q5,hwr,bne,beq_self_eq_true,Slot.cl,Cap.cl,sub,put,fillP,EVt]
     trace_state
     exact hK _
   ·have hE' : (m.coE a b == 0) = false:=by simpa using hE
    rcases hex with ⟨f1,f2⟩ | ⟨f1,f2⟩
    all_goals
     refine run_sound (Tab.ok_Γ _) 300 _ _ _ _ ?_
     simp (maxSteps:=9999999) only [EV0,zy,zx,zw,zv,zu,zq,zp,zj,zk,leT,zg,rvC,zZ,zY,zX,zW,↓zV,↓zU,reduceCtorEq,zQ,yz,yY,yy,yx,yw,yv,yu,yq,yX,yj,yk,yg,yW,yV,yU,yZ,yQ,xz,TPc,TPl,↓hlen,↓hkn,↓hnl,f1,f2,plcG,cp9G,cp9M,hB,wH_m,hae,hbe,hE',hE,e1,bne]
     exact hK _
end Go.Proofs.YtcdfofeolgbnbaaGreat

/- DeriveChild: for every input the law's Go function answers true,and its arguments read behind the call as before. No conditions. -/
namespace Go.Proofs.YtcdfofeolgbnbaaGreat
open Go.D
set_option linter.all false
set_option maxRecDepth 100000

theorem deriveChild_law : Law deriveChildS [(false,[.slice ActT]),(false,[.int .i64]),(false,[.int .i64]),(false,[.int .i64])]:=by
 intro h us H hc
 obtain ⟨_,_,rfl,H1,H⟩:=lawC H
 obtain ⟨_,_,rfl,H2,H⟩:=lawC H
 obtain ⟨_,_,rfl,H3,H⟩:=lawC H
 obtain ⟨_,_,rfl,H4,H⟩:=lawC H
 obtain rfl:=lawN H
 obtain ⟨s,L,rfl,e1,e2,e3⟩:=hasV_slice (c:=Act.cl) (p:=Act.u) (fun ss h => hasTs_act h) H1
 obtain ⟨p,rfl,up⟩:=hasV_int H2
 obtain ⟨q,rfl,uq⟩:=hasV_int H3
 obtain ⟨n,rfl,un⟩:=hasV_int H4
 exact ⟨s,L,p,q,n,rfl,e1,e2,by omega,i64_b up,i64_b uq,fun _ => rfl⟩
theorem deriveChild_row : RowOk Tryz.prog 10 Tryz.f10 Rows.deriveChildSpec [(false,[.slice ActT]),(false,[.int .i64]),(false,[.int .i64]),(false,[.int .i64])] where
 own:=own
 noTabs:=rfl
 noInit:=by kernel_rfl
 isf:=Tryz.func10
 laid:=laid
 rowed:=rowed
 full:=full
 params:=by kernel_rfl
 vars:=rfl
 ret:=⟨_,rfl,by kernel_rfl⟩
 spec:=fun H ds e => by
  match ds,e with
  | [_,_,_,_],_ => rfl
 tys:=⟨20,by kernel_rfl⟩
theorem deriveChild_holds : Rows.DeriveChildSaid :=
 OpenClaim.holds_of_wide 10 Tryz.f10 rfl rfl rfl rfl rfl rfl rfl ⟨rfl,rfl,rfl,rfl,rfl⟩ rfl rfl rfl rfl rfl (by kernel_rfl) Tryz.func10 (by kernel_rfl)
  (of_decide_eq_true (by kernel_rfl)) (by unfold Func.isWrapper; first | (rw [if_pos (by decide +kernel)]; kernel_rfl) | (rw [if_neg (by decide +kernel)]; exact ⟨rfl,rfl⟩))
  (fun os started H enc _ => deriveChild_row.lifted (C:=Tryz.checked) deriveChild_snd deriveChild_law started (ChangeSpec.witness6 (enc:=enc) (C:=Tryz.checked) false ⟨#[], #[.slice none 0 0, .int .i64 0, .int .i64 0, .int .i64 0],[]⟩ 8 (by kernel_rfl) (by kernel_rfl) (by kernel_rfl) (by kernel_rfl)))
end Go.Proofs.YtcdfofeolgbnbaaGreat

