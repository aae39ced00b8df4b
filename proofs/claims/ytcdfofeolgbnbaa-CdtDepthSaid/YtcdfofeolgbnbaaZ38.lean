/- CdtForest,CdtBack,CdtEnds,CdtDepth: for every input the law's Go function answers true,and its arguments read behind the call as before. No conditions. -/
import Derived.Test.YtcdfofeolgbnbaaZ13
import Derived.Test.YtcdfofeolgbnbaaZ35
import Derived.Test.YtcdfofeolgbnbaaZ34
import Derived.Test.YtcdfofeolgbnbaaZ36
import Derived.Test.YtcdfofeolgbnbaaZ37
/- Law 11: CdtDepth: the walk. -/
namespace Go.Proofs.Ytcdfofeolgbnbaa
open Go.D
open Nat (reduceAdd reducePow reduceMul reduceSub reduceLeDiff reduceLT reduceEqDiff)
open Int (reduceNeg reduceLE reduceEq reduceNe reduceToNat)
open Go.D renaming istep → zy,pickR → zx,bin1R → zw,un1R → zv,eqS → zu,eq1 → zq,cmpS → zp,cmp1 → zj,isNil → zk,shows → zg,result → zZ,q_cond_t → zV,q_cond_f → zU
open List renaming set → zY,replicate → zX
open Option renaming map → zW
open Nat renaming reduceAdd → zQ,reducePow → yz,reduceMul → yy,reduceSub → yx,reduceLeDiff → yv,reduceLT → yu,reduceEqDiff → yq
open Int renaming reduceNeg → yp,reduceLE → yj,reduceEq → yk,reduceNe → yg,reduceToNat → yZ,reducePow → yY,reduceLT → yX,reduceAdd → yW,reduceSub → yV,reduceMul → yU,reduceBEq → yQ,reduceBNe → xz
set_option linter.all false
set_option maxRecDepth 100000
set_option maxHeartbeats 4000000

section
variable {α : Type}
theorem filter_take {p : α → Bool} {d : α} {l : List α} {k : Nat} (h : k < l.length) : (l.take (k + 1)).filter p = (l.take k).filter p ++ if p (nth d l k) = true then [nth d l k] else []:=by
 rw [List.take_add_one,List.getElem?_eq_getElem h,Option.toList_some,List.filter_append,nth_eq h]
 congr 1
 simp only [List.filter_cons,List.filter_nil]
end
def cdtDepthS : FSpec:=fun args h K => ∃ (s : S) (L : List Op),args = [.s s] ∧ IsArr Op.cl h s L ∧ (∀ x,x ∈ L → x.u) ∧ L.length ≤ 9223372036854775807 ∧ ∀ h',K (.s (.b true)) h'
noncomputable def TDp : Tab:=addT 8 awake11G (addT 21 playedG (addT 12 lisAG (addT 29 get2G (addT 16 belG (addT 13 dscA (addT 30 intsG (addT 15 lastG (addT 14 nextG (noT)))))))))
theorem TDp_snd : TDp.Snd Try.prog:=addT_snd ok8 awake11_snd (addT_snd ok21 played_snd (addT_snd ok12 lisA_snd (addT_snd ok29 get2_snd (addT_snd ok16 bel_snd (addT_snd ok13 dscA_snd (addT_snd ok30 ints_snd (addT_snd ok15 last_snd (addT_snd ok14 next_snd ((noT_snd _))))))))))
theorem cdtDepth_snd : Snd Try.prog 7 cdtDepthS:=(fwp_sound (Tab.snd_Γ TDp_snd) mixed Try.func7 dc7).weaken fun args h K hc hS => by
 obtain ⟨s,L,rfl,Hs,hu,l1,hK⟩:=hS
 refine fwp_run (Tab.ok_Γ _) 600 ?_
 have hlen:=fun ls h' => Hs.sl.len (ls:=ls) (h:=h')
 have hkn:=Hs.sl.known
 have hnl:=Hs.sl.noL
 have hA:=arrOf_eq Hs
 obtain ⟨hw,Q,W⟩:=ply_all L
 obtain ⟨⟨m,r⟩,hF⟩ : ∃ F,plyL z11 z11 L = F:=⟨_,rfl⟩
 rw [hF] at hw W
 simp only at hw W
 have hcc : ∀ m r X,(bH h m r X)[h.length + 4]? = _:=fun m r X => bH_c h m r X
 have hu1 : (∀ x,x ∈ L → x.u) = True:=eq_true hu
 by_cases c1 : (2147483647 : Int) < (L.length : Int)
 ·simp (maxSteps:=9999999) only [EV0,zy,zx,zw,zv,zu,zq,zp,zj,zk,leT,zg,rvC,zZ,zY,zX,zW,↓zV,↓zU,reduceCtorEq,zQ,yz,yY,yy,yx,yv,yu,yq,yp,yX,yj,yk,yg,yW,yV,yU,yZ,yQ,xz,df7,TDp,↓hlen,↓hkn,↓hnl,c1]
  exact hK _
 obtain ⟨li1,li2,_⟩:=W.li
 obtain ⟨m1,hm1⟩ : ∃ m1,m.lis.2 = m1:=⟨_,rfl⟩
 rw [hm1] at li2
 by_cases c60 : (60 : Int) < (Q.length : Int)
 ·simp (maxSteps:=9999999) only [EV0,zy,zx,zw,zv,zu,zq,zp,zj,zk,leT,zg,rvC,zZ,zY,zX,zW,↓zV,↓zU,reduceCtorEq,zQ,yz,yY,yy,yx,yv,yu,yq,yp,yX,yj,yk,yg,yW,yV,yU,yZ,yQ,xz,df7,TDp,awake11G,playedG,lisAG,lisAM,lisA,bH_fm,bH_app,bH_len,hcc,hA,hF,hu1,l1,↓hlen,↓hkn,↓hnl,c1,li1,hm1,erO,Option.getD_some,c60,slA_known,slA_noL,slA_Cknown,slA_below,↓slA_len,bne,List.length_nil,Nat.add_zero,List.nil_append]
  repeat' first | exact hK _ | intro _
 have hll : Q.length ≤ 60:=by omega
 by_cases q0 : Q.length = 0
 ·have hQ:=List.eq_nil_of_length_eq_zero q0
  subst hQ
  have i0 : ¬ ((60 : Int) < (([] : List Int).length : Int)):=by decide
  simp (maxSteps:=9999999) only [EV0,zy,zx,zw,zv,zu,zq,zp,zj,zk,leT,zg,rvC,zZ,zY,zX,zW,↓zV,↓zU,reduceCtorEq,zQ,yz,yY,yy,yx,yv,yu,yq,yp,yX,yj,yk,yg,yW,yV,yU,yZ,yQ,xz,df7,TDp,awake11G,playedG,lisAG,lisAM,lisA,bH_fm,bH_app,bH_len,hcc,hA,hF,hu1,l1,↓hlen,↓hkn,↓hnl,c1,li1,hm1,erO,Option.getD_some,slA,bkA,bne,List.length_nil,Nat.add_zero,List.nil_append]
  intro c _
  refine loop_rule (α:=Unit) [] (fun _ => []) (fun _ => []) (fun _ => bH h m1 r []) (fun _ => True) (fun _ => 0) () trivial .refl ?_
  rintro X _ _ IH
  refine run_sound (Tab.ok_Γ _) 300 _ _ _ _ ?_
  simp (maxSteps:=9999999) only [EV0,zy,zx,zw,zv,zu,zq,zp,zj,zk,leT,zg,rvC,zZ,zY,zX,zW,↓zV,↓zU,reduceCtorEq,zQ,yz,yY,yy,yx,yv,yu,yq,yp,yX,yj,yk,yg,yW,yV,yU,yZ,yQ,xz,TDp]
  exact hK _
 ·have hq : 0 < Q.length:=by omega
  have hsl : ∀ n c,slA n Q c = .sl (.g n) 0 Q.length c:=fun n c => slA_pos hq
  obtain ⟨B,hB⟩ : ∃ B : Nat → Blk,B = fun c => ⟨.rw,intsB Q,c⟩:=⟨_,rfl⟩
  have hbk : ∀ c,bkA Q c = [B c]:=fun c => by rw [hB]; exact bkA_pos hq
  have hBx : ∀ (m r : M) (c : Nat) (Y : List Blk),(bH h m r (B c :: Y))[h.length + 5]? = some ⟨.rw,intsB Q,c⟩:=fun m r c Y => by rw [hB]; exact bH_x _ _ _ _ _
  simp (maxSteps:=9999999) only [EV0,zy,zx,zw,zv,zu,zq,zp,zj,zk,leT,zg,rvC,zZ,zY,zX,zW,↓zV,↓zU,reduceCtorEq,zQ,yz,yY,yy,yx,yv,yu,yq,yp,yX,yj,yk,yg,yW,yV,yU,yZ,yQ,xz,df7,TDp,awake11G,playedG,lisAG,lisAM,lisA,bH_fm,bH_app,bH_len,hcc,hA,hF,hu1,l1,↓hlen,↓hkn,↓hnl,c1,li1,hm1,erO,Option.getD_some,c60,hsl,hbk,bne,List.length_nil,Nat.add_zero,List.nil_append]
  intro c hc1
  refine loop_rule (α:=Nat × M) [2,7,8,9,10,11,12,13,14,15,16,17,18,19,48,49,50,51,52,53,54,55,56,57,58,59,60,61,62,63,64,65,66,67,68,69,70,71,72,73,74,75,76,77,78,79,80,81,82,83,84,85,86,87,88,89,90,91,92,93,94,95,96,97,98,99,100,101,102,103,104,105,106,107,108,109,110,111,112,113,114,115,116,117,118,119,120,121,122,123,124,125,126,127,128,129,130,131,132,133,134,135,136,137,138,139,140,141,142,143,144,145,146,147,148,149,150,151,152,153,154,155,156,157,158,159,160,161,162,163,164,165,166,167,168,169,170,171,172,173,174,175,176,177,178,179,180,181,182,183,184,185,186,187,188,189,190] (fun z => [(7, .s (.i .i64 (z.1 : Int)))]) (fun _ => []) (fun z => bH h z.2 r [B c]) (fun z => z.1 ≤ Q.length ∧ z.2.w = m.w) (fun z => Q.length - z.1) (0,m1) ⟨Nat.zero_le _,li2⟩ ?_ ?_
  ·refine Wk.same rfl rfl ?_
   simp (maxSteps:=9999999) only [EV0,zy,zx,zw,zv,zu,zq,zp,zj,zk,leT,zg,rvC,zZ,zY,zX,zW,↓zV,↓zU,reduceCtorEq,zQ,yz,yY,yy,yx,yv,yu,yq,yp,yX,yj,yk,yg,yW,yV,yU,yZ,yQ,xz,Int.natCast_zero]
  ·rintro X ⟨i,mi⟩ ⟨hi,hwi⟩ IH
   simp only at hi hwi ⊢
   rcases Nat.lt_or_ge i Q.length with h1 | h1
   ·obtain ⟨d1,d2,d3,d4⟩:=idx h1 (by omega)
    obtain ⟨x,hx⟩ : ∃ x,nth 0 Q i = x:=⟨_,rfl⟩
    have hxQ : x ∈ Q:=by rw [← hx]; exact nth_mem h1
    have g1:=intsB_get h1
    rw [hx] at g1
    have hgE : mi.gE x = 0:=by rw [gE_w hwi]; exact (W.inv.gE hxQ).1
    obtain ⟨⟨⟨c0,e1,c2,c3,c4,c5,c6,c7,c8,c9,c10⟩,p0,n0,r0⟩,hs⟩ : ∃ s,mi.gV x = s:=⟨_,rfl⟩
    have hr0 : m.D x = r0:=by
     have:=gV_w hwi x
     rw [hs] at this
     unfold M.D
     rw [← this]
    refine run_sound (Tab.ok_Γ _) 300 _ _ _ _ ?_
    simp (maxSteps:=9999999) only [EV0,zy,zx,zw,zv,zu,zq,zp,zj,zk,leT,zg,rvC,zZ,zY,zX,zW,↓zV,↓zU,reduceCtorEq,zQ,yz,yY,yy,yx,yv,yu,yq,yp,yX,yj,yk,yg,yW,yV,yU,yZ,yQ,xz,TDp,get2G,get2M,bH_fm,hcc,hBx,hgE,hs,d1,d2,d3,d4,g1,Slot.cl,Cap.cl,put,fillP,EVt,Int.toNat_natCast]
    intro f0 _
    obtain ⟨SB,hSB⟩ : ∃ SB : Blk,(⟨.rw,[.i .i64 c0, .i .i64 e1, .i .i64 c2, .i .i64 c3, .i .i64 c4, .i .i64 c5, .i .i64 c6, .i .i64 c7, .i .i64 c8, .i .i64 c9, .i .i64 c10, .i .i64 p0, .i .i64 n0, .i .i64 r0],14⟩ : Blk) = SB:=⟨_,rfl⟩
    have hsbm : ∀ ρ,SB.cells.map (S.ren ρ) = SB.cells:=fun ρ => by rw [← hSB]; rfl
    have hsbv : ∀ n k,SB.cells.all (S.val n k) = true:=fun n k => by rw [← hSB]; rfl
    have hu : ∀ (m' : M) (z : Int),m'.w = m.w → m'.dsL z = under m.D Q z ∧ (m'.dsO z).2.w = m.w ∧ m'.dsE z = m'.fE z:=fun m' z e => by
     obtain ⟨z1,z2,_,_,z5,_⟩:=(W.of_w e).ds z
     rw [D_w e] at z1
     exact ⟨z1,z2.trans e,z5⟩
    have v0 : h.length < h.length + 5 + 1:=by omega
    have hsbn : ∀ k,SB.cells.all (fun s => !s.names k) = true:=fun k => by rw [← hSB]; rfl
    have hsnm:=fun k => Hs.sl.names k
    have w00 : IntKind.i64.wrap 0 = 0:=rfl
    have v4 : h.length + 4 < h.length + 5 + 1:=by omega
    have v5 : h.length + 5 < h.length + 5 + 1:=by omega
    have hclq : ∀ m',clean (h.length + 5 + 1) (bH h m' r [B c]) = true:=fun m' => by
     have:=bH_clean hc m' r (X:=[B c]) (by rw [hB]; simp only [List.all_cons,List.all_nil,Bool.and_true]; exact (intsB_is Q).va _ _)
     rwa [bH_len] at this
    have hsv : ∀ k,s.val (h.length + 5 + 1) k = true:=fun k => Hs.sl.val (by omega)
    have hspk:=fun l => Hs.sl.pick l
    have hsbl:=fun k => Hs.sl.below k
    have hsrn:=fun k => Hs.sl.lend k
    refine loop_rule (α:=Nat × Int × List Int × Nat × M) [10,11,12,13,14,66,67,68,69,70,71,72,73,74,75,76,77,78,79,80,81,82,83,84,85,86,87,88,89,90,91,92,93,94,95,96,97,98,99,100,101,102,103,104,105,106,107,108] (fun z => [(10, .s (.i .i64 z.2.1)),(11, .s (rSl 1 z.2.2.1 z.2.2.2.1)),(12, .s (.i .i64 (z.1 : Int)))]) (fun z => rLS [SB] z.2.2.1 z.2.2.2.1) (fun z => bH h z.2.2.2.2 r [B c]) (fun z => z.1 ≤ Q.length ∧ z.2.1 = (((Q.take z.1).filter fun w => decide (x ∈ under m.D Q w)).length : Int) ∧ z.2.2.1 = (Q.take z.1).filter (fun w => decide (w ∈ under m.D Q x)) ∧ z.2.2.1.length ≤ z.2.2.2.1 ∧ z.2.2.2.2.w = m.w) (fun z => Q.length - z.1) (0,0,[],0,mi.gX x) ⟨Nat.zero_le _,rfl,rfl,Nat.zero_le _,(gX_w _ _).trans hwi⟩ ?_ ?_
    ·refine Wk.same (by rw [← hSB]; rfl) rfl ?_
     simp (maxSteps:=9999999) only [EV0,zy,zx,zw,zv,zu,zq,zp,zj,zk,leT,zg,rvC,zZ,zY,zX,zW,↓zV,↓zU,reduceCtorEq,zQ,yz,yY,yy,yx,yv,yu,yq,yp,yX,yj,yk,yg,yW,yV,yU,yZ,yQ,xz,Int.natCast_zero,rSl]
    ·rintro X2 ⟨k,ab,U,cp,m'⟩ ⟨hk,hab,hU,hcp,hw'⟩ IH2
     simp only at hk hab hU hcp hw' ⊢
     have hnq : h.length ≤ (bH h m' r [B c]).length:=by rw [bH_len]; omega
     rcases Nat.lt_or_ge k Q.length with h2 | h2
     ·obtain ⟨b1,b2,b3,b4⟩:=idx h2 (by omega)
      obtain ⟨y,hy⟩ : ∃ y,nth 0 Q k = y:=⟨_,rfl⟩
      have g2:=intsB_get h2
      rw [hy] at g2
      obtain ⟨u1,u2,_⟩:=hu m' y hw'
      obtain ⟨m2,hm2⟩ : ∃ m2,(m'.dsO y).2 = m2:=⟨_,rfl⟩
      rw [hm2] at u2
      obtain ⟨u3,u4,_⟩:=hu m2 x u2
      obtain ⟨m3,hm3⟩ : ∃ m3,(m2.dsO x).2 = m3:=⟨_,rfl⟩
      rw [hm3] at u4
      have fa:=filter_take (p:=fun w => decide (x ∈ under m.D Q w)) (d:=0) h2
      have fu:=filter_take (p:=fun w => decide (w ∈ under m.D Q x)) (d:=0) h2
      rw [hy] at fa fu
      have hab60 : ab ≤ 60 ∧ 0 ≤ ab:=by
       have h3:=List.length_filter_le (fun w => decide (x ∈ under m.D Q w)) (Q.take k)
       have h4 : (Q.take k).length ≤ Q.length:=by rw [List.length_take]; omega
       omega
      have w1 : IntKind.i64.wrap (ab + 1) = ab + 1:=by rw [wrap64] <;> omega
      have hUl : U.length ≤ 60:=by
       have h3:=List.length_filter_le (fun w => decide (w ∈ under m.D Q x)) (Q.take k)
       have h4 : (Q.take k).length ≤ Q.length:=by rw [List.length_take]; omega
       rw [hU]; omega
      obtain ⟨up,hup⟩ : ∃ b,decide (x ∈ under m.D Q y) = b:=⟨_,rfl⟩
      obtain ⟨dn,hdn⟩ : ∃ b,decide (y ∈ under m.D Q x) = b:=⟨_,rfl⟩
      have hup' : decide (x ∈ m'.dsL y) = up:=by rw [u1]; exact hup
      have hdn' : decide (y ∈ m2.dsL x) = dn:=by rw [u3]; exact hdn
      obtain ⟨ab2,hab2⟩ : ∃ ab2,ab2 = if up = true then ab + 1 else ab:=⟨_,rfl⟩
      have ha2 : ab2 = (((Q.take (k + 1)).filter fun w => decide (x ∈ under m.D Q w)).length : Int):=by
       rw [fa,List.length_append,hab2]
       simp only [hup]
       cases up
       ·simpa using hab
       ·simp only [if_true,List.length_cons,List.length_nil]; omega
      have hu2 : (Q.take (k + 1)).filter (fun w => decide (w ∈ under m.D Q x)) = if dn = true then U ++ [y] else U:=by
       rw [fu,← hU]
       simp only [hdn]
       cases dn
       ·simp
       ·simp
      clear hab hU fa fu
      cases dn
      ·rw [if_neg (by decide)] at hu2
       cases up
       all_goals
        simp only [Bool.false_eq_true,if_true,if_false] at hab2
        cases U with
        | nil =>
         simp only [rSl,rLS]
         refine run_sound (Tab.ok_Γ _) 300 _ _ _ _ ?_
         simp (maxSteps:=9999999) only [EV0,zy,zx,zw,zv,zu,zq,zp,zj,zk,leT,zg,rvC,zZ,zY,zX,zW,↓zV,↓zU,reduceCtorEq,zQ,yz,yY,yy,yx,yv,yu,yq,yp,yX,yj,yk,yg,yW,yV,yU,yZ,yQ,xz,TDp,belG,belM,bH_fm,hcc,hBx,hup',hdn',hm2,hm3,b1,b2,b3,b4,d1,d2,d3,g1,g2,w1,Int.toNat_natCast,put,fillP]
         refine IH2 (k + 1,ab2,[],cp,m3) _ (by simp only; omega) ⟨by simp only; omega,ha2,hu2.symm,hcp,u4⟩ ?_
         refine Wk.same rfl rfl ?_
         simp (maxSteps:=9999999) only [EV0,zy,zx,zw,zv,zu,zq,zp,zj,zk,leT,zg,rvC,zZ,zY,zX,zW,↓zV,↓zU,reduceCtorEq,zQ,yz,yY,yy,yx,yv,yu,yq,yp,yX,yj,yk,yg,yW,yV,yU,yZ,yQ,xz,hab2,rSl]
        | cons z U =>
         simp only [rSl,rLS,List.cons_append,List.nil_append]
         refine run_sound (Tab.ok_Γ _) 300 _ _ _ _ ?_
         simp (maxSteps:=9999999) only [EV0,zy,zx,zw,zv,zu,zq,zp,zj,zk,leT,zg,rvC,zZ,zY,zX,zW,↓zV,↓zU,reduceCtorEq,zQ,yz,yY,yy,yx,yv,yu,yq,yp,yX,yj,yk,yg,yW,yV,yU,yZ,yQ,xz,TDp,belG,belM,bH_fm,hcc,hBx,hup',hdn',hm2,hm3,b1,b2,b3,b4,d1,d2,d3,g1,g2,w1,Int.toNat_natCast,put,fillP]
         refine IH2 (k + 1,ab2,z :: U,cp,m3) _ (by simp only; omega) ⟨by simp only; omega,ha2,hu2.symm,hcp,u4⟩ ?_
         refine Wk.same rfl rfl ?_
         simp (maxSteps:=9999999) only [EV0,zy,zx,zw,zv,zu,zq,zp,zj,zk,leT,zg,rvC,zZ,zY,zX,zW,↓zV,↓zU,reduceCtorEq,zQ,yz,yY,yy,yx,yv,yu,yq,yp,yX,yj,yk,yg,yW,yV,yU,yZ,yQ,xz,hab2,rSl]
      ·rw [if_pos rfl] at hu2
       have hcq : clean (bH h m3 r [B c]).length (bH h m3 r [B c]) = true:=by rw [bH_len]; exact hclq m3
       have hnq : h.length ≤ (bH h m3 r [B c]).length:=by rw [bH_len]; omega
       cases up
       all_goals
        simp only [Bool.false_eq_true,if_true,if_false] at hab2
        cases U with
        | nil =>
         simp only [rSl,rLS]
         refine run_sound (Tab.ok_Γ _) 300 _ _ _ _ ?_
         simp (maxSteps:=9999999) only [EV0,zy,zx,zw,zv,zu,zq,zp,zj,zk,leT,zg,rvC,zZ,zY,zX,zW,↓zV,↓zU,reduceCtorEq,zQ,yz,yY,yy,yx,yv,yu,yq,yp,yX,yj,yk,yg,yW,yV,yU,yZ,yQ,xz,TDp,belG,belM,bH_fm,hcc,hBx,hup',hdn',hm2,hm3,b1,b2,b3,b4,d1,d2,d3,g1,g2,w1,Int.toNat_natCast,put,fillP]
         intro cq hcq1
         refine IH2 (k + 1,ab2,[y],cq,m3) _ (by simp only; omega) ⟨by simp only; omega,ha2,hu2.symm,by simpa using hcq1,u4⟩ ?_
         simp only [rSl,rLS,intsB,List.map_cons,List.map_nil,List.length_nil,Nat.zero_add,Nat.mul_one,List.cons_append,List.nil_append]
         refine Wk.sel [0,2] (by decide) hnq ?_ ?_ ?_ ?_ hcq (clean_pick hcq _)
         ·simp (maxSteps:=9999999) only [EV0,zy,zx,zw,zv,zu,zq,zp,zj,zk,leT,zg,rvC,zZ,zY,zX,zW,↓zV,↓zU,reduceCtorEq,zQ,yz,yY,yy,yx,yv,yu,yq,yp,yX,yj,yk,yg,yW,yV,yU,yZ,yQ,xz,List.nil_append,Blk.ren,V.ren,C.ren,S_ren,wc_ren,R.pick_g,R.pick_0,R.pick_s,List.map_append,wc_cons,wc_snoc,wc_nil,Nat.mul_one,hab2,hsbm,hsbv,hspk,hsv,v0,v4,v5,bH_len,List.length_cons,List.length_nil,Nat.zero_add]
         ·simp (maxSteps:=9999999) only [EV0,zy,zx,zw,zv,zu,zq,zp,zj,zk,leT,zg,rvC,zZ,zY,zX,zW,↓zV,↓zU,reduceCtorEq,zQ,yz,yY,yy,yx,yv,yu,yq,yp,yX,yj,yk,yg,yW,yV,yU,yZ,yQ,xz,List.nil_append,Blk.ren,V.ren,C.ren,S_ren,wc_ren,R.pick_g,R.pick_0,R.pick_s,Nat.mul_one,hab2,hsbm,hsbv,hspk,hsv,v0,v4,v5,bH_len,List.length_cons,List.length_nil,Nat.zero_add]
         ·simp (maxSteps:=9999999) only [EV0,zy,zx,zw,zv,zu,zq,zp,zj,zk,leT,zg,rvC,zZ,zY,zX,zW,↓zV,↓zU,reduceCtorEq,zQ,yz,yY,yy,yx,yv,yu,yq,yp,yX,yj,yk,yg,yW,yV,yU,yZ,yQ,xz,List.nil_append,app_len,nlt0,nltn,reduceLT,Nat.le_add_right,Nat.mul_one,hab2,hsbm,hsbv,hspk,hsv,v0,v4,v5,bH_len,List.length_cons,List.length_nil,Nat.zero_add]
         ·simp (maxSteps:=9999999) only [EV0,zy,zx,zw,zv,zu,zq,zp,zj,zk,leT,zg,rvC,zZ,zY,zX,zW,↓zV,↓zU,reduceCtorEq,zQ,yz,yY,yy,yx,yv,yu,yq,yp,yX,yj,yk,yg,yW,yV,yU,yZ,yQ,xz,List.nil_append,app_len,nlt0,nltn,reduceLT,Nat.le_add_right,vals_cons,vals_nil,wc_val,wc_vals,Nat.mul_one,hab2,hsbm,hsbv,hspk,hsv,v0,v4,v5,bH_len,List.length_cons,List.length_nil,Nat.zero_add]
        | cons z U =>
         obtain ⟨BU,hBU⟩ : ∃ BU,intsB (z :: U) = BU:=⟨_,rfl⟩
         obtain ⟨q1,q2,q3,q4,q5,q6⟩:=intsB_is (z :: U)
         rw [hBU] at q1 q2 q3 q4 q5 q6
         have hb3 : ∀ a b,BU.all (S.val a b) = true:=fun u v => by have:=q3 u v; simpa only [vals] using this
         simp only [rSl,rLS,hBU,List.cons_append,List.nil_append]
         refine run_sound (Tab.ok_Γ _) 300 _ _ _ _ ?_
         simp (maxSteps:=9999999) only [EV0,zy,zx,zw,zv,zu,zq,zp,zj,zk,leT,zg,rvC,zZ,zY,zX,zW,↓zV,↓zU,reduceCtorEq,zQ,yz,yY,yy,yx,yv,yu,yq,yp,yX,yj,yk,yg,yW,yV,yU,yZ,yQ,xz,TDp,belG,belM,bH_fm,hcc,hBx,hup',hdn',hm2,hm3,b1,b2,b3,b4,d1,d2,d3,g1,g2,w1,Int.toNat_natCast,put,fillP,q1,q2,q3,q4,hsbn,hsnm]
         refine ⟨by simp only [List.length_cons] at hUl; omega,fun cq hcq1 => ?_⟩
         refine IH2 (k + 1,ab2,z :: U ++ [y],cq,m3) _ (by simp only; omega) ⟨by simp only; omega,ha2,hu2.symm,by simp only [List.length_append,List.length_cons,List.length_nil] at hcq1 ⊢; omega,u4⟩ ?_
         have hB2 : intsB (z :: (U ++ [y])) = BU ++ [.i .i64 y]:=by rw [← hBU,intsB_app]; rfl
         have hl2 : (U ++ [y]).length + 1 = U.length + 1 + 1:=by simp
         simp only [rSl,rLS,List.cons_append,List.nil_append,hB2,hl2,Nat.mul_one]
         refine Wk.sel [0,1] (by decide) hnq ?_ ?_ ?_ ?_ hcq (clean_pick hcq _)
         ·simp (maxSteps:=9999999) only [EV0,zy,zx,zw,zv,zu,zq,zp,zj,zk,leT,zg,rvC,zZ,zY,zX,zW,↓zV,↓zU,reduceCtorEq,zQ,yz,yY,yy,yx,yv,yu,yq,yp,yX,yj,yk,yg,yW,yV,yU,yZ,yQ,xz,List.nil_append,Blk.ren,V.ren,C.ren,S_ren,wc_ren,R.pick_g,R.pick_0,R.pick_s,List.map_append,wc_cons,wc_snoc,wc_nil,Nat.mul_one,hab2,hsbm,hsbv,hspk,hsv,v0,v4,v5,bH_len,List.length_cons,List.length_nil,Nat.zero_add,hb3,q5,List.map_append,List.map_cons,List.map_nil,vals,List.all_append]
         ·simp (maxSteps:=9999999) only [EV0,zy,zx,zw,zv,zu,zq,zp,zj,zk,leT,zg,rvC,zZ,zY,zX,zW,↓zV,↓zU,reduceCtorEq,zQ,yz,yY,yy,yx,yv,yu,yq,yp,yX,yj,yk,yg,yW,yV,yU,yZ,yQ,xz,List.nil_append,Blk.ren,V.ren,C.ren,S_ren,wc_ren,R.pick_g,R.pick_0,R.pick_s,Nat.mul_one,hab2,hsbm,hsbv,hspk,hsv,v0,v4,v5,bH_len,List.length_cons,List.length_nil,Nat.zero_add,hb3,q5,List.map_append,List.map_cons,List.map_nil,vals,List.all_append]
         ·simp (maxSteps:=9999999) only [EV0,zy,zx,zw,zv,zu,zq,zp,zj,zk,leT,zg,rvC,zZ,zY,zX,zW,↓zV,↓zU,reduceCtorEq,zQ,yz,yY,yy,yx,yv,yu,yq,yp,yX,yj,yk,yg,yW,yV,yU,yZ,yQ,xz,List.nil_append,app_len,nlt0,nltn,reduceLT,Nat.le_add_right,Nat.mul_one,hab2,hsbm,hsbv,hspk,hsv,v0,v4,v5,bH_len,List.length_cons,List.length_nil,Nat.zero_add,hb3,q5,List.map_append,List.map_cons,List.map_nil,vals,List.all_append]
         ·simp (maxSteps:=9999999) only [EV0,zy,zx,zw,zv,zu,zq,zp,zj,zk,leT,zg,rvC,zZ,zY,zX,zW,↓zV,↓zU,reduceCtorEq,zQ,yz,yY,yy,yx,yv,yu,yq,yp,yX,yj,yk,yg,yW,yV,yU,yZ,yQ,xz,List.nil_append,app_len,nlt0,nltn,reduceLT,Nat.le_add_right,vals_cons,vals_nil,wc_val,wc_vals,Nat.mul_one,hab2,hsbm,hsbv,hspk,hsv,v0,v4,v5,bH_len,List.length_cons,List.length_nil,Nat.zero_add,hb3,q5,List.map_append,List.map_cons,List.map_nil,vals,List.all_append]
     ·have e0 : k = Q.length:=by omega
      subst e0
      clear IH2
      rw [List.take_length] at hab hU
      rw [anc_dep W.inv.nd W.dep (fun z _ => W.D0 z) hxQ,hr0] at hab
      rw [under_pick W.inv.nd] at hU
      subst hab
      have hnx2 : ∀ m2 : M,m2.w = m.w → m2.nxV x = (under m.D Q x).headD 0:=fun m2 e => by
       have:=(W.of_w e).nx x
       rwa [D_w e] at this
      obtain ⟨u1,u2,u3⟩:=hu m' x hw'
      obtain ⟨m2,hm2⟩ : ∃ m2,(m'.dsO x).2 = m2:=⟨_,rfl⟩
      rw [hm2] at u2
      have u0 : m'.dsE x = 0:=by rw [u3,fE_w hw']; exact W.inv.full x hxQ
      obtain ⟨u4,u5,_⟩:=hu m2 x u2
      obtain ⟨m3,hm3⟩ : ∃ m3,(m2.dsO x).2 = m3:=⟨_,rfl⟩
      rw [hm3] at u5
      have u6:=hnx2 m3 u5
      obtain ⟨m4,hm4⟩ : ∃ m4,m3.nxX x = m4:=⟨_,rfl⟩
      have u7 : m4.w = m.w:=by rw [← hm4,nxX_w]; exact u5
      have hdl : (under m.D Q x).length ≤ 60:=by
       have h3:=List.length_filter_le (fun w => decide (w ∈ under m.D Q x)) Q
       rw [under_pick W.inv.nd] at h3
       omega
      have hQi : ¬ ((Q.length : Int) < (Q.length : Int)):=by omega
      obtain ⟨Dl,hDl⟩ : ∃ Dl,under m.D Q x = Dl:=⟨_,rfl⟩
      rw [hDl] at hU u1 u4 u6 hdl
      subst hU
      have hdrp : ∀ (mm : M) (ls Y : List Blk) {t t' : List V},leT t' t → t'.all (V.below 0) = true → t'.all (V.val (h.length + 5 + 1) 0) = true → Wk h.length ⟨t,ls,bH h mm r (B c :: Y)⟩ ⟨t',[],bH h mm r [B c]⟩:=fun mm ls Y t t' h1 h2 h3 =>
       .trans (Wk.keep 0 (ls:=[]) rfl rfl h1 h2 rfl) (Wk.keepH (h.length + 5 + 1) (bH_take h mm r [B c] Y) (by rw [bH_len]; omega) (leT_refl _) (by rw [bH_len]; exact h3) (by rw [bH_len]; exact hclq mm) rfl)
      cases U with
      | nil =>
       simp only [rSl,rLS]
       simp only [List.getLastD_nil,List.headD_nil] at u6
       refine run_sound (Tab.ok_Γ _) 400 _ _ _ _ ?_
       simp (maxSteps:=9999999) only [EV0,zy,zx,zw,zv,zu,zq,zp,zj,zk,leT,zg,rvC,zZ,zY,zX,zW,↓zV,↓zU,reduceCtorEq,zQ,yz,yY,yy,yx,yv,yu,yq,yp,yX,yj,yk,yg,yW,yV,yU,yZ,yQ,xz,TDp,dscA,dscAM,lisA,intsG,intsOf_ns,lastG,lastM,nextG,nextM,bH_fm,bH_app,hcc,hBx,hQi,d1,d2,d3,d4,g1,u0,u1,u4,u6,hm2,hm3,hm4,slA,bkA,← hSB,w00,bne,List.getLastD_nil,Int.toNat_natCast,put,fillP,List.length_nil,Nat.add_zero,List.append_nil]
       intro cz _
       refine IH (i + 1,m4) _ (by simp only; omega) ⟨by simp only; omega,u7⟩ ?_
       refine hdrp m4 _ [] ?_ ?_ ?_
       ·simp (maxSteps:=9999999) only [EV0,zy,zx,zw,zv,zu,zq,zp,zj,zk,leT,zg,rvC,zZ,zY,zX,zW,↓zV,↓zU,reduceCtorEq,zQ,yz,yY,yy,yx,yv,yu,yq,yp,yX,yj,yk,yg,yW,yV,yU,yZ,yQ,xz]
       ·simp (maxSteps:=9999999) only [EV0,zy,zx,zw,zv,zu,zq,zp,zj,zk,leT,zg,rvC,zZ,zY,zX,zW,↓zV,↓zU,reduceCtorEq,zQ,yz,yY,yy,yx,yv,yu,yq,yp,yX,yj,yk,yg,yW,yV,yU,yZ,yQ,xz,hsbl]
       ·simp (maxSteps:=9999999) only [EV0,zy,zx,zw,zv,zu,zq,zp,zj,zk,leT,zg,rvC,zZ,zY,zX,zW,↓zV,↓zU,reduceCtorEq,zQ,yz,yY,yy,yx,yv,yu,yq,yp,yX,yj,yk,yg,yW,yV,yU,yZ,yQ,xz,hsv,v0,v4,v5]
      | cons z U =>
       obtain ⟨BU,hBU⟩ : ∃ BU,intsB (z :: U) = BU:=⟨_,rfl⟩
       obtain ⟨q1,q2,q3,q4,q5,q6⟩:=intsB_is (z :: U)
       rw [hBU] at q1 q2 q3 q4 q5 q6
       have hb3 : ∀ a b,BU.all (S.val a b) = true:=fun u v => by have:=q3 u v; simpa only [vals] using this
       have hl1:=last_get (l:=z :: U) (by simp)
       simp only [List.length_cons,Nat.add_sub_cancel] at hl1
       rw [hBU] at hl1
       have hz0 : BU[0]? = some (.i .i64 z):=by rw [← hBU]; rfl
       obtain ⟨lz,hlz⟩ : ∃ lz,(z :: U).getLastD 0 = lz:=⟨_,rfl⟩
       rw [hlz] at hl1
       simp only [List.headD_cons] at u6
       have w1 : IntKind.i64.wrap (((U.length + 1 : Nat) : Int) - 1) = (U.length : Int):=by
        simp only [List.length_cons] at hdl
        rw [wrap64] <;> omega
       have w2 : ¬ (((U.length + 1 : Nat) : Int) = 0):=by omega
       have w2' : (((U.length + 1 : Nat) : Int) == 0) = false:=by simpa using w2
       have w3 : (0 : Int) ≤ (U.length : Int):=by omega
       have w4 : (U.length : Int) < ((U.length + 1 : Nat) : Int):=by omega
       have w5 : (0 : Int) < ((U.length + 1 : Nat) : Int):=by omega
       have hUl2 : (z :: U).length ≤ 8796093022208:=by omega
       obtain ⟨D2,hD2⟩ : ∃ D2 : Nat → Blk,D2 = fun c => ⟨.rw,BU,c⟩:=⟨_,rfl⟩
       have hDe : ∀ c : Nat,(⟨.rw,intsB (z :: U),c⟩ : Blk) = D2 c:=fun c => by rw [hD2,hBU]
       have hDx : ∀ (mm : M) (cz : Nat) (Y : List Blk),(bH h mm r (B c :: D2 cz :: Y))[h.length + 5 + 1]? = some ⟨.rw,BU,cz⟩:=fun mm cz Y => by rw [hD2]; exact bH_y h mm r [B c] _ Y
       have hA3 : ∀ (mm : M) (cz : Nat) (Y : List Blk),arrOf In.c (bH h mm r (B c :: D2 cz :: Y)) (.sl (.g (h.length + 5 + 1)) 0 (U.length + 1) cz) = some (z :: U):=fun mm cz Y => intsOf_at (l:=z :: U) (room:=cz) (by rw [hBU]; exact hDx mm cz Y)
       have hA4 : ∀ (mm : M) (X1 X2 X3 : Blk) (Y : List Blk),arrOf In.c (bH h mm r (X1 :: X2 :: X3 :: ⟨.rw,BU,cp⟩ :: Y)) (.sl (.g (h.length + 5 + 3)) 0 (U.length + 1) cp) = some (z :: U):=fun mm X1 X2 X3 Y => intsOf_at (l:=z :: U) (room:=cp) (by rw [hBU]; exact bH_y h mm r [X1,X2,X3] _ Y)
       have ht1 : ∀ (mm : M) (X1 X2 : Blk) (Y : List Blk),(bH h mm r (X1 :: X2 :: Y)).take (h.length + 5 + 2) = bH h mm r [X1,X2]:=fun mm X1 X2 Y => bH_take h mm r [X1,X2] Y
       have ht2 : ∀ (mm : M) (X1 X2 : Blk) (Y : List Blk),(bH h mm r (X1 :: X2 :: Y)).drop (h.length + 5 + 2) = Y:=fun mm X1 X2 Y => bH_drop h mm r [X1,X2] Y
       have hcl : ∀ (mm : M) (cz : Nat),clean (h.length + 5 + 2) (bH h mm r [B c,D2 cz]) = true:=fun mm cz => by
        have:=bH_clean hc mm r (X:=[B c,D2 cz]) (by rw [hB,hD2]; simp only [List.all_cons,List.all_nil,Bool.and_true,Bool.and_eq_true]; exact ⟨(intsB_is Q).va _ _,q3 _ _⟩)
        rwa [bH_len] at this
       simp only [rSl,rLS,hBU,List.cons_append,List.nil_append]
       refine run_sound (Tab.ok_Γ _) 400 _ _ _ _ ?_
       simp (maxSteps:=9999999) only [EV0,zy,zx,zw,zv,zu,zq,zp,zj,zk,leT,zg,rvC,zZ,zY,zX,zW,↓zV,↓zU,reduceCtorEq,zQ,yz,yY,yy,yx,yv,yu,yq,yp,yX,yj,yk,yg,yW,yV,yU,yZ,yQ,xz,TDp,dscA,dscAM,lisA,intsG,lastG,lastM,nextG,nextM,bH_fm,bH_app,bH_len,hcc,hBx,hQi,d1,d2,d3,d4,g1,u0,u1,u4,u6,hm2,hm3,hm4,slA,bkA,hDe,← hSB,bne,hlz,hl1,hz0,hDx,hA3,hA4,ht1,ht2,hcl,hUl2,q5,w1,w2,w2',w3,w4,w5,Int.toNat_natCast,put,fillP,R.lend,R.unlend,S_ren,C.ren,V.ren,Blk.ren,Nat.add_sub_cancel_left,Nat.not_lt,Nat.le_add_right,Nat.add_lt_add_iff_left,List.length_nil,Nat.add_zero,List.append_nil]
       intro cz _
       simp only [List.length_cons] at hdl
       refine ⟨⟨by omega,by omega⟩, ?_⟩
       refine IH (i + 1,m4) _ (by simp only; omega) ⟨by simp only; omega,u7⟩ ?_
       refine hdrp m4 _ _ ?_ ?_ ?_
       ·simp (maxSteps:=9999999) only [EV0,zy,zx,zw,zv,zu,zq,zp,zj,zk,leT,zg,rvC,zZ,zY,zX,zW,↓zV,↓zU,reduceCtorEq,zQ,yz,yY,yy,yx,yv,yu,yq,yp,yX,yj,yk,yg,yW,yV,yU,yZ,yQ,xz]
       ·simp (maxSteps:=9999999) only [EV0,zy,zx,zw,zv,zu,zq,zp,zj,zk,leT,zg,rvC,zZ,zY,zX,zW,↓zV,↓zU,reduceCtorEq,zQ,yz,yY,yy,yx,yv,yu,yq,yp,yX,yj,yk,yg,yW,yV,yU,yZ,yQ,xz,hsbl]
       ·simp (maxSteps:=9999999) only [EV0,zy,zx,zw,zv,zu,zq,zp,zj,zk,leT,zg,rvC,zZ,zY,zX,zW,↓zV,↓zU,reduceCtorEq,zQ,yz,yY,yy,yx,yv,yu,yq,yp,yX,yj,yk,yg,yW,yV,yU,yZ,yQ,xz,hsv,v0,v4,v5]
   ·have e0 : i = Q.length:=by omega
    subst e0
    clear IH
    refine run_sound (Tab.ok_Γ _) 300 _ _ _ _ ?_
    simp (maxSteps:=9999999) only [EV0,zy,zx,zw,zv,zu,zq,zp,zj,zk,leT,zg,rvC,zZ,zY,zX,zW,↓zV,↓zU,reduceCtorEq,zQ,yz,yY,yy,yx,yv,yu,yq,yp,yX,yj,yk,yg,yW,yV,yU,yZ,yQ,xz,TDp,Int.lt_irrefl]
    exact hK _
end Go.Proofs.Ytcdfofeolgbnbaa

/- CdtDepth: for every input the law's Go function answers true,and its arguments read behind the call as before. No conditions. -/
namespace Go.Proofs.Ytcdfofeolgbnbaa
open Go.D
set_option linter.all false
set_option maxRecDepth 100000

theorem cdtDepth_law : Law cdtDepthS [(false,[.slice OpT])]:=by
 intro h us H hc
 obtain ⟨_,_,rfl,H1,H⟩:=lawC H
 obtain rfl:=lawN H
 obtain ⟨s,L,rfl,e1,e2,e3⟩:=hasV_slice (c:=Op.cl) (p:=Op.u) (fun ss h => hasTs_op11 h) H1
 exact ⟨s,L,rfl,e1,e2,by omega,fun _ => rfl⟩
theorem cdtDepth_row : RowOk Try.prog 7 Try.f7 Rows.cdtDepthSpec [(false,[.slice OpT])] where
 own:=own
 noTabs:=rfl
 noInit:=by kernel_rfl
 isf:=Try.func7
 laid:=laid
 rowed:=rowed
 full:=full
 params:=by kernel_rfl
 vars:=rfl
 ret:=⟨_,rfl,by kernel_rfl⟩
 spec:=fun H ds e => by
  match ds,e with
  | [_],_ => rfl
 tys:=⟨20,by kernel_rfl⟩
theorem cdtDepth_holds : Rows.CdtDepthSaid :=
 OpenClaim.holds_of_wide 7 Try.f7 rfl rfl rfl rfl rfl rfl rfl ⟨rfl,rfl,rfl,rfl,rfl⟩ rfl rfl rfl rfl rfl (by kernel_rfl) Try.func7 (by kernel_rfl)
  (of_decide_eq_true (by kernel_rfl)) (by unfold Func.isWrapper; first | (rw [if_pos (by decide +kernel)]; kernel_rfl) | (rw [if_neg (by decide +kernel)]; exact ⟨rfl,rfl⟩))
  (fun os started H enc _ => cdtDepth_row.lifted (C:=Try.checked) cdtDepth_snd cdtDepth_law started (ChangeSpec.witness6 (enc:=enc) (C:=Try.checked) false ⟨#[], #[.slice none 0 0],[]⟩ 8 (by kernel_rfl) (by kernel_rfl) (by kernel_rfl) (by kernel_rfl)))
end Go.Proofs.Ytcdfofeolgbnbaa

/- CdtForest,CdtBack,CdtEnds,CdtDepth: for every input the law's Go function answers true,and its arguments read behind the call as before. No conditions. -/
namespace Go.Proofs.Ytcdfofeolgbnbaa
end Go.Proofs.Ytcdfofeolgbnbaa

