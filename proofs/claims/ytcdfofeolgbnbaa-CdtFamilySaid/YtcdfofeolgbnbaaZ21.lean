/- Law 11: CdtFamily: the walk. -/
import Derived.Test.YtcdfofeolgbnbaaZ8
import Derived.Test.YtcdfofeolgbnbaaZ20
/- Law 11: CdtFamily: the walk. -/
namespace Go.Proofs.Ytcdfofeolgbnbaa
open Go.D
open Nat (reduceAdd reducePow reduceMul reduceSub reduceLeDiff reduceLT reduceEqDiff)
open Int (reduceNeg reduceLE reduceEq reduceNe reduceToNat)
open Go.D renaming istep → zx,pickR → zw,bin1R → zv,un1R → zu,eqS → zq,eq1 → zp,cmpS → zj,cmp1 → zk,isNil → zg,shows → zZ,result → zY,q_cond_t → zU,q_cond_f → zQ
open List renaming set → zX,replicate → zW
open Option renaming map → zV
open Nat renaming reduceAdd → yz,reducePow → yy,reduceMul → yx,reduceSub → yw,reduceLeDiff → yv,reduceLT → yu,reduceEqDiff → yq
open Int renaming reduceNeg → yp,reduceLE → yj,reduceEq → yk,reduceNe → yg,reduceToNat → yZ,reducePow → yY,reduceLT → yX,reduceAdd → yW,reduceSub → yV,reduceMul → yU,reduceBEq → yQ,reduceBNe → xz
set_option linter.all false
set_option maxRecDepth 100000
set_option maxHeartbeats 8000000

def bolB (l : List Bool) : List S:=l.map fun x => .b x
theorem bolB_is : ∀ l : List Bool,Ints (bolB l) l.length
 | [] => ⟨rfl,rfl,fun _ _ => rfl,fun _ => rfl,fun _ => rfl,fun _ => rfl⟩
 | x :: l => by
  obtain ⟨h1,h2,h3,h4,h5,h6⟩:=bolB_is l
  refine ⟨by simp [bolB], ?_,fun a b => ?_,fun k => ?_,fun ρ => ?_,fun k => ?_⟩
  ·simp only [known,bolB,List.map_cons,List.all_cons,Bool.true_and] at h2 ⊢; exact h2
  ·have:=h3 a b; simp only [vals,bolB,List.map_cons,List.all_cons,S.val,Bool.true_and] at this ⊢; exact this
  ·have:=h4 k; simp only [bolB,List.map_cons,List.all_cons,S.names,Bool.not_false,Bool.true_and] at this ⊢; exact this
  ·have:=h5 ρ; simp only [bolB,List.map_cons,S.ren] at this ⊢; rw [this]
  ·have:=h6 k; simp only [bolB,List.map_cons,List.all_cons,S.below,Bool.true_and] at this ⊢; exact this
theorem bolB_app (l : List Bool) (x : Bool) : bolB l ++ [.b x] = bolB (l ++ [x]):=by simp [bolB]
def bSl (i : Nat) (l : List Bool) (c : Nat) : S:=match l with
 | [] => .ns
 | _ :: l => .sl (.l i) 0 (l.length + 1) c
def bLS (own : List Blk) (l : List Bool) (c : Nat) : List Blk:=match l with
 | [] => own
 | x :: l => own ++ [⟨.rw,bolB (x :: l),c⟩]
theorem flat_get {α β : Type} {n : Nat} {row : α → List β} (hr : ∀ a,(row a).length = n) : ∀ {A : List α} {i k : Nat} (h : i < A.length),k < n → (A.flatMap row)[i * n + k]? = (row A[i])[k]?
 | [],i,k,h,_ => by simp at h
 | a :: A,0,k,h,hk => by
  rw [List.flatMap_cons,Nat.zero_mul,Nat.zero_add,List.getElem?_append_left (by rw [hr]; exact hk)]; rfl
 | a :: A,i + 1,k,h,hk => by
  rw [List.flatMap_cons,List.getElem?_append_right (by rw [hr,Nat.add_mul,Nat.one_mul]; omega),hr]
  have e : (i + 1) * n + k - n = i * n + k:=by rw [Nat.add_mul,Nat.one_mul]; omega
  rw [e,flat_get hr (by simpa using h) hk]; rfl
theorem flat_len {α β : Type} {n : Nat} {row : α → List β} (hr : ∀ a,(row a).length = n) : ∀ (A : List α),(A.flatMap row).length = A.length * n
 | [] => by simp
 | a :: A => by rw [List.flatMap_cons,List.length_append,hr,flat_len hr A,List.length_cons,Nat.add_mul,Nat.one_mul]; omega
def namedG : List V → List Blk → Res
 | [.agg [.i .i64 w, .i .i64 a, .i .i64 b, .i .i64 n], .s (.i .i64 e), .s (.i .i64 s)],h => .ok (.s (.i .i64 (nmV ⟨w,a,b,n⟩ e s))) [] h
 | _,_ => .bad
theorem named_snd : Snd Try.prog 25 (FSpec.of namedG):=snd_run (noT_snd _) mixed Try.func25 dc25 200 fun args h K hc hS => by
 unfold namedG at hS
 split at hS
 ·rename_i w a b n e s
  simp only [spec_ok,nmV] at hS
  by_cases k0 : e = 0
  ·subst k0
   rw [if_neg (by simp)] at hS
   by_cases k2 : w = 2
   ·subst k2
    by_cases ka : s = a
    ·subst ka
     simp only [and_self,if_true] at hS
     simp (maxSteps:=999999) only [EV0,zx,zw,zv,zu,zq,zp,zj,zk,zg,leT,zZ,rvC,zY,zX,zW,zV,↓zU,↓zQ,reduceCtorEq,yz,yy,yY,yx,yw,yv,yu,yq,yp,yX,yj,yk,yg,yW,yV,yU,yZ,yQ,xz,df25,bne,put,fillP]
     exact hS
    ·simp only [ka,and_false,if_false,reduceEq,false_and] at hS
     simp (maxSteps:=999999) only [EV0,zx,zw,zv,zu,zq,zp,zj,zk,zg,leT,zZ,rvC,zY,zX,zW,zV,↓zU,↓zQ,reduceCtorEq,yz,yy,yY,yx,yw,yv,yu,yq,yp,yX,yj,yk,yg,yW,yV,yU,yZ,yQ,xz,df25,bne,ka,put,fillP]
     exact hS
   ·by_cases k3 : w = 3
    ·subst k3
     by_cases ka : s = a
     ·subst ka
      simp only [and_self,if_true,reduceEq,false_and,if_false] at hS
      simp (maxSteps:=999999) only [EV0,zx,zw,zv,zu,zq,zp,zj,zk,zg,leT,zZ,rvC,zY,zX,zW,zV,↓zU,↓zQ,reduceCtorEq,yz,yy,yY,yx,yw,yv,yu,yq,yp,yX,yj,yk,yg,yW,yV,yU,yZ,yQ,xz,df25,bne,put,fillP]
      exact hS
     ·by_cases kb : s = b
      ·subst kb
       simp only [ka,and_false,if_false,and_self,if_true,reduceEq,false_and] at hS
       simp (maxSteps:=999999) only [EV0,zx,zw,zv,zu,zq,zp,zj,zk,zg,leT,zZ,rvC,zY,zX,zW,zV,↓zU,↓zQ,reduceCtorEq,yz,yy,yY,yx,yw,yv,yu,yq,yp,yX,yj,yk,yg,yW,yV,yU,yZ,yQ,xz,df25,bne,ka,put,fillP]
       exact hS
      ·simp only [ka,kb,and_false,if_false,reduceEq,false_and] at hS
       simp (maxSteps:=999999) only [EV0,zx,zw,zv,zu,zq,zp,zj,zk,zg,leT,zZ,rvC,zY,zX,zW,zV,↓zU,↓zQ,reduceCtorEq,yz,yy,yY,yx,yw,yv,yu,yq,yp,yX,yj,yk,yg,yW,yV,yU,yZ,yQ,xz,df25,bne,ka,kb,put,fillP]
       exact hS
    ·by_cases k4 : w = 4
     ·subst k4
      by_cases ka : s = a
      ·subst ka
       simp only [and_self,if_true,reduceEq,false_and,if_false] at hS
       simp (maxSteps:=999999) only [EV0,zx,zw,zv,zu,zq,zp,zj,zk,zg,leT,zZ,rvC,zY,zX,zW,zV,↓zU,↓zQ,reduceCtorEq,yz,yy,yY,yx,yw,yv,yu,yq,yp,yX,yj,yk,yg,yW,yV,yU,yZ,yQ,xz,df25,bne,put,fillP]
       exact hS
      ·simp only [ka,and_false,if_false,reduceEq,false_and] at hS
       simp (maxSteps:=999999) only [EV0,zx,zw,zv,zu,zq,zp,zj,zk,zg,leT,zZ,rvC,zY,zX,zW,zV,↓zU,↓zQ,reduceCtorEq,yz,yy,yY,yx,yw,yv,yu,yq,yp,yX,yj,yk,yg,yW,yV,yU,yZ,yQ,xz,df25,bne,ka,put,fillP]
       exact hS
     ·simp only [k2,k3,k4,false_and,if_false] at hS
      simp (maxSteps:=999999) only [EV0,zx,zw,zv,zu,zq,zp,zj,zk,zg,leT,zZ,rvC,zY,zX,zW,zV,↓zU,↓zQ,reduceCtorEq,yz,yy,yY,yx,yw,yv,yu,yq,yp,yX,yj,yk,yg,yW,yV,yU,yZ,yQ,xz,df25,bne,k2,k3,k4,put,fillP]
      exact hS
  ·rw [if_pos k0] at hS
   have k0' : (e == 0) = false:=by simpa using k0
   simp (maxSteps:=999999) only [EV0,zx,zw,zv,zu,zq,zp,zj,zk,zg,leT,zZ,rvC,zY,zX,zW,zV,↓zU,↓zQ,reduceCtorEq,yz,yy,yY,yx,yw,yv,yu,yq,yp,yX,yj,yk,yg,yW,yV,yU,yZ,yQ,xz,df25,bne,k0,k0',put,fillP]
   exact hS
 ·exact hS.elim
def cdtFamilyS : FSpec:=fun args h K => ∃ (s : S) (L : List Op) (x : Op),args = [.s s, .agg x.cl] ∧ IsArr Op.cl h s L ∧ (∀ x,x ∈ L → x.u) ∧ L.length ≤ 9223372036854775807 ∧ x.u ∧ ∀ h',K (.s (.b true)) h'
noncomputable def TFa : Tab:=addT 8 awake11G (addT 21 playedG (addT 23 laysG (addT 24 promG (addT 12 lisAG (addT 16 belG (addT 17 insG (addT 18 movG (addT 19 swpG (addT 20 remG (addT 25 namedG (noT)))))))))))
theorem TFa_snd : TFa.Snd Try.prog:=addT_snd ok8 awake11_snd (addT_snd ok21 played_snd (addT_snd ok23 lays_snd (addT_snd ok24 prom_snd (addT_snd ok12 lisA_snd (addT_snd ok16 bel_snd (addT_snd ok17 ins_snd (addT_snd ok18 mov_snd (addT_snd ok19 swp_snd (addT_snd ok20 rem_snd (addT_snd ok25 named_snd ((noT_snd _))))))))))))
theorem cdtFamily_snd : Snd Try.prog 5 cdtFamilyS:=(fwp_sound (Tab.snd_Γ TFa_snd) mixed Try.func5 dc5).weaken fun args h K hc hS => by
 obtain ⟨s,L,⟨xw,xa,xb,xn⟩,rfl,Hs,hu,l1,xu,hK⟩:=hS
 refine fwp_run (Tab.ok_Γ _) 600 ?_
 have hlen:=fun ls h' => Hs.sl.len (ls:=ls) (h:=h')
 have hkn:=Hs.sl.known
 have hnl:=Hs.sl.noL
 have hA:=arrOf_eq Hs
 obtain ⟨hw,Q,W⟩:=ply_all L
 obtain ⟨⟨m,r⟩,hF⟩ : ∃ F,plyL z11 z11 L = F:=⟨_,rfl⟩
 rw [hF] at hw W
 simp only at hw W
 have hcc : ∀ m r X,(bH h m r X)[h.length + 4]? = _:=fun m r X => bH_c h m r X
 have hu1 : (∀ x,x ∈ L → x.u) = True:=eq_true hu
 unfold Op.u i64b at xu
 simp only at xu
 by_cases c1 : (2147483647 : Int) < (L.length : Int)
 ·simp (maxSteps:=999999) only [EV0,zx,zw,zv,zu,zq,zp,zj,zk,zg,leT,zZ,rvC,zY,zX,zW,zV,↓zU,↓zQ,reduceCtorEq,yz,yy,yY,yx,yw,yv,yu,yq,yp,yX,yj,yk,yg,yW,yV,yU,yZ,yQ,xz,df5,TFa,↓hlen,↓hkn,↓hnl,c1,Op.cl,put,fillP]
  exact hK _
 by_cases k14 : xw = 1 ∨ xw = 2 ∨ xw = 3 ∨ xw = 4
 rotate_left
 ·obtain ⟨li1,li2,_⟩:=W.li
  have k1 : ¬ xw = 1:=fun h => k14 (.inl h)
  have k1' : (xw == 1) = false:=by simpa using k1
  cases hp : promV r ⟨xw,xa,xb,xn⟩
  ·simp (maxSteps:=999999) only [EV0,zx,zw,zv,zu,zq,zp,zj,zk,zg,leT,zZ,rvC,zY,zX,zW,zV,↓zU,↓zQ,reduceCtorEq,yz,yy,yY,yx,yw,yv,yu,yq,yp,yX,yj,yk,yg,yW,yV,yU,yZ,yQ,xz,df5,TFa,awake11G,playedG,promG,promM,opF,lisAG,lisAM,lisA,bH_fm,bH_fr,bH_fb,bH_app,bH_len,hcc,hA,hF,hu1,l1,↓hlen,↓hkn,↓hnl,c1,Op.cl,erO,Option.getD_some,bne,List.length_nil,Nat.add_zero,List.nil_append,put,fillP,slA_known,slA_noL,slA_Cknown,slA_below,↓slA_len,li1,hp,k1,k1']
   repeat' first | exact hK _ | intro _
  ·by_cases k0 : xw < 1
   ·simp (maxSteps:=999999) only [EV0,zx,zw,zv,zu,zq,zp,zj,zk,zg,leT,zZ,rvC,zY,zX,zW,zV,↓zU,↓zQ,reduceCtorEq,yz,yy,yY,yx,yw,yv,yu,yq,yp,yX,yj,yk,yg,yW,yV,yU,yZ,yQ,xz,df5,TFa,awake11G,playedG,promG,promM,opF,lisAG,lisAM,lisA,bH_fm,bH_fr,bH_fb,bH_app,bH_len,hcc,hA,hF,hu1,l1,↓hlen,↓hkn,↓hnl,c1,Op.cl,erO,Option.getD_some,bne,List.length_nil,Nat.add_zero,List.nil_append,put,fillP,slA_known,slA_noL,slA_Cknown,slA_below,↓slA_len,li1,hp,k1,k1',k0]
    repeat' first | exact hK _ | intro _
   ·have k4 : (4 : Int) < xw:=by
     simp only [not_or] at k14
     omega
    simp (maxSteps:=999999) only [EV0,zx,zw,zv,zu,zq,zp,zj,zk,zg,leT,zZ,rvC,zY,zX,zW,zV,↓zU,↓zQ,reduceCtorEq,yz,yy,yY,yx,yw,yv,yu,yq,yp,yX,yj,yk,yg,yW,yV,yU,yZ,yQ,xz,df5,TFa,awake11G,playedG,promG,promM,opF,lisAG,lisAM,lisA,bH_fm,bH_fr,bH_fb,bH_app,bH_len,hcc,hA,hF,hu1,l1,↓hlen,↓hkn,↓hnl,c1,Op.cl,erO,Option.getD_some,bne,List.length_nil,Nat.add_zero,List.nil_append,put,fillP,slA_known,slA_noL,slA_Cknown,slA_below,↓slA_len,li1,hp,k1,k1',k0,k4]
    repeat' first | exact hK _ | intro _
 rcases k14 with rfl | rfl | rfl | rfl
 ·obtain ⟨q1,q2,q3,q4⟩:=W.lays hw xa xn
  obtain ⟨⟨m1,r1⟩,e1⟩ : ∃ z,laysX m r xa xn = z:=⟨_,rfl⟩
  rw [e1] at q2 q3
  simp only at q2 q3
  have hw1:=q2
  have W1:=q3
  obtain ⟨li1,li2,_⟩:=W1.li
  obtain ⟨m2,hm2⟩ : ∃ m2,m1.lis.2 = m2:=⟨_,rfl⟩
  rw [hm2] at li2
  obtain ⟨r2,hr2⟩ : ∃ r2,promX r1 ⟨1,xa,xb,xn⟩ = r2:=⟨_,rfl⟩
  cases hp : promV r1 ⟨1,xa,xb,xn⟩
  ·simp (maxSteps:=999999) only [EV0,zx,zw,zv,zu,zq,zp,zj,zk,zg,leT,zZ,rvC,zY,zX,zW,zV,↓zU,↓zQ,reduceCtorEq,yz,yy,yY,yx,yw,yv,yu,yq,yp,yX,yj,yk,yg,yW,yV,yU,yZ,yQ,xz,df5,TFa,awake11G,playedG,promG,promM,opF,lisAG,lisAM,lisA,bH_fm,bH_fr,bH_fb,bH_app,bH_len,hcc,hA,hF,hu1,l1,↓hlen,↓hkn,↓hnl,c1,Op.cl,erO,Option.getD_some,bne,List.length_nil,Nat.add_zero,List.nil_append,put,fillP,slA_known,slA_noL,slA_Cknown,slA_below,↓slA_len,laysG,laysM,e1,xu,li1,hm2,hr2,hp]
   repeat' first | exact hK _ | intro _
  by_cases c40 : (40 : Int) < (Q.length : Int)
  ·simp (maxSteps:=999999) only [EV0,zx,zw,zv,zu,zq,zp,zj,zk,zg,leT,zZ,rvC,zY,zX,zW,zV,↓zU,↓zQ,reduceCtorEq,yz,yy,yY,yx,yw,yv,yu,yq,yp,yX,yj,yk,yg,yW,yV,yU,yZ,yQ,xz,df5,TFa,awake11G,playedG,promG,promM,opF,lisAG,lisAM,lisA,bH_fm,bH_fr,bH_fb,bH_app,bH_len,hcc,hA,hF,hu1,l1,↓hlen,↓hkn,↓hnl,c1,Op.cl,erO,Option.getD_some,bne,List.length_nil,Nat.add_zero,List.nil_append,put,fillP,slA_known,slA_noL,slA_Cknown,slA_below,↓slA_len,laysG,laysM,e1,xu,li1,hm2,hr2,hp,c40]
   repeat' first | exact hK _ | intro _
  have hll : Q.length ≤ 40:=by omega
  obtain ⟨p1,p2⟩:=(W1.prom hw1 (x:=⟨1,xa,xb,xn⟩)).2 hp
  have hop : ∀ m' : M,m'.w = m1.w → ∃ e2 mo Q2,m'.ins xb xa = (e2,mo) ∧ St11 m' Q ⟨1,xa,xb,xn⟩ e2 mo Q2:=fun m' e => by
   obtain ⟨⟨Q2,S⟩,_⟩:=step_ins (W1.of_w e) (r:=m') rfl (x:=⟨1,xa,xb,xn⟩) rfl (p2.imp And.right fun h => okS_w e h)
   exact ⟨_,_,Q2,rfl,S⟩
  have hun : ∀ (m' : M) (z : Int),m'.w = m1.w → m'.dsL z = under m1.D Q z ∧ (m'.dsO z).2.w = m1.w ∧ True:=fun m' z e => by
   obtain ⟨z1,z2,_⟩:=(W1.of_w e).ds z
   rw [D_w e] at z1
   exact ⟨z1,z2.trans e,trivial⟩
  by_cases q0 : Q.length = 0
  ·have hQ:=List.eq_nil_of_length_eq_zero q0
   subst hQ
   have i0 : ¬ ((40 : Int) < (([] : List Int).length : Int)):=by decide
   obtain ⟨e2,mo,Q2,he2,S⟩:=hop m2 li2
   simp (maxSteps:=999999) only [EV0,zx,zw,zv,zu,zq,zp,zj,zk,zg,leT,zZ,rvC,zY,zX,zW,zV,↓zU,↓zQ,reduceCtorEq,yz,yy,yY,yx,yw,yv,yu,yq,yp,yX,yj,yk,yg,yW,yV,yU,yZ,yQ,xz,df5,TFa,awake11G,playedG,promG,promM,opF,lisAG,lisAM,lisA,bH_fm,bH_fr,bH_fb,bH_app,bH_len,hcc,hA,hF,hu1,l1,↓hlen,↓hkn,↓hnl,c1,Op.cl,erO,Option.getD_some,bne,List.length_nil,Nat.add_zero,List.nil_append,put,fillP,laysG,laysM,e1,xu,li1,hm2,hr2,hp,slA,bkA]
   intro cq _
   refine loop_rule (α:=Unit) [] (fun _ => []) (fun _ => [⟨.rw,[.i .i64 1, .i .i64 xa, .i .i64 xb, .i .i64 xn],4⟩]) (fun _ => bH h m2 r2 []) (fun _ => True) (fun _ => 0) () trivial .refl ?_
   rintro X _ _ _
   refine run_sound (Tab.ok_Γ _) 400 _ _ _ _ ?_
   simp (maxSteps:=999999) only [EV0,zx,zw,zv,zu,zq,zp,zj,zk,zg,leT,zZ,rvC,zY,zX,zW,zV,↓zU,↓zQ,reduceCtorEq,yz,yy,yY,yx,yw,yv,yu,yq,yp,yX,yj,yk,yg,yW,yV,yU,yZ,yQ,xz,TFa,insG,insM,movG,movM,swpG,swpM,remG,remM,bH_fm,hcc,he2,put,fillP]
   refine loop_rule (α:=Unit) [] (fun _ => []) (fun _ => [⟨.rw,[.i .i64 1, .i .i64 xa, .i .i64 xb, .i .i64 xn],4⟩]) (fun _ => bH h mo r2 []) (fun _ => True) (fun _ => 0) () trivial .refl ?_
   rintro X _ _ _
   refine run_sound (Tab.ok_Γ _) 400 _ _ _ _ ?_
   simp (maxSteps:=999999) only [EV0,zx,zw,zv,zu,zq,zp,zj,zk,zg,leT,zZ,rvC,zY,zX,zW,zV,↓zU,↓zQ,reduceCtorEq,yz,yy,yY,yx,yw,yv,yu,yq,yp,yX,yj,yk,yg,yW,yV,yU,yZ,yQ,xz,TFa,bne]
   exact hK _
  have hq : 0 < Q.length:=by omega
  have hsl : ∀ n c,slA n Q c = .sl (.g n) 0 Q.length c:=fun n c => slA_pos hq
  obtain ⟨B,hB⟩ : ∃ B : Nat → Blk,B = fun c => ⟨.rw,intsB Q,c⟩:=⟨_,rfl⟩
  have hbk : ∀ c,bkA Q c = [B c]:=fun c => by rw [hB]; exact bkA_pos hq
  have hBx : ∀ (m r : M) (c : Nat) (Y : List Blk),(bH h m r (B c :: Y))[h.length + 5]? = some ⟨.rw,intsB Q,c⟩:=fun m r c Y => by rw [hB]; exact bH_x _ _ _ _ _
  obtain ⟨row,hrw⟩ : ∃ row : Int → List Bool,row = fun a => Q.map fun b => decide (b ∈ under m1.D Q a):=⟨_,rfl⟩
  have row' : ∀ a,row a = Q.map fun b => decide (b ∈ under m1.D Q a):=fun a => by rw [hrw]
  have hrow : ∀ a,(row a).length = Q.length:=fun a => by rw [hrw]; simp
  have v0 : h.length < h.length + 5 + 1:=by omega
  have v4 : h.length + 4 < h.length + 5 + 1:=by omega
  have v5 : h.length + 5 < h.length + 5 + 1:=by omega
  simp (maxSteps:=999999) only [EV0,zx,zw,zv,zu,zq,zp,zj,zk,zg,leT,zZ,rvC,zY,zX,zW,zV,↓zU,↓zQ,reduceCtorEq,yz,yy,yY,yx,yw,yv,yu,yq,yp,yX,yj,yk,yg,yW,yV,yU,yZ,yQ,xz,df5,TFa,awake11G,playedG,promG,promM,opF,lisAG,lisAM,lisA,bH_fm,bH_fr,bH_fb,bH_app,bH_len,hcc,hA,hF,hu1,l1,↓hlen,↓hkn,↓hnl,c1,Op.cl,erO,Option.getD_some,bne,List.length_nil,Nat.add_zero,List.nil_append,put,fillP,laysG,laysM,e1,xu,li1,hm2,hr2,hp,c40,hsl,hbk]
  intro cq hcq0
  have hclq : ∀ m',clean (h.length + 5 + 1) (bH h m' r2 [B cq]) = true:=fun m' => by
   have:=bH_clean hc m' r2 (X:=[B cq]) (by rw [hB]; simp only [List.all_cons,List.all_nil,Bool.and_true]; exact (intsB_is Q).va _ _)
   rwa [bH_len] at this
  have hsv : ∀ k,s.val (h.length + 5 + 1) k = true:=fun k => Hs.sl.val (by omega)
  have hspk:=fun l => Hs.sl.pick l
  have hsnm:=fun k => Hs.sl.names k
  obtain ⟨XB,hXB⟩ : ∃ XB : Blk,(⟨.rw,[.i .i64 1, .i .i64 xa, .i .i64 xb, .i .i64 xn],4⟩ : Blk) = XB:=⟨_,rfl⟩
  have hxbm : ∀ ρ,XB.cells.map (S.ren ρ) = XB.cells:=fun ρ => by rw [← hXB]; rfl
  have hxbv : ∀ n k,XB.cells.all (S.val n k) = true:=fun n k => by rw [← hXB]; rfl
  have hxbn : ∀ k,XB.cells.all (fun s => !s.names k) = true:=fun k => by rw [← hXB]; rfl
  have hxbb : ∀ k,XB.cells.all (S.below k) = true:=fun k => by rw [← hXB]; rfl
  refine loop_rule (α:=Nat × List Bool × Nat × M) [10,11,12,13,69,70,71,72,73,74,75,76,77,78,79,80,81,82,83,84,85,86,87,88,89,90,91,92,93,94,95,96,97] (fun z => [(10, .s (bSl 1 z.2.1 z.2.2.1)),(11, .s (.i .i64 (z.1 : Int)))]) (fun z => bLS [XB] z.2.1 z.2.2.1) (fun z => bH h z.2.2.2 r2 [B cq]) (fun z => z.1 ≤ Q.length ∧ z.2.1 = (Q.take z.1).flatMap row ∧ z.2.1.length ≤ z.2.2.1 ∧ z.2.2.2.w = m1.w) (fun z => Q.length - z.1) (0,[],0,m2) ⟨Nat.zero_le _,rfl,Nat.zero_le _,li2⟩ ?_ ?_
  ·refine Wk.same (by rw [← hXB]; rfl) rfl ?_
   simp (maxSteps:=999999) only [EV0,zx,zw,zv,zu,zq,zp,zj,zk,zg,leT,zZ,rvC,zY,zX,zW,zV,↓zU,↓zQ,reduceCtorEq,yz,yy,yY,yx,yw,yv,yu,yq,yp,yX,yj,yk,yg,yW,yV,yU,yZ,yQ,xz,Int.natCast_zero,bSl]
  rintro X ⟨i,bl,cp,mi⟩ ⟨hi,hbl,hcp,hwi⟩ IH
  simp only at hi hbl hcp hwi ⊢
  rcases Nat.lt_or_ge i Q.length with h1 | h1
  ·obtain ⟨d1,d2,d3,d4⟩:=idx h1 (by omega)
   obtain ⟨y,hy⟩ : ∃ y,nth 0 Q i = y:=⟨_,rfl⟩
   have hyQ : y ∈ Q:=by rw [← hy]; exact nth_mem h1
   have g1:=intsB_get h1
   rw [hy] at g1
   have hbn : bl.length = i * Q.length:=by rw [hbl,flat_len hrow,List.length_take]; congr 1; omega
   have hbm : i * Q.length ≤ 40 * 40:=Nat.mul_le_mul (by omega) (by omega)
   have hQi : Q[i] = y:=by rw [← hy,nth_eq h1]
   have hnext : (Q.take (i + 1)).flatMap row = bl ++ row y:=by
    rw [List.take_add_one,List.getElem?_eq_getElem h1,Option.toList_some,List.flatMap_append,← hbl,hQi]
    simp
   have exit1 : ∀ (blz : List Bool),∃ zz : Nat,True:=fun _ => ⟨0,trivial⟩
   cases bl with
   | nil =>
    simp only [bSl,bLS]
    refine run_sound (Tab.ok_Γ _) 300 _ _ _ _ ?_
    simp (maxSteps:=999999) only [EV0,zx,zw,zv,zu,zq,zp,zj,zk,zg,leT,zZ,rvC,zY,zX,zW,zV,↓zU,↓zQ,reduceCtorEq,yz,yy,yY,yx,yw,yv,yu,yq,yp,yX,yj,yk,yg,yW,yV,yU,yZ,yQ,xz,TFa,d1,d2,d3,d4,put,fillP]
    refine loop_rule (α:=Nat × List Bool × Nat × M) [10,12,13,75,76,77,78,79,80,81,82,83,84,85,86,87,88,89,90,91,92,93,94,95,96,97] (fun z => [(10, .s (bSl 1 z.2.1 z.2.2.1)),(12, .s (.i .i64 (z.1 : Int)))]) (fun z => bLS [XB] z.2.1 z.2.2.1) (fun z => bH h z.2.2.2 r2 [B cq]) (fun z => z.1 ≤ Q.length ∧ z.2.1 = ([] : List Bool) ++ (Q.take z.1).map (fun b => decide (b ∈ under m1.D Q y)) ∧ z.2.1.length ≤ z.2.2.1 ∧ z.2.2.2.w = m1.w) (fun z => Q.length - z.1) (0,([] : List Bool),cp,mi) ⟨Nat.zero_le _,by simp,hcp,hwi⟩ ?_ ?_
    ·refine Wk.same rfl rfl ?_
     simp (maxSteps:=999999) only [EV0,zx,zw,zv,zu,zq,zp,zj,zk,zg,leT,zZ,rvC,zY,zX,zW,zV,↓zU,↓zQ,reduceCtorEq,yz,yy,yY,yx,yw,yv,yu,yq,yp,yX,yj,yk,yg,yW,yV,yU,yZ,yQ,xz,Int.natCast_zero,bSl]
    rintro X2 ⟨k,b2,c2,m'⟩ ⟨hk,hb2,hc2,hw'⟩ IH2
    simp only at hk hb2 hc2 hw' ⊢
    have hnq : h.length ≤ (bH h m' r2 [B cq]).length:=by rw [bH_len]; omega
    rcases Nat.lt_or_ge k Q.length with h2 | h2
    ·obtain ⟨f1,f2,f3,f4⟩:=idx h2 (by omega)
     obtain ⟨z,hz⟩ : ∃ z,nth 0 Q k = z:=⟨_,rfl⟩
     have g2:=intsB_get h2
     rw [hz] at g2
     obtain ⟨u1,u2,_⟩:=hun m' y hw'
     obtain ⟨m3,hm3⟩ : ∃ m3,(m'.dsO y).2 = m3:=⟨_,rfl⟩
     rw [hm3] at u2
     obtain ⟨q,hq⟩ : ∃ q,decide (z ∈ under m1.D Q y) = q:=⟨_,rfl⟩
     have hq' : decide (z ∈ m'.dsL y) = q:=by rw [u1]; exact hq
     have hb3 : ([] : List Bool) ++ (Q.take (k + 1)).map (fun b => decide (b ∈ under m1.D Q y)) = b2 ++ [q]:=by
      rw [hb2,List.take_add_one,List.getElem?_eq_getElem h2,Option.toList_some,List.map_append,List.map_cons,List.map_nil,List.append_assoc,← nth_eq (d:=0) h2,hz,hq]
     have hbl2 : b2.length ≤ 2000:=by
      have h3 : b2.length = (([] : List Bool)).length + (Q.take k).length:=by rw [hb2,List.length_append,List.length_map]
      rw [List.length_take] at h3
      simp only [List.length_cons,List.length_nil] at hbn h3
      omega
     have hcq : clean (bH h m3 r2 [B cq]).length (bH h m3 r2 [B cq]) = true:=by rw [bH_len]; exact hclq m3
     have hnq : h.length ≤ (bH h m3 r2 [B cq]).length:=by rw [bH_len]; omega
     cases b2 with
     | nil =>
      simp only [bSl,bLS]
      refine run_sound (Tab.ok_Γ _) 300 _ _ _ _ ?_
      simp (maxSteps:=999999) only [EV0,zx,zw,zv,zu,zq,zp,zj,zk,zg,leT,zZ,rvC,zY,zX,zW,zV,↓zU,↓zQ,reduceCtorEq,yz,yy,yY,yx,yw,yv,yu,yq,yp,yX,yj,yk,yg,yW,yV,yU,yZ,yQ,xz,TFa,belG,belM,bH_fm,hcc,hBx,hq',hm3,d1,d2,d3,f1,f2,f3,f4,g1,g2,Int.toNat_natCast,put,fillP]
      intro ck hck
      refine IH2 (k + 1,[q],ck,m3) _ (by simp only; omega) ⟨by simp only; omega,hb3.symm,by simpa using hck,u2⟩ ?_
      simp only [bSl,bLS,bolB,List.map_cons,List.map_nil,List.length_nil,Nat.zero_add,Nat.mul_one,List.cons_append,List.nil_append]
      refine Wk.sel [0,2] (by decide) hnq ?_ ?_ ?_ ?_ hcq (clean_pick hcq _)
      ·simp only [EV0,zx,zw,zv,zu,zq,zp,zj,zk,zg,leT,zZ,rvC,zY,zX,zW,zV,↓zU,↓zQ,reduceCtorEq,yz,yy,yY,yx,yw,yv,yu,yq,yp,yX,yj,yk,yg,yW,yV,yU,yZ,yQ,xz,List.nil_append,Blk.ren,V.ren,C.ren,S_ren,wc_ren,R.pick_g,R.pick_0,R.pick_s,List.map_append,wc_cons,wc_snoc,wc_nil,Nat.mul_one,hxbm,hxbv,hspk,hsv,v0,v4,v5,bH_len,List.length_cons,List.length_nil,Nat.zero_add]
      ·simp only [EV0,zx,zw,zv,zu,zq,zp,zj,zk,zg,leT,zZ,rvC,zY,zX,zW,zV,↓zU,↓zQ,reduceCtorEq,yz,yy,yY,yx,yw,yv,yu,yq,yp,yX,yj,yk,yg,yW,yV,yU,yZ,yQ,xz,List.nil_append,Blk.ren,V.ren,C.ren,S_ren,wc_ren,R.pick_g,R.pick_0,R.pick_s,Nat.mul_one,hxbm,hxbv,hspk,hsv,v0,v4,v5,bH_len,List.length_cons,List.length_nil,Nat.zero_add]
      ·simp (maxSteps:=999999) only [EV0,zx,zw,zv,zu,zq,zp,zj,zk,zg,leT,zZ,rvC,zY,zX,zW,zV,↓zU,↓zQ,reduceCtorEq,yz,yy,yY,yx,yw,yv,yu,yq,yp,yX,yj,yk,yg,yW,yV,yU,yZ,yQ,xz,List.nil_append,app_len,nlt0,nltn,reduceLT,Nat.le_add_right,Nat.mul_one,hxbm,hxbv,hspk,hsv,v0,v4,v5,bH_len,List.length_cons,List.length_nil,Nat.zero_add]
      ·simp (maxSteps:=999999) only [EV0,zx,zw,zv,zu,zq,zp,zj,zk,zg,leT,zZ,rvC,zY,zX,zW,zV,↓zU,↓zQ,reduceCtorEq,yz,yy,yY,yx,yw,yv,yu,yq,yp,yX,yj,yk,yg,yW,yV,yU,yZ,yQ,xz,List.nil_append,app_len,nlt0,nltn,reduceLT,Nat.le_add_right,vals_cons,vals_nil,wc_val,wc_vals,Nat.mul_one,hxbm,hxbv,hspk,hsv,v0,v4,v5,bH_len,List.length_cons,List.length_nil,Nat.zero_add]
     | cons w b2 =>
      obtain ⟨BU,hBU⟩ : ∃ BU,bolB (w :: b2) = BU:=⟨_,rfl⟩
      obtain ⟨q1,q2,q3,q4,q5,q6⟩:=bolB_is (w :: b2)
      rw [hBU] at q1 q2 q3 q4 q5 q6
      have hq3 : ∀ a b,BU.all (S.val a b) = true:=fun u v => by have:=q3 u v; simpa only [vals] using this
      simp only [bSl,bLS,hBU,List.cons_append,List.nil_append]
      refine run_sound (Tab.ok_Γ _) 300 _ _ _ _ ?_
      simp (maxSteps:=999999) only [EV0,zx,zw,zv,zu,zq,zp,zj,zk,zg,leT,zZ,rvC,zY,zX,zW,zV,↓zU,↓zQ,reduceCtorEq,yz,yy,yY,yx,yw,yv,yu,yq,yp,yX,yj,yk,yg,yW,yV,yU,yZ,yQ,xz,TFa,belG,belM,bH_fm,hcc,hBx,hq',hm3,d1,d2,d3,f1,f2,f3,f4,g1,g2,Int.toNat_natCast,put,fillP,q1,q2,q3,q4,hxbn,hsnm]
      refine ⟨by simp only [List.length_cons] at hbl2; omega,fun ck hck => ?_⟩
      refine IH2 (k + 1,w :: b2 ++ [q],ck,m3) _ (by simp only; omega) ⟨by simp only; omega,hb3.symm,by simp only [List.length_append,List.length_cons,List.length_nil] at hck ⊢; omega,u2⟩ ?_
      have hB2 : bolB (w :: (b2 ++ [q])) = BU ++ [.b q]:=by rw [← hBU,bolB_app]; rfl
      have hl2 : (b2 ++ [q]).length + 1 = b2.length + 1 + 1:=by simp
      simp only [bSl,bLS,List.cons_append,List.nil_append,hB2,hl2,Nat.mul_one]
      refine Wk.sel [0,1] (by decide) hnq ?_ ?_ ?_ ?_ hcq (clean_pick hcq _)
      ·simp only [EV0,zx,zw,zv,zu,zq,zp,zj,zk,zg,leT,zZ,rvC,zY,zX,zW,zV,↓zU,↓zQ,reduceCtorEq,yz,yy,yY,yx,yw,yv,yu,yq,yp,yX,yj,yk,yg,yW,yV,yU,yZ,yQ,xz,List.nil_append,Blk.ren,V.ren,C.ren,S_ren,wc_ren,R.pick_g,R.pick_0,R.pick_s,List.map_append,wc_cons,wc_snoc,wc_nil,Nat.mul_one,hxbm,hxbv,hspk,hsv,v0,v4,v5,bH_len,List.length_cons,List.length_nil,Nat.zero_add,hq3,q5,List.map_append,List.map_cons,List.map_nil,vals,List.all_append]
      ·simp only [EV0,zx,zw,zv,zu,zq,zp,zj,zk,zg,leT,zZ,rvC,zY,zX,zW,zV,↓zU,↓zQ,reduceCtorEq,yz,yy,yY,yx,yw,yv,yu,yq,yp,yX,yj,yk,yg,yW,yV,yU,yZ,yQ,xz,List.nil_append,Blk.ren,V.ren,C.ren,S_ren,wc_ren,R.pick_g,R.pick_0,R.pick_s,Nat.mul_one,hxbm,hxbv,hspk,hsv,v0,v4,v5,bH_len,List.length_cons,List.length_nil,Nat.zero_add,hq3,q5,List.map_append,List.map_cons,List.map_nil,vals,List.all_append]
      ·simp (maxSteps:=999999) only [EV0,zx,zw,zv,zu,zq,zp,zj,zk,zg,leT,zZ,rvC,zY,zX,zW,zV,↓zU,↓zQ,reduceCtorEq,yz,yy,yY,yx,yw,yv,yu,yq,yp,yX,yj,yk,yg,yW,yV,yU,yZ,yQ,xz,List.nil_append,app_len,nlt0,nltn,reduceLT,Nat.le_add_right,Nat.mul_one,hxbm,hxbv,hspk,hsv,v0,v4,v5,bH_len,List.length_cons,List.length_nil,Nat.zero_add,hq3,q5,List.map_append,List.map_cons,List.map_nil,vals,List.all_append]
      ·simp (maxSteps:=999999) only [EV0,zx,zw,zv,zu,zq,zp,zj,zk,zg,leT,zZ,rvC,zY,zX,zW,zV,↓zU,↓zQ,reduceCtorEq,yz,yy,yY,yx,yw,yv,yu,yq,yp,yX,yj,yk,yg,yW,yV,yU,yZ,yQ,xz,List.nil_append,app_len,nlt0,nltn,reduceLT,Nat.le_add_right,vals_cons,vals_nil,wc_val,wc_vals,Nat.mul_one,hxbm,hxbv,hspk,hsv,v0,v4,v5,bH_len,List.length_cons,List.length_nil,Nat.zero_add,hq3,q5,List.map_append,List.map_cons,List.map_nil,vals,List.all_append]
    ·have e0 : k = Q.length:=by omega
     subst e0
     clear IH2
     rw [List.take_length] at hb2
     have hb4 : b2 = (Q.take (i + 1)).flatMap row:=by rw [hnext,hb2,row']
     cases b2 with
     | nil =>
      simp only [bSl,bLS]
      refine run_sound (Tab.ok_Γ _) 300 _ _ _ _ ?_
      simp (maxSteps:=999999) only [EV0,zx,zw,zv,zu,zq,zp,zj,zk,zg,leT,zZ,rvC,zY,zX,zW,zV,↓zU,↓zQ,reduceCtorEq,yz,yy,yY,yx,yw,yv,yu,yq,yp,yX,yj,yk,yg,yW,yV,yU,yZ,yQ,xz,TFa,Int.lt_irrefl,d4]
      refine IH (i + 1,[],c2,m') _ (by simp only; omega) ⟨by simp only; omega,hb4,hc2,hw'⟩ ?_
      refine Wk.same rfl rfl ?_
      simp (maxSteps:=999999) only [EV0,zx,zw,zv,zu,zq,zp,zj,zk,zg,leT,zZ,rvC,zY,zX,zW,zV,↓zU,↓zQ,reduceCtorEq,yz,yy,yY,yx,yw,yv,yu,yq,yp,yX,yj,yk,yg,yW,yV,yU,yZ,yQ,xz,bSl]
     | cons w b2 =>
      simp only [bSl,bLS,List.cons_append,List.nil_append]
      refine run_sound (Tab.ok_Γ _) 300 _ _ _ _ ?_
      simp (maxSteps:=999999) only [EV0,zx,zw,zv,zu,zq,zp,zj,zk,zg,leT,zZ,rvC,zY,zX,zW,zV,↓zU,↓zQ,reduceCtorEq,yz,yy,yY,yx,yw,yv,yu,yq,yp,yX,yj,yk,yg,yW,yV,yU,yZ,yQ,xz,TFa,Int.lt_irrefl,d4]
      refine IH (i + 1,w :: b2,c2,m') _ (by simp only; omega) ⟨by simp only; omega,hb4,hc2,hw'⟩ ?_
      refine Wk.same rfl rfl ?_
      simp (maxSteps:=999999) only [EV0,zx,zw,zv,zu,zq,zp,zj,zk,zg,leT,zZ,rvC,zY,zX,zW,zV,↓zU,↓zQ,reduceCtorEq,yz,yy,yY,yx,yw,yv,yu,yq,yp,yX,yj,yk,yg,yW,yV,yU,yZ,yQ,xz,bSl]
   | cons b0 bl =>
    simp only [bSl,bLS,List.cons_append,List.nil_append]
    refine run_sound (Tab.ok_Γ _) 300 _ _ _ _ ?_
    simp (maxSteps:=999999) only [EV0,zx,zw,zv,zu,zq,zp,zj,zk,zg,leT,zZ,rvC,zY,zX,zW,zV,↓zU,↓zQ,reduceCtorEq,yz,yy,yY,yx,yw,yv,yu,yq,yp,yX,yj,yk,yg,yW,yV,yU,yZ,yQ,xz,TFa,d1,d2,d3,d4,put,fillP]
    refine loop_rule (α:=Nat × List Bool × Nat × M) [10,12,13,75,76,77,78,79,80,81,82,83,84,85,86,87,88,89,90,91,92,93,94,95,96,97] (fun z => [(10, .s (bSl 1 z.2.1 z.2.2.1)),(12, .s (.i .i64 (z.1 : Int)))]) (fun z => bLS [XB] z.2.1 z.2.2.1) (fun z => bH h z.2.2.2 r2 [B cq]) (fun z => z.1 ≤ Q.length ∧ z.2.1 = (b0 :: bl) ++ (Q.take z.1).map (fun b => decide (b ∈ under m1.D Q y)) ∧ z.2.1.length ≤ z.2.2.1 ∧ z.2.2.2.w = m1.w) (fun z => Q.length - z.1) (0,(b0 :: bl),cp,mi) ⟨Nat.zero_le _,by simp,hcp,hwi⟩ ?_ ?_
    ·refine Wk.same rfl rfl ?_
     simp (maxSteps:=999999) only [EV0,zx,zw,zv,zu,zq,zp,zj,zk,zg,leT,zZ,rvC,zY,zX,zW,zV,↓zU,↓zQ,reduceCtorEq,yz,yy,yY,yx,yw,yv,yu,yq,yp,yX,yj,yk,yg,yW,yV,yU,yZ,yQ,xz,Int.natCast_zero,bSl]
    rintro X2 ⟨k,b2,c2,m'⟩ ⟨hk,hb2,hc2,hw'⟩ IH2
    simp only at hk hb2 hc2 hw' ⊢
    have hnq : h.length ≤ (bH h m' r2 [B cq]).length:=by rw [bH_len]; omega
    rcases Nat.lt_or_ge k Q.length with h2 | h2
    ·obtain ⟨f1,f2,f3,f4⟩:=idx h2 (by omega)
     obtain ⟨z,hz⟩ : ∃ z,nth 0 Q k = z:=⟨_,rfl⟩
     have g2:=intsB_get h2
     rw [hz] at g2
     obtain ⟨u1,u2,_⟩:=hun m' y hw'
     obtain ⟨m3,hm3⟩ : ∃ m3,(m'.dsO y).2 = m3:=⟨_,rfl⟩
     rw [hm3] at u2
     obtain ⟨q,hq⟩ : ∃ q,decide (z ∈ under m1.D Q y) = q:=⟨_,rfl⟩
     have hq' : decide (z ∈ m'.dsL y) = q:=by rw [u1]; exact hq
     have hb3 : (b0 :: bl) ++ (Q.take (k + 1)).map (fun b => decide (b ∈ under m1.D Q y)) = b2 ++ [q]:=by
      rw [hb2,List.take_add_one,List.getElem?_eq_getElem h2,Option.toList_some,List.map_append,List.map_cons,List.map_nil,List.append_assoc,← nth_eq (d:=0) h2,hz,hq]
     have hbl2 : b2.length ≤ 2000:=by
      have h3 : b2.length = ((b0 :: bl)).length + (Q.take k).length:=by rw [hb2,List.length_append,List.length_map]
      rw [List.length_take] at h3
      simp only [List.length_cons,List.length_nil] at hbn h3
      omega
     have hcq : clean (bH h m3 r2 [B cq]).length (bH h m3 r2 [B cq]) = true:=by rw [bH_len]; exact hclq m3
     have hnq : h.length ≤ (bH h m3 r2 [B cq]).length:=by rw [bH_len]; omega
     cases b2 with
     | nil =>
      simp only [bSl,bLS]
      refine run_sound (Tab.ok_Γ _) 300 _ _ _ _ ?_
      simp (maxSteps:=999999) only [EV0,zx,zw,zv,zu,zq,zp,zj,zk,zg,leT,zZ,rvC,zY,zX,zW,zV,↓zU,↓zQ,reduceCtorEq,yz,yy,yY,yx,yw,yv,yu,yq,yp,yX,yj,yk,yg,yW,yV,yU,yZ,yQ,xz,TFa,belG,belM,bH_fm,hcc,hBx,hq',hm3,d1,d2,d3,f1,f2,f3,f4,g1,g2,Int.toNat_natCast,put,fillP]
      intro ck hck
      refine IH2 (k + 1,[q],ck,m3) _ (by simp only; omega) ⟨by simp only; omega,hb3.symm,by simpa using hck,u2⟩ ?_
      simp only [bSl,bLS,bolB,List.map_cons,List.map_nil,List.length_nil,Nat.zero_add,Nat.mul_one,List.cons_append,List.nil_append]
      refine Wk.sel [0,2] (by decide) hnq ?_ ?_ ?_ ?_ hcq (clean_pick hcq _)
      ·simp only [EV0,zx,zw,zv,zu,zq,zp,zj,zk,zg,leT,zZ,rvC,zY,zX,zW,zV,↓zU,↓zQ,reduceCtorEq,yz,yy,yY,yx,yw,yv,yu,yq,yp,yX,yj,yk,yg,yW,yV,yU,yZ,yQ,xz,List.nil_append,Blk.ren,V.ren,C.ren,S_ren,wc_ren,R.pick_g,R.pick_0,R.pick_s,List.map_append,wc_cons,wc_snoc,wc_nil,Nat.mul_one,hxbm,hxbv,hspk,hsv,v0,v4,v5,bH_len,List.length_cons,List.length_nil,Nat.zero_add]
      ·simp only [EV0,zx,zw,zv,zu,zq,zp,zj,zk,zg,leT,zZ,rvC,zY,zX,zW,zV,↓zU,↓zQ,reduceCtorEq,yz,yy,yY,yx,yw,yv,yu,yq,yp,yX,yj,yk,yg,yW,yV,yU,yZ,yQ,xz,List.nil_append,Blk.ren,V.ren,C.ren,S_ren,wc_ren,R.pick_g,R.pick_0,R.pick_s,Nat.mul_one,hxbm,hxbv,hspk,hsv,v0,v4,v5,bH_len,List.length_cons,List.length_nil,Nat.zero_add]
      ·simp (maxSteps:=999999) only [EV0,zx,zw,zv,zu,zq,zp,zj,zk,zg,leT,zZ,rvC,zY,zX,zW,zV,↓zU,↓zQ,reduceCtorEq,yz,yy,yY,yx,yw,yv,yu,yq,yp,yX,yj,yk,yg,yW,yV,yU,yZ,yQ,xz,List.nil_append,app_len,nlt0,nltn,reduceLT,Nat.le_add_right,Nat.mul_one,hxbm,hxbv,hspk,hsv,v0,v4,v5,bH_len,List.length_cons,List.length_nil,Nat.zero_add]
      ·simp (maxSteps:=999999) only [EV0,zx,zw,zv,zu,zq,zp,zj,zk,zg,leT,zZ,rvC,zY,zX,zW,zV,↓zU,↓zQ,reduceCtorEq,yz,yy,yY,yx,yw,yv,yu,yq,yp,yX,yj,yk,yg,yW,yV,yU,yZ,yQ,xz,List.nil_append,app_len,nlt0,nltn,reduceLT,Nat.le_add_right,vals_cons,vals_nil,wc_val,wc_vals,Nat.mul_one,hxbm,hxbv,hspk,hsv,v0,v4,v5,bH_len,List.length_cons,List.length_nil,Nat.zero_add]
     | cons w b2 =>
      obtain ⟨BU,hBU⟩ : ∃ BU,bolB (w :: b2) = BU:=⟨_,rfl⟩
      obtain ⟨q1,q2,q3,q4,q5,q6⟩:=bolB_is (w :: b2)
      rw [hBU] at q1 q2 q3 q4 q5 q6
      have hq3 : ∀ a b,BU.all (S.val a b) = true:=fun u v => by have:=q3 u v; simpa only [vals] using this
      simp only [bSl,bLS,hBU,List.cons_append,List.nil_append]
      refine run_sound (Tab.ok_Γ _) 300 _ _ _ _ ?_
      simp (maxSteps:=999999) only [EV0,zx,zw,zv,zu,zq,zp,zj,zk,zg,leT,zZ,rvC,zY,zX,zW,zV,↓zU,↓zQ,reduceCtorEq,yz,yy,yY,yx,yw,yv,yu,yq,yp,yX,yj,yk,yg,yW,yV,yU,yZ,yQ,xz,TFa,belG,belM,bH_fm,hcc,hBx,hq',hm3,d1,d2,d3,f1,f2,f3,f4,g1,g2,Int.toNat_natCast,put,fillP,q1,q2,q3,q4,hxbn,hsnm]
      refine ⟨by simp only [List.length_cons] at hbl2; omega,fun ck hck => ?_⟩
      refine IH2 (k + 1,w :: b2 ++ [q],ck,m3) _ (by simp only; omega) ⟨by simp only; omega,hb3.symm,by simp only [List.length_append,List.length_cons,List.length_nil] at hck ⊢; omega,u2⟩ ?_
      have hB2 : bolB (w :: (b2 ++ [q])) = BU ++ [.b q]:=by rw [← hBU,bolB_app]; rfl
      have hl2 : (b2 ++ [q]).length + 1 = b2.length + 1 + 1:=by simp
      simp only [bSl,bLS,List.cons_append,List.nil_append,hB2,hl2,Nat.mul_one]
      refine Wk.sel [0,1] (by decide) hnq ?_ ?_ ?_ ?_ hcq (clean_pick hcq _)
      ·simp only [EV0,zx,zw,zv,zu,zq,zp,zj,zk,zg,leT,zZ,rvC,zY,zX,zW,zV,↓zU,↓zQ,reduceCtorEq,yz,yy,yY,yx,yw,yv,yu,yq,yp,yX,yj,yk,yg,yW,yV,yU,yZ,yQ,xz,List.nil_append,Blk.ren,V.ren,C.ren,S_ren,wc_ren,R.pick_g,R.pick_0,R.pick_s,List.map_append,wc_cons,wc_snoc,wc_nil,Nat.mul_one,hxbm,hxbv,hspk,hsv,v0,v4,v5,bH_len,List.length_cons,List.length_nil,Nat.zero_add,hq3,q5,List.map_append,List.map_cons,List.map_nil,vals,List.all_append]
      ·simp only [EV0,zx,zw,zv,zu,zq,zp,zj,zk,zg,leT,zZ,rvC,zY,zX,zW,zV,↓zU,↓zQ,reduceCtorEq,yz,yy,yY,yx,yw,yv,yu,yq,yp,yX,yj,yk,yg,yW,yV,yU,yZ,yQ,xz,List.nil_append,Blk.ren,V.ren,C.ren,S_ren,wc_ren,R.pick_g,R.pick_0,R.pick_s,Nat.mul_one,hxbm,hxbv,hspk,hsv,v0,v4,v5,bH_len,List.length_cons,List.length_nil,Nat.zero_add,hq3,q5,List.map_append,List.map_cons,List.map_nil,vals,List.all_append]
      ·simp (maxSteps:=999999) only [EV0,zx,zw,zv,zu,zq,zp,zj,zk,zg,leT,zZ,rvC,zY,zX,zW,zV,↓zU,↓zQ,reduceCtorEq,yz,yy,yY,yx,yw,yv,yu,yq,yp,yX,yj,yk,yg,yW,yV,yU,yZ,yQ,xz,List.nil_append,app_len,nlt0,nltn,reduceLT,Nat.le_add_right,Nat.mul_one,hxbm,hxbv,hspk,hsv,v0,v4,v5,bH_len,List.length_cons,List.length_nil,Nat.zero_add,hq3,q5,List.map_append,List.map_cons,List.map_nil,vals,List.all_append]
      ·simp (maxSteps:=999999) only [EV0,zx,zw,zv,zu,zq,zp,zj,zk,zg,leT,zZ,rvC,zY,zX,zW,zV,↓zU,↓zQ,reduceCtorEq,yz,yy,yY,yx,yw,yv,yu,yq,yp,yX,yj,yk,yg,yW,yV,yU,yZ,yQ,xz,List.nil_append,app_len,nlt0,nltn,reduceLT,Nat.le_add_right,vals_cons,vals_nil,wc_val,wc_vals,Nat.mul_one,hxbm,hxbv,hspk,hsv,v0,v4,v5,bH_len,List.length_cons,List.length_nil,Nat.zero_add,hq3,q5,List.map_append,List.map_cons,List.map_nil,vals,List.all_append]
    ·have e0 : k = Q.length:=by omega
     subst e0
     clear IH2
     rw [List.take_length] at hb2
     have hb4 : b2 = (Q.take (i + 1)).flatMap row:=by rw [hnext,hb2,row']
     cases b2 with
     | nil =>
      simp only [bSl,bLS]
      refine run_sound (Tab.ok_Γ _) 300 _ _ _ _ ?_
      simp (maxSteps:=999999) only [EV0,zx,zw,zv,zu,zq,zp,zj,zk,zg,leT,zZ,rvC,zY,zX,zW,zV,↓zU,↓zQ,reduceCtorEq,yz,yy,yY,yx,yw,yv,yu,yq,yp,yX,yj,yk,yg,yW,yV,yU,yZ,yQ,xz,TFa,Int.lt_irrefl,d4]
      refine IH (i + 1,[],c2,m') _ (by simp only; omega) ⟨by simp only; omega,hb4,hc2,hw'⟩ ?_
      refine Wk.same rfl rfl ?_
      simp (maxSteps:=999999) only [EV0,zx,zw,zv,zu,zq,zp,zj,zk,zg,leT,zZ,rvC,zY,zX,zW,zV,↓zU,↓zQ,reduceCtorEq,yz,yy,yY,yx,yw,yv,yu,yq,yp,yX,yj,yk,yg,yW,yV,yU,yZ,yQ,xz,bSl]
     | cons w b2 =>
      simp only [bSl,bLS,List.cons_append,List.nil_append]
      refine run_sound (Tab.ok_Γ _) 300 _ _ _ _ ?_
      simp (maxSteps:=999999) only [EV0,zx,zw,zv,zu,zq,zp,zj,zk,zg,leT,zZ,rvC,zY,zX,zW,zV,↓zU,↓zQ,reduceCtorEq,yz,yy,yY,yx,yw,yv,yu,yq,yp,yX,yj,yk,yg,yW,yV,yU,yZ,yQ,xz,TFa,Int.lt_irrefl,d4]
      refine IH (i + 1,w :: b2,c2,m') _ (by simp only; omega) ⟨by simp only; omega,hb4,hc2,hw'⟩ ?_
      refine Wk.same rfl rfl ?_
      simp (maxSteps:=999999) only [EV0,zx,zw,zv,zu,zq,zp,zj,zk,zg,leT,zZ,rvC,zY,zX,zW,zV,↓zU,↓zQ,reduceCtorEq,yz,yy,yY,yx,yw,yv,yu,yq,yp,yX,yj,yk,yg,yW,yV,yU,yZ,yQ,xz,bSl]
  ·have e0 : i = Q.length:=by omega
   subst e0
   clear IH
   rw [List.take_length] at hbl
   have hbn : bl.length = Q.length * Q.length:=by rw [hbl,flat_len hrow]
   have hbp : 0 < Q.length * Q.length:=Nat.mul_pos hq hq
   obtain ⟨e2,mo,Q2,he2,S⟩:=hop mi hwi
   have Wi:=W1.of_w hwi
   have W2:=Wi.step S
   have hfam : ∀ a b,a ∈ Q → b ∈ Q → nmV ⟨1,xa,xb,xn⟩ e2 a ≠ 0 → nmV ⟨1,xa,xb,xn⟩ e2 b ≠ 0 → (nmV ⟨1,xa,xb,xn⟩ e2 b ∈ under mo.D Q2 (nmV ⟨1,xa,xb,xn⟩ e2 a) ↔ b ∈ under m1.D Q a):=fun a b ha hb h1 h2 => by
    have:=S.fam Wi ha hb h1 h2
    rw [D_w hwi] at this
    exact this
   have hun2 : ∀ (m' : M) (z : Int),m'.w = mo.w → m'.dsL z = under mo.D Q2 z ∧ (m'.dsO z).2.w = mo.w:=fun m' z e => by
    obtain ⟨z1,z2,_⟩:=(W2.of_w e).ds z
    rw [D_w e] at z1
    exact ⟨z1,z2.trans e⟩
   obtain ⟨b0,bt,rfl⟩ : ∃ b0 bt,bl = b0 :: bt:=by
    cases bl with
    | nil => simp only [List.length_nil] at hbn; omega
    | cons a b => exact ⟨a,b,rfl⟩
   obtain ⟨BU,hBU⟩ : ∃ BU,bolB (b0 :: bt) = BU:=⟨_,rfl⟩
   have hget : ∀ a b : Nat,a < Q.length → b < Q.length → BU[a * Q.length + b]? = some (.b (decide (nth 0 Q b ∈ under m1.D Q (nth 0 Q a)))):=fun a b h1 h2 => by
    rw [← hBU,hbl,bolB,List.getElem?_map,flat_get hrow h1 (by omega)]
    rw [← nth_eq (d:=0) h1]
    simp only [row',List.getElem?_map,List.getElem?_eq_getElem h2,Option.map_some,← nth_eq (d:=0) h2]
   simp only [bSl,bLS,hBU,List.cons_append,List.nil_append]
   have hbt : bt.length + 1 = Q.length * Q.length:=by simpa using hbn
   have hbm : Q.length * Q.length ≤ 40 * 40:=Nat.mul_le_mul (by omega) (by omega)
   by_cases ze : e2 = 0
   ·subst ze
    refine run_sound (Tab.ok_Γ _) 400 _ _ _ _ ?_
    simp (maxSteps:=999999) only [EV0,zx,zw,zv,zu,zq,zp,zj,zk,zg,leT,zZ,rvC,zY,zX,zW,zV,↓zU,↓zQ,reduceCtorEq,yz,yy,yY,yx,yw,yv,yu,yq,yp,yX,yj,yk,yg,yW,yV,yU,yZ,yQ,xz,TFa,insG,insM,movG,movM,swpG,swpM,remG,remM,bH_fm,hcc,he2,Int.lt_irrefl,← hXB,put,fillP]
    refine loop_rule (α:=Nat × M) [4,15,16,17,18,19,20,21,22,140,141,142,143,144,145,146,147,148,149,150,151,152,153,154,155,156,157,158,159,160,161,162,163,164,165,166,167,168,169,170,171,172,173,174,175,176,177,178,179,180,181,182,183,184,185,186,187,188,189,190,191,192,193,194,195,196,197,198,199,200,201,202,203,204,205,206,207,208,209,210,211,212,213,214,215,216,217,218,219,220,221,222,223,224,225,226,227,228,229,230,231,232,233,234,235,236,237,238,239,240,241,242,243,244,245,246] (fun z => [(15, .s (.i .i64 (z.1 : Int)))]) (fun _ => [XB,⟨.rw,BU,cp⟩]) (fun z => bH h z.2 r2 [B cq]) (fun z => z.1 ≤ Q.length ∧ z.2.w = mo.w) (fun z => Q.length - z.1) (0,mo) ⟨Nat.zero_le _,rfl⟩ ?_ ?_
    ·refine Wk.same (by rw [← hXB]) rfl ?_
     simp (maxSteps:=999999) only [EV0,zx,zw,zv,zu,zq,zp,zj,zk,zg,leT,zZ,rvC,zY,zX,zW,zV,↓zU,↓zQ,reduceCtorEq,yz,yy,yY,yx,yw,yv,yu,yq,yp,yX,yj,yk,yg,yW,yV,yU,yZ,yQ,xz,Int.natCast_zero]
    rintro X ⟨i,mi2⟩ ⟨hi2,hwi2⟩ IH
    simp only at hi2 hwi2 ⊢
    rcases Nat.lt_or_ge i Q.length with h1 | h1
    ·obtain ⟨d1,d2,d3,d4⟩:=idx h1 (by omega)
     obtain ⟨y,hy⟩ : ∃ y,nth 0 Q i = y:=⟨_,rfl⟩
     have hyQ : y ∈ Q:=by rw [← hy]; exact nth_mem h1
     have g1:=intsB_get h1
     rw [hy] at g1
     refine run_sound (Tab.ok_Γ _) 300 _ _ _ _ ?_
     simp (maxSteps:=999999) only [EV0,zx,zw,zv,zu,zq,zp,zj,zk,zg,leT,zZ,rvC,zY,zX,zW,zV,↓zU,↓zQ,reduceCtorEq,yz,yy,yY,yx,yw,yv,yu,yq,yp,yX,yj,yk,yg,yW,yV,yU,yZ,yQ,xz,TFa,d1,d2,d3,d4,put,fillP]
     refine loop_rule (α:=Nat × M) [4,16,17,18,19,146,147,148,149,150,151,152,153,154,155,156,157,158,159,160,161,162,163,164,165,166,167,168,169,170,171,172,173,174,175,176,177,178,179,180,181,182,183,184,185,186,187,188,189,190,191] (fun z => [(16, .s (.i .i64 (z.1 : Int)))]) (fun _ => [XB,⟨.rw,BU,cp⟩]) (fun z => bH h z.2 r2 [B cq]) (fun z => z.1 ≤ Q.length ∧ z.2.w = mo.w) (fun z => Q.length - z.1) (0,mi2) ⟨Nat.zero_le _,hwi2⟩ ?_ ?_
     ·refine Wk.same rfl rfl ?_
      simp (maxSteps:=999999) only [EV0,zx,zw,zv,zu,zq,zp,zj,zk,zg,leT,zZ,rvC,zY,zX,zW,zV,↓zU,↓zQ,reduceCtorEq,yz,yy,yY,yx,yw,yv,yu,yq,yp,yX,yj,yk,yg,yW,yV,yU,yZ,yQ,xz,Int.natCast_zero]
     rintro X2 ⟨k,m'⟩ ⟨hk,hw'⟩ IH2
     simp only at hk hw' ⊢
     rcases Nat.lt_or_ge k Q.length with h2 | h2
     ·obtain ⟨f1,f2,f3,f4⟩:=idx h2 (by omega)
      obtain ⟨z,hz⟩ : ∃ z,nth 0 Q k = z:=⟨_,rfl⟩
      have hzQ : z ∈ Q:=by rw [← hz]; exact nth_mem h2
      have g2:=intsB_get h2
      rw [hz] at g2
      have g3:=hget i k h1 h2
      rw [hy,hz] at g3
      obtain ⟨py,hpy⟩ : ∃ p,nmV ⟨1,xa,xb,xn⟩ 0 y = p:=⟨_,rfl⟩
      obtain ⟨pz,hpz⟩ : ∃ p,nmV ⟨1,xa,xb,xn⟩ 0 z = p:=⟨_,rfl⟩
      obtain ⟨u1,u2⟩:=hun2 m' py hw'
      obtain ⟨m3,hm3⟩ : ∃ m3,(m'.dsO py).2 = m3:=⟨_,rfl⟩
      rw [hm3] at u2
      have hff:=hfam y z hyQ hzQ
      rw [hpy,hpz,← u1] at hff
      obtain ⟨q,hq'⟩ : ∃ q,decide (pz ∈ m'.dsL py) = q:=⟨_,rfl⟩
      have hidx : i * Q.length + k < bt.length + 1:=by
       rw [hbt]
       have : i * Q.length + Q.length ≤ Q.length * Q.length:=by
        rw [← Nat.succ_mul]; exact Nat.mul_le_mul_right _ h1
       omega
      have w1 : IntKind.i64.wrap ((i : Int) * (Q.length : Int)) = ((i * Q.length : Nat) : Int):=by
       rw [← Int.natCast_mul,wrap64] <;> omega
      have w2 : IntKind.i64.wrap (((i * Q.length : Nat) : Int) + (k : Int)) = ((i * Q.length + k : Nat) : Int):=by rw [wrap64] <;> omega
      have w3 : ((i * Q.length + k : Nat) : Int) < ((bt.length + 1 : Nat) : Int):=by omega
      have w4 : (0 : Int) ≤ ((i * Q.length + k : Nat) : Int):=by omega
      by_cases zy : py = 0
      ·subst zy
       refine run_sound (Tab.ok_Γ _) 300 _ _ _ _ ?_
       simp (maxSteps:=999999) only [EV0,zx,zw,zv,zu,zq,zp,zj,zk,zg,leT,zZ,rvC,zY,zX,zW,zV,↓zU,↓zQ,reduceCtorEq,yz,yy,yY,yx,yw,yv,yu,yq,yp,yX,yj,yk,yg,yW,yV,yU,yZ,yQ,xz,TFa,belG,belM,namedG,bH_fm,hcc,hBx,hpy,hpz,hq',hm3,d1,d2,d3,f1,f2,f3,f4,g1,g2,Int.toNat_natCast,bne,← hXB,put,fillP]
       refine IH2 (k + 1,m3) _ (by simp only; omega) ⟨by simp only; omega,u2⟩ ?_
       refine Wk.same (by rw [← hXB]) rfl ?_
       simp (maxSteps:=999999) only [EV0,zx,zw,zv,zu,zq,zp,zj,zk,zg,leT,zZ,rvC,zY,zX,zW,zV,↓zU,↓zQ,reduceCtorEq,yz,yy,yY,yx,yw,yv,yu,yq,yp,yX,yj,yk,yg,yW,yV,yU,yZ,yQ,xz]
      ·have zy' : (py == 0) = false:=by simpa using zy
       by_cases zz : pz = 0
       ·subst zz
        refine run_sound (Tab.ok_Γ _) 300 _ _ _ _ ?_
        simp (maxSteps:=999999) only [EV0,zx,zw,zv,zu,zq,zp,zj,zk,zg,leT,zZ,rvC,zY,zX,zW,zV,↓zU,↓zQ,reduceCtorEq,yz,yy,yY,yx,yw,yv,yu,yq,yp,yX,yj,yk,yg,yW,yV,yU,yZ,yQ,xz,TFa,belG,belM,namedG,bH_fm,hcc,hBx,hpy,hpz,hq',hm3,d1,d2,d3,f1,f2,f3,f4,g1,g2,zy,zy',Int.toNat_natCast,bne,← hXB,put,fillP]
        refine IH2 (k + 1,m3) _ (by simp only; omega) ⟨by simp only; omega,u2⟩ ?_
        refine Wk.same (by rw [← hXB]) rfl ?_
        simp (maxSteps:=999999) only [EV0,zx,zw,zv,zu,zq,zp,zj,zk,zg,leT,zZ,rvC,zY,zX,zW,zV,↓zU,↓zQ,reduceCtorEq,yz,yy,yY,yx,yw,yv,yu,yq,yp,yX,yj,yk,yg,yW,yV,yU,yZ,yQ,xz]
       ·have zz' : (pz == 0) = false:=by simpa using zz
        have hqe : decide (z ∈ under m1.D Q y) = q:=by
         rw [← hq']
         exact decide_eq_decide.2 (hff zy zz).symm
        rw [hqe] at g3
        refine run_sound (Tab.ok_Γ _) 300 _ _ _ _ ?_
        simp (maxSteps:=999999) only [EV0,zx,zw,zv,zu,zq,zp,zj,zk,zg,leT,zZ,rvC,zY,zX,zW,zV,↓zU,↓zQ,reduceCtorEq,yz,yy,yY,yx,yw,yv,yu,yq,yp,yX,yj,yk,yg,yW,yV,yU,yZ,yQ,xz,TFa,belG,belM,namedG,bH_fm,hcc,hBx,hpy,hpz,hq',hm3,d1,d2,d3,f1,f2,f3,f4,g1,g2,g3,w1,w2,w3,w4,zy,zy',zz,zz',Int.toNat_natCast,bne,← hXB,put,fillP]
        refine IH2 (k + 1,m3) _ (by simp only; omega) ⟨by simp only; omega,u2⟩ ?_
        refine Wk.same (by rw [← hXB]) rfl ?_
        simp (maxSteps:=999999) only [EV0,zx,zw,zv,zu,zq,zp,zj,zk,zg,leT,zZ,rvC,zY,zX,zW,zV,↓zU,↓zQ,reduceCtorEq,yz,yy,yY,yx,yw,yv,yu,yq,yp,yX,yj,yk,yg,yW,yV,yU,yZ,yQ,xz]
     ·have e0 : k = Q.length:=by omega
      subst e0
      clear IH2
      obtain ⟨u1,u2⟩:=hun2 m' y hw'
      obtain ⟨m3,hm3⟩ : ∃ m3,(m'.dsO y).2 = m3:=⟨_,rfl⟩
      rw [hm3] at u2
      obtain ⟨u3,u4⟩:=hun2 m3 y u2
      obtain ⟨m4,hm4⟩ : ∃ m4,(m3.dsO y).2 = m4:=⟨_,rfl⟩
      rw [hm4] at u4
      obtain ⟨u5,u6⟩:=hun2 m4 xa u4
      obtain ⟨m5,hm5⟩ : ∃ m5,(m4.dsO xa).2 = m5:=⟨_,rfl⟩
      rw [hm5] at u6
      obtain ⟨r1,r2'⟩:=S.kid Wi rfl hyQ
      obtain ⟨ov,hov⟩ : ∃ b,decide (xb ∈ m3.dsL y) = b:=⟨_,rfl⟩
      have hov2 : xb ∈ under mo.D Q2 y ↔ ov = true:=by rw [← hov,u3]; simp
      have his : decide (xa ∈ m'.dsL y) = (y == xb || ov):=by
       rw [u1,Bool.eq_iff_iff]
       simp only [decide_eq_true_eq,Bool.or_eq_true,beq_iff_eq]
       exact r1.trans (or_congr_right hov2)
      have hud : decide (y ∈ m4.dsL xa) = false:=by rw [u5]; simpa using r2'
      have hnn : ((y == xb || ov) == (y == xb || ov)) = true:=by simp
      obtain ⟨isb,hisb⟩ : ∃ b,(y == xb || ov) = b:=⟨_,rfl⟩
      rw [hisb] at his
      cases hyb : y == xb
      ·rw [hyb,Bool.false_or] at hisb
       subst hisb
       refine run_sound (Tab.ok_Γ _) 300 _ _ _ _ ?_
       simp (maxSteps:=999999) only [EV0,zx,zw,zv,zu,zq,zp,zj,zk,zg,leT,zZ,rvC,zY,zX,zW,zV,↓zU,↓zQ,reduceCtorEq,yz,yy,yY,yx,yw,yv,yu,yq,yp,yX,yj,yk,yg,yW,yV,yU,yZ,yQ,xz,TFa,belG,belM,bH_fm,hcc,hBx,his,hov,hud,hm3,hm4,hm5,d1,d2,d3,g1,hyb,Int.lt_irrefl,← hXB,d4,Int.toNat_natCast,bne,put,fillP]
       refine IH (i + 1,m5) _ (by simp only; omega) ⟨by simp only; omega,u6⟩ ?_
       refine Wk.same (by rw [← hXB]) rfl ?_
       simp (maxSteps:=999999) only [EV0,zx,zw,zv,zu,zq,zp,zj,zk,zg,leT,zZ,rvC,zY,zX,zW,zV,↓zU,↓zQ,reduceCtorEq,yz,yy,yY,yx,yw,yv,yu,yq,yp,yX,yj,yk,yg,yW,yV,yU,yZ,yQ,xz]
      ·rw [hyb,Bool.true_or] at hisb
       subst hisb
       refine run_sound (Tab.ok_Γ _) 300 _ _ _ _ ?_
       simp (maxSteps:=999999) only [EV0,zx,zw,zv,zu,zq,zp,zj,zk,zg,leT,zZ,rvC,zY,zX,zW,zV,↓zU,↓zQ,reduceCtorEq,yz,yy,yY,yx,yw,yv,yu,yq,yp,yX,yj,yk,yg,yW,yV,yU,yZ,yQ,xz,TFa,belG,belM,bH_fm,hcc,hBx,his,hov,hud,hm3,hm4,hm5,d1,d2,d3,g1,hyb,Int.lt_irrefl,← hXB,d4,Int.toNat_natCast,bne,put,fillP]
       refine IH (i + 1,m5) _ (by simp only; omega) ⟨by simp only; omega,u6⟩ ?_
       refine Wk.same (by rw [← hXB]) rfl ?_
       simp (maxSteps:=999999) only [EV0,zx,zw,zv,zu,zq,zp,zj,zk,zg,leT,zZ,rvC,zY,zX,zW,zV,↓zU,↓zQ,reduceCtorEq,yz,yy,yY,yx,yw,yv,yu,yq,yp,yX,yj,yk,yg,yW,yV,yU,yZ,yQ,xz]
    ·have e0 : i = Q.length:=by omega
     subst e0
     clear IH
     refine run_sound (Tab.ok_Γ _) 300 _ _ _ _ ?_
     simp (maxSteps:=999999) only [EV0,zx,zw,zv,zu,zq,zp,zj,zk,zg,leT,zZ,rvC,zY,zX,zW,zV,↓zU,↓zQ,reduceCtorEq,yz,yy,yY,yx,yw,yv,yu,yq,yp,yX,yj,yk,yg,yW,yV,yU,yZ,yQ,xz,TFa,Int.lt_irrefl,bne]
     exact hK _
   ·have ze' : (e2 == 0) = false:=by simpa using ze
    refine run_sound (Tab.ok_Γ _) 400 _ _ _ _ ?_
    simp (maxSteps:=999999) only [EV0,zx,zw,zv,zu,zq,zp,zj,zk,zg,leT,zZ,rvC,zY,zX,zW,zV,↓zU,↓zQ,reduceCtorEq,yz,yy,yY,yx,yw,yv,yu,yq,yp,yX,yj,yk,yg,yW,yV,yU,yZ,yQ,xz,TFa,insG,insM,movG,movM,swpG,swpM,remG,remM,bH_fm,hcc,he2,Int.lt_irrefl,← hXB,ze,ze',put,fillP]
    refine loop_rule (α:=Nat × M) [4,15,16,17,18,19,20,21,22,140,141,142,143,144,145,146,147,148,149,150,151,152,153,154,155,156,157,158,159,160,161,162,163,164,165,166,167,168,169,170,171,172,173,174,175,176,177,178,179,180,181,182,183,184,185,186,187,188,189,190,191,192,193,194,195,196,197,198,199,200,201,202,203,204,205,206,207,208,209,210,211,212,213,214,215,216,217,218,219,220,221,222,223,224,225,226,227,228,229,230,231,232,233,234,235,236,237,238,239,240,241,242,243,244,245,246] (fun z => [(15, .s (.i .i64 (z.1 : Int)))]) (fun _ => [XB,⟨.rw,BU,cp⟩]) (fun z => bH h z.2 r2 [B cq]) (fun z => z.1 ≤ Q.length ∧ z.2.w = mo.w) (fun z => Q.length - z.1) (0,mo) ⟨Nat.zero_le _,rfl⟩ ?_ ?_
    ·refine Wk.same (by rw [← hXB]) rfl ?_
     simp (maxSteps:=999999) only [EV0,zx,zw,zv,zu,zq,zp,zj,zk,zg,leT,zZ,rvC,zY,zX,zW,zV,↓zU,↓zQ,reduceCtorEq,yz,yy,yY,yx,yw,yv,yu,yq,yp,yX,yj,yk,yg,yW,yV,yU,yZ,yQ,xz,Int.natCast_zero]
    rintro X ⟨i,mi2⟩ ⟨hi2,hwi2⟩ IH
    simp only at hi2 hwi2 ⊢
    rcases Nat.lt_or_ge i Q.length with h1 | h1
    ·obtain ⟨d1,d2,d3,d4⟩:=idx h1 (by omega)
     obtain ⟨y,hy⟩ : ∃ y,nth 0 Q i = y:=⟨_,rfl⟩
     have hyQ : y ∈ Q:=by rw [← hy]; exact nth_mem h1
     have g1:=intsB_get h1
     rw [hy] at g1
     refine run_sound (Tab.ok_Γ _) 300 _ _ _ _ ?_
     simp (maxSteps:=999999) only [EV0,zx,zw,zv,zu,zq,zp,zj,zk,zg,leT,zZ,rvC,zY,zX,zW,zV,↓zU,↓zQ,reduceCtorEq,yz,yy,yY,yx,yw,yv,yu,yq,yp,yX,yj,yk,yg,yW,yV,yU,yZ,yQ,xz,TFa,d1,d2,d3,d4,put,fillP]
     refine loop_rule (α:=Nat × M) [4,16,17,18,19,146,147,148,149,150,151,152,153,154,155,156,157,158,159,160,161,162,163,164,165,166,167,168,169,170,171,172,173,174,175,176,177,178,179,180,181,182,183,184,185,186,187,188,189,190,191] (fun z => [(16, .s (.i .i64 (z.1 : Int)))]) (fun _ => [XB,⟨.rw,BU,cp⟩]) (fun z => bH h z.2 r2 [B cq]) (fun z => z.1 ≤ Q.length ∧ z.2.w = mo.w) (fun z => Q.length - z.1) (0,mi2) ⟨Nat.zero_le _,hwi2⟩ ?_ ?_
     ·refine Wk.same rfl rfl ?_
      simp (maxSteps:=999999) only [EV0,zx,zw,zv,zu,zq,zp,zj,zk,zg,leT,zZ,rvC,zY,zX,zW,zV,↓zU,↓zQ,reduceCtorEq,yz,yy,yY,yx,yw,yv,yu,yq,yp,yX,yj,yk,yg,yW,yV,yU,yZ,yQ,xz,Int.natCast_zero]
     rintro X2 ⟨k,m'⟩ ⟨hk,hw'⟩ IH2
     simp only at hk hw' ⊢
     rcases Nat.lt_or_ge k Q.length with h2 | h2
     ·obtain ⟨f1,f2,f3,f4⟩:=idx h2 (by omega)
      obtain ⟨z,hz⟩ : ∃ z,nth 0 Q k = z:=⟨_,rfl⟩
      have hzQ : z ∈ Q:=by rw [← hz]; exact nth_mem h2
      have g2:=intsB_get h2
      rw [hz] at g2
      have g3:=hget i k h1 h2
      rw [hy,hz] at g3
      obtain ⟨py,hpy⟩ : ∃ p,nmV ⟨1,xa,xb,xn⟩ e2 y = p:=⟨_,rfl⟩
      obtain ⟨pz,hpz⟩ : ∃ p,nmV ⟨1,xa,xb,xn⟩ e2 z = p:=⟨_,rfl⟩
      obtain ⟨u1,u2⟩:=hun2 m' py hw'
      obtain ⟨m3,hm3⟩ : ∃ m3,(m'.dsO py).2 = m3:=⟨_,rfl⟩
      rw [hm3] at u2
      have hff:=hfam y z hyQ hzQ
      rw [hpy,hpz,← u1] at hff
      obtain ⟨q,hq'⟩ : ∃ q,decide (pz ∈ m'.dsL py) = q:=⟨_,rfl⟩
      have hidx : i * Q.length + k < bt.length + 1:=by
       rw [hbt]
       have : i * Q.length + Q.length ≤ Q.length * Q.length:=by
        rw [← Nat.succ_mul]; exact Nat.mul_le_mul_right _ h1
       omega
      have w1 : IntKind.i64.wrap ((i : Int) * (Q.length : Int)) = ((i * Q.length : Nat) : Int):=by
       rw [← Int.natCast_mul,wrap64] <;> omega
      have w2 : IntKind.i64.wrap (((i * Q.length : Nat) : Int) + (k : Int)) = ((i * Q.length + k : Nat) : Int):=by rw [wrap64] <;> omega
      have w3 : ((i * Q.length + k : Nat) : Int) < ((bt.length + 1 : Nat) : Int):=by omega
      have w4 : (0 : Int) ≤ ((i * Q.length + k : Nat) : Int):=by omega
      by_cases zy : py = 0
      ·subst zy
       refine run_sound (Tab.ok_Γ _) 300 _ _ _ _ ?_
       simp (maxSteps:=999999) only [EV0,zx,zw,zv,zu,zq,zp,zj,zk,zg,leT,zZ,rvC,zY,zX,zW,zV,↓zU,↓zQ,reduceCtorEq,yz,yy,yY,yx,yw,yv,yu,yq,yp,yX,yj,yk,yg,yW,yV,yU,yZ,yQ,xz,TFa,belG,belM,namedG,bH_fm,hcc,hBx,hpy,hpz,hq',hm3,d1,d2,d3,f1,f2,f3,f4,g1,g2,Int.toNat_natCast,bne,← hXB,put,fillP]
       refine IH2 (k + 1,m3) _ (by simp only; omega) ⟨by simp only; omega,u2⟩ ?_
       refine Wk.same (by rw [← hXB]) rfl ?_
       simp (maxSteps:=999999) only [EV0,zx,zw,zv,zu,zq,zp,zj,zk,zg,leT,zZ,rvC,zY,zX,zW,zV,↓zU,↓zQ,reduceCtorEq,yz,yy,yY,yx,yw,yv,yu,yq,yp,yX,yj,yk,yg,yW,yV,yU,yZ,yQ,xz]
      ·have zy' : (py == 0) = false:=by simpa using zy
       by_cases zz : pz = 0
       ·subst zz
        refine run_sound (Tab.ok_Γ _) 300 _ _ _ _ ?_
        simp (maxSteps:=999999) only [EV0,zx,zw,zv,zu,zq,zp,zj,zk,zg,leT,zZ,rvC,zY,zX,zW,zV,↓zU,↓zQ,reduceCtorEq,yz,yy,yY,yx,yw,yv,yu,yq,yp,yX,yj,yk,yg,yW,yV,yU,yZ,yQ,xz,TFa,belG,belM,namedG,bH_fm,hcc,hBx,hpy,hpz,hq',hm3,d1,d2,d3,f1,f2,f3,f4,g1,g2,zy,zy',Int.toNat_natCast,bne,← hXB,put,fillP]
        refine IH2 (k + 1,m3) _ (by simp only; omega) ⟨by simp only; omega,u2⟩ ?_
        refine Wk.same (by rw [← hXB]) rfl ?_
        simp (maxSteps:=999999) only [EV0,zx,zw,zv,zu,zq,zp,zj,zk,zg,leT,zZ,rvC,zY,zX,zW,zV,↓zU,↓zQ,reduceCtorEq,yz,yy,yY,yx,yw,yv,yu,yq,yp,yX,yj,yk,yg,yW,yV,yU,yZ,yQ,xz]
       ·have zz' : (pz == 0) = false:=by simpa using zz
        have hqe : decide (z ∈ under m1.D Q y) = q:=by
         rw [← hq']
         exact decide_eq_decide.2 (hff zy zz).symm
        rw [hqe] at g3
        refine run_sound (Tab.ok_Γ _) 300 _ _ _ _ ?_
        simp (maxSteps:=999999) only [EV0,zx,zw,zv,zu,zq,zp,zj,zk,zg,leT,zZ,rvC,zY,zX,zW,zV,↓zU,↓zQ,reduceCtorEq,yz,yy,yY,yx,yw,yv,yu,yq,yp,yX,yj,yk,yg,yW,yV,yU,yZ,yQ,xz,TFa,belG,belM,namedG,bH_fm,hcc,hBx,hpy,hpz,hq',hm3,d1,d2,d3,f1,f2,f3,f4,g1,g2,g3,w1,w2,w3,w4,zy,zy',zz,zz',Int.toNat_natCast,bne,← hXB,put,fillP]
        refine IH2 (k + 1,m3) _ (by simp only; omega) ⟨by simp only; omega,u2⟩ ?_
        refine Wk.same (by rw [← hXB]) rfl ?_
        simp (maxSteps:=999999) only [EV0,zx,zw,zv,zu,zq,zp,zj,zk,zg,leT,zZ,rvC,zY,zX,zW,zV,↓zU,↓zQ,reduceCtorEq,yz,yy,yY,yx,yw,yv,yu,yq,yp,yX,yj,yk,yg,yW,yV,yU,yZ,yQ,xz]
     ·have e0 : k = Q.length:=by omega
      subst e0
      clear IH2
      refine run_sound (Tab.ok_Γ _) 300 _ _ _ _ ?_
      simp (maxSteps:=999999) only [EV0,zx,zw,zv,zu,zq,zp,zj,zk,zg,leT,zZ,rvC,zY,zX,zW,zV,↓zU,↓zQ,reduceCtorEq,yz,yy,yY,yx,yw,yv,yu,yq,yp,yX,yj,yk,yg,yW,yV,yU,yZ,yQ,xz,TFa,Int.lt_irrefl,← hXB,d4,ze,ze',bne,put,fillP]
      refine IH (i + 1,m') _ (by simp only; omega) ⟨by simp only; omega,hw'⟩ ?_
      refine Wk.same (by rw [← hXB]) rfl ?_
      simp (maxSteps:=999999) only [EV0,zx,zw,zv,zu,zq,zp,zj,zk,zg,leT,zZ,rvC,zY,zX,zW,zV,↓zU,↓zQ,reduceCtorEq,yz,yy,yY,yx,yw,yv,yu,yq,yp,yX,yj,yk,yg,yW,yV,yU,yZ,yQ,xz]
    ·have e0 : i = Q.length:=by omega
     subst e0
     clear IH
     refine run_sound (Tab.ok_Γ _) 300 _ _ _ _ ?_
     simp (maxSteps:=999999) only [EV0,zx,zw,zv,zu,zq,zp,zj,zk,zg,leT,zZ,rvC,zY,zX,zW,zV,↓zU,↓zQ,reduceCtorEq,yz,yy,yY,yx,yw,yv,yu,yq,yp,yX,yj,yk,yg,yW,yV,yU,yZ,yQ,xz,TFa,Int.lt_irrefl,bne]
     exact hK _
 ·obtain ⟨m1,hm1⟩ : ∃ m1,m = m1:=⟨_,rfl⟩
  obtain ⟨r1,hr1⟩ : ∃ r1,r = r1:=⟨_,rfl⟩
  have hw1:=hw
  have W1:=W
  rw [hm1] at W1
  rw [hm1,hr1] at hw1
  obtain ⟨li1,li2,_⟩:=W1.li
  obtain ⟨m2,hm2⟩ : ∃ m2,m1.lis.2 = m2:=⟨_,rfl⟩
  rw [hm2] at li2
  obtain ⟨r2,hr2⟩ : ∃ r2,promX r1 ⟨2,xa,xb,xn⟩ = r2:=⟨_,rfl⟩
  cases hp : promV r1 ⟨2,xa,xb,xn⟩
  ·simp (maxSteps:=999999) only [EV0,zx,zw,zv,zu,zq,zp,zj,zk,zg,leT,zZ,rvC,zY,zX,zW,zV,↓zU,↓zQ,reduceCtorEq,yz,yy,yY,yx,yw,yv,yu,yq,yp,yX,yj,yk,yg,yW,yV,yU,yZ,yQ,xz,df5,TFa,awake11G,playedG,promG,promM,opF,lisAG,lisAM,lisA,bH_fm,bH_fr,bH_fb,bH_app,bH_len,hcc,hA,hF,hu1,l1,↓hlen,↓hkn,↓hnl,c1,Op.cl,erO,Option.getD_some,bne,List.length_nil,Nat.add_zero,List.nil_append,put,fillP,slA_known,slA_noL,slA_Cknown,slA_below,↓slA_len,hm1,hr1,li1,hm2,hr2,hp]
   repeat' first | exact hK _ | intro _
  by_cases c40 : (40 : Int) < (Q.length : Int)
  ·simp (maxSteps:=999999) only [EV0,zx,zw,zv,zu,zq,zp,zj,zk,zg,leT,zZ,rvC,zY,zX,zW,zV,↓zU,↓zQ,reduceCtorEq,yz,yy,yY,yx,yw,yv,yu,yq,yp,yX,yj,yk,yg,yW,yV,yU,yZ,yQ,xz,df5,TFa,awake11G,playedG,promG,promM,opF,lisAG,lisAM,lisA,bH_fm,bH_fr,bH_fb,bH_app,bH_len,hcc,hA,hF,hu1,l1,↓hlen,↓hkn,↓hnl,c1,Op.cl,erO,Option.getD_some,bne,List.length_nil,Nat.add_zero,List.nil_append,put,fillP,slA_known,slA_noL,slA_Cknown,slA_below,↓slA_len,hm1,hr1,li1,hm2,hr2,hp,c40]
   repeat' first | exact hK _ | intro _
  have hll : Q.length ≤ 40:=by omega
  obtain ⟨p1,p2⟩:=(W1.prom hw1 (x:=⟨2,xa,xb,xn⟩)).2 hp
  have hop : ∀ m' : M,m'.w = m1.w → ∃ e2 mo Q2,m'.mov xa xb = (e2,mo) ∧ St11 m' Q ⟨2,xa,xb,xn⟩ e2 mo Q2:=fun m' e => by
   obtain ⟨⟨Q2,S⟩,_⟩:=step_mov (W1.of_w e) (r:=m') rfl (x:=⟨2,xa,xb,xn⟩) rfl (okS_w e (p1.resolve_left (by simp))) (okS_w e (p2.resolve_left fun h => by simp at h))
   exact ⟨_,_,Q2,rfl,S⟩
  have hun : ∀ (m' : M) (z : Int),m'.w = m1.w → m'.dsL z = under m1.D Q z ∧ (m'.dsO z).2.w = m1.w ∧ True:=fun m' z e => by
   obtain ⟨z1,z2,_⟩:=(W1.of_w e).ds z
   rw [D_w e] at z1
   exact ⟨z1,z2.trans e,trivial⟩
  by_cases q0 : Q.length = 0
  ·have hQ:=List.eq_nil_of_length_eq_zero q0
   subst hQ
   have i0 : ¬ ((40 : Int) < (([] : List Int).length : Int)):=by decide
   obtain ⟨e2,mo,Q2,he2,S⟩:=hop m2 li2
   simp (maxSteps:=999999) only [EV0,zx,zw,zv,zu,zq,zp,zj,zk,zg,leT,zZ,rvC,zY,zX,zW,zV,↓zU,↓zQ,reduceCtorEq,yz,yy,yY,yx,yw,yv,yu,yq,yp,yX,yj,yk,yg,yW,yV,yU,yZ,yQ,xz,df5,TFa,awake11G,playedG,promG,promM,opF,lisAG,lisAM,lisA,bH_fm,bH_fr,bH_fb,bH_app,bH_len,hcc,hA,hF,hu1,l1,↓hlen,↓hkn,↓hnl,c1,Op.cl,erO,Option.getD_some,bne,List.length_nil,Nat.add_zero,List.nil_append,put,fillP,hm1,hr1,li1,hm2,hr2,hp,slA,bkA]
   intro cq _
   refine loop_rule (α:=Unit) [] (fun _ => []) (fun _ => [⟨.rw,[.i .i64 2, .i .i64 xa, .i .i64 xb, .i .i64 xn],4⟩]) (fun _ => bH h m2 r2 []) (fun _ => True) (fun _ => 0) () trivial .refl ?_
   rintro X _ _ _
   refine run_sound (Tab.ok_Γ _) 400 _ _ _ _ ?_
   simp (maxSteps:=999999) only [EV0,zx,zw,zv,zu,zq,zp,zj,zk,zg,leT,zZ,rvC,zY,zX,zW,zV,↓zU,↓zQ,reduceCtorEq,yz,yy,yY,yx,yw,yv,yu,yq,yp,yX,yj,yk,yg,yW,yV,yU,yZ,yQ,xz,TFa,insG,insM,movG,movM,swpG,swpM,remG,remM,bH_fm,hcc,he2,put,fillP]
   refine loop_rule (α:=Unit) [] (fun _ => []) (fun _ => [⟨.rw,[.i .i64 2, .i .i64 xa, .i .i64 xb, .i .i64 xn],4⟩]) (fun _ => bH h mo r2 []) (fun _ => True) (fun _ => 0) () trivial .refl ?_
   rintro X _ _ _
   refine run_sound (Tab.ok_Γ _) 400 _ _ _ _ ?_
   simp (maxSteps:=999999) only [EV0,zx,zw,zv,zu,zq,zp,zj,zk,zg,leT,zZ,rvC,zY,zX,zW,zV,↓zU,↓zQ,reduceCtorEq,yz,yy,yY,yx,yw,yv,yu,yq,yp,yX,yj,yk,yg,yW,yV,yU,yZ,yQ,xz,TFa,bne]
   exact hK _
  have hq : 0 < Q.length:=by omega
  have hsl : ∀ n c,slA n Q c = .sl (.g n) 0 Q.length c:=fun n c => slA_pos hq
  obtain ⟨B,hB⟩ : ∃ B : Nat → Blk,B = fun c => ⟨.rw,intsB Q,c⟩:=⟨_,rfl⟩
  have hbk : ∀ c,bkA Q c = [B c]:=fun c => by rw [hB]; exact bkA_pos hq
  have hBx : ∀ (m r : M) (c : Nat) (Y : List Blk),(bH h m r (B c :: Y))[h.length + 5]? = some ⟨.rw,intsB Q,c⟩:=fun m r c Y => by rw [hB]; exact bH_x _ _ _ _ _
  obtain ⟨row,hrw⟩ : ∃ row : Int → List Bool,row = fun a => Q.map fun b => decide (b ∈ under m1.D Q a):=⟨_,rfl⟩
  have row' : ∀ a,row a = Q.map fun b => decide (b ∈ under m1.D Q a):=fun a => by rw [hrw]
  have hrow : ∀ a,(row a).length = Q.length:=fun a => by rw [hrw]; simp
  have v0 : h.length < h.length + 5 + 1:=by omega
  have v4 : h.length + 4 < h.length + 5 + 1:=by omega
  have v5 : h.length + 5 < h.length + 5 + 1:=by omega
  simp (maxSteps:=999999) only [EV0,zx,zw,zv,zu,zq,zp,zj,zk,zg,leT,zZ,rvC,zY,zX,zW,zV,↓zU,↓zQ,reduceCtorEq,yz,yy,yY,yx,yw,yv,yu,yq,yp,yX,yj,yk,yg,yW,yV,yU,yZ,yQ,xz,df5,TFa,awake11G,playedG,promG,promM,opF,lisAG,lisAM,lisA,bH_fm,bH_fr,bH_fb,bH_app,bH_len,hcc,hA,hF,hu1,l1,↓hlen,↓hkn,↓hnl,c1,Op.cl,erO,Option.getD_some,bne,List.length_nil,Nat.add_zero,List.nil_append,put,fillP,hm1,hr1,li1,hm2,hr2,hp,c40,hsl,hbk]
  intro cq hcq0
  have hclq : ∀ m',clean (h.length + 5 + 1) (bH h m' r2 [B cq]) = true:=fun m' => by
   have:=bH_clean hc m' r2 (X:=[B cq]) (by rw [hB]; simp only [List.all_cons,List.all_nil,Bool.and_true]; exact (intsB_is Q).va _ _)
   rwa [bH_len] at this
  have hsv : ∀ k,s.val (h.length + 5 + 1) k = true:=fun k => Hs.sl.val (by omega)
  have hspk:=fun l => Hs.sl.pick l
  have hsnm:=fun k => Hs.sl.names k
  obtain ⟨XB,hXB⟩ : ∃ XB : Blk,(⟨.rw,[.i .i64 2, .i .i64 xa, .i .i64 xb, .i .i64 xn],4⟩ : Blk) = XB:=⟨_,rfl⟩
  have hxbm : ∀ ρ,XB.cells.map (S.ren ρ) = XB.cells:=fun ρ => by rw [← hXB]; rfl
  have hxbv : ∀ n k,XB.cells.all (S.val n k) = true:=fun n k => by rw [← hXB]; rfl
  have hxbn : ∀ k,XB.cells.all (fun s => !s.names k) = true:=fun k => by rw [← hXB]; rfl
  have hxbb : ∀ k,XB.cells.all (S.below k) = true:=fun k => by rw [← hXB]; rfl
  refine loop_rule (α:=Nat × List Bool × Nat × M) [10,11,12,13,69,70,71,72,73,74,75,76,77,78,79,80,81,82,83,84,85,86,87,88,89,90,91,92,93,94,95,96,97] (fun z => [(10, .s (bSl 1 z.2.1 z.2.2.1)),(11, .s (.i .i64 (z.1 : Int)))]) (fun z => bLS [XB] z.2.1 z.2.2.1) (fun z => bH h z.2.2.2 r2 [B cq]) (fun z => z.1 ≤ Q.length ∧ z.2.1 = (Q.take z.1).flatMap row ∧ z.2.1.length ≤ z.2.2.1 ∧ z.2.2.2.w = m1.w) (fun z => Q.length - z.1) (0,[],0,m2) ⟨Nat.zero_le _,rfl,Nat.zero_le _,li2⟩ ?_ ?_
  ·refine Wk.same (by rw [← hXB]; rfl) rfl ?_
   simp (maxSteps:=999999) only [EV0,zx,zw,zv,zu,zq,zp,zj,zk,zg,leT,zZ,rvC,zY,zX,zW,zV,↓zU,↓zQ,reduceCtorEq,yz,yy,yY,yx,yw,yv,yu,yq,yp,yX,yj,yk,yg,yW,yV,yU,yZ,yQ,xz,Int.natCast_zero,bSl]
  rintro X ⟨i,bl,cp,mi⟩ ⟨hi,hbl,hcp,hwi⟩ IH
  simp only at hi hbl hcp hwi ⊢
  rcases Nat.lt_or_ge i Q.length with h1 | h1
  ·obtain ⟨d1,d2,d3,d4⟩:=idx h1 (by omega)
   obtain ⟨y,hy⟩ : ∃ y,nth 0 Q i = y:=⟨_,rfl⟩
   have hyQ : y ∈ Q:=by rw [← hy]; exact nth_mem h1
   have g1:=intsB_get h1
   rw [hy] at g1
   have hbn : bl.length = i * Q.length:=by rw [hbl,flat_len hrow,List.length_take]; congr 1; omega
   have hbm : i * Q.length ≤ 40 * 40:=Nat.mul_le_mul (by omega) (by omega)
   have hQi : Q[i] = y:=by rw [← hy,nth_eq h1]
   have hnext : (Q.take (i + 1)).flatMap row = bl ++ row y:=by
    rw [List.take_add_one,List.getElem?_eq_getElem h1,Option.toList_some,List.flatMap_append,← hbl,hQi]
    simp
   have exit1 : ∀ (blz : List Bool),∃ zz : Nat,True:=fun _ => ⟨0,trivial⟩
   cases bl with
   | nil =>
    simp only [bSl,bLS]
    refine run_sound (Tab.ok_Γ _) 300 _ _ _ _ ?_
    simp (maxSteps:=999999) only [EV0,zx,zw,zv,zu,zq,zp,zj,zk,zg,leT,zZ,rvC,zY,zX,zW,zV,↓zU,↓zQ,reduceCtorEq,yz,yy,yY,yx,yw,yv,yu,yq,yp,yX,yj,yk,yg,yW,yV,yU,yZ,yQ,xz,TFa,d1,d2,d3,d4,put,fillP]
    refine loop_rule (α:=Nat × List Bool × Nat × M) [10,12,13,75,76,77,78,79,80,81,82,83,84,85,86,87,88,89,90,91,92,93,94,95,96,97] (fun z => [(10, .s (bSl 1 z.2.1 z.2.2.1)),(12, .s (.i .i64 (z.1 : Int)))]) (fun z => bLS [XB] z.2.1 z.2.2.1) (fun z => bH h z.2.2.2 r2 [B cq]) (fun z => z.1 ≤ Q.length ∧ z.2.1 = ([] : List Bool) ++ (Q.take z.1).map (fun b => decide (b ∈ under m1.D Q y)) ∧ z.2.1.length ≤ z.2.2.1 ∧ z.2.2.2.w = m1.w) (fun z => Q.length - z.1) (0,([] : List Bool),cp,mi) ⟨Nat.zero_le _,by simp,hcp,hwi⟩ ?_ ?_
    ·refine Wk.same rfl rfl ?_
     simp (maxSteps:=999999) only [EV0,zx,zw,zv,zu,zq,zp,zj,zk,zg,leT,zZ,rvC,zY,zX,zW,zV,↓zU,↓zQ,reduceCtorEq,yz,yy,yY,yx,yw,yv,yu,yq,yp,yX,yj,yk,yg,yW,yV,yU,yZ,yQ,xz,Int.natCast_zero,bSl]
    rintro X2 ⟨k,b2,c2,m'⟩ ⟨hk,hb2,hc2,hw'⟩ IH2
    simp only at hk hb2 hc2 hw' ⊢
    have hnq : h.length ≤ (bH h m' r2 [B cq]).length:=by rw [bH_len]; omega
    rcases Nat.lt_or_ge k Q.length with h2 | h2
    ·obtain ⟨f1,f2,f3,f4⟩:=idx h2 (by omega)
     obtain ⟨z,hz⟩ : ∃ z,nth 0 Q k = z:=⟨_,rfl⟩
     have g2:=intsB_get h2
     rw [hz] at g2
     obtain ⟨u1,u2,_⟩:=hun m' y hw'
     obtain ⟨m3,hm3⟩ : ∃ m3,(m'.dsO y).2 = m3:=⟨_,rfl⟩
     rw [hm3] at u2
     obtain ⟨q,hq⟩ : ∃ q,decide (z ∈ under m1.D Q y) = q:=⟨_,rfl⟩
     have hq' : decide (z ∈ m'.dsL y) = q:=by rw [u1]; exact hq
     have hb3 : ([] : List Bool) ++ (Q.take (k + 1)).map (fun b => decide (b ∈ under m1.D Q y)) = b2 ++ [q]:=by
      rw [hb2,List.take_add_one,List.getElem?_eq_getElem h2,Option.toList_some,List.map_append,List.map_cons,List.map_nil,List.append_assoc,← nth_eq (d:=0) h2,hz,hq]
     have hbl2 : b2.length ≤ 2000:=by
      have h3 : b2.length = (([] : List Bool)).length + (Q.take k).length:=by rw [hb2,List.length_append,List.length_map]
      rw [List.length_take] at h3
      simp only [List.length_cons,List.length_nil] at hbn h3
      omega
     have hcq : clean (bH h m3 r2 [B cq]).length (bH h m3 r2 [B cq]) = true:=by rw [bH_len]; exact hclq m3
     have hnq : h.length ≤ (bH h m3 r2 [B cq]).length:=by rw [bH_len]; omega
     cases b2 with
     | nil =>
      simp only [bSl,bLS]
      refine run_sound (Tab.ok_Γ _) 300 _ _ _ _ ?_
      simp (maxSteps:=999999) only [EV0,zx,zw,zv,zu,zq,zp,zj,zk,zg,leT,zZ,rvC,zY,zX,zW,zV,↓zU,↓zQ,reduceCtorEq,yz,yy,yY,yx,yw,yv,yu,yq,yp,yX,yj,yk,yg,yW,yV,yU,yZ,yQ,xz,TFa,belG,belM,bH_fm,hcc,hBx,hq',hm3,d1,d2,d3,f1,f2,f3,f4,g1,g2,Int.toNat_natCast,put,fillP]
      intro ck hck
      refine IH2 (k + 1,[q],ck,m3) _ (by simp only; omega) ⟨by simp only; omega,hb3.symm,by simpa using hck,u2⟩ ?_
      simp only [bSl,bLS,bolB,List.map_cons,List.map_nil,List.length_nil,Nat.zero_add,Nat.mul_one,List.cons_append,List.nil_append]
      refine Wk.sel [0,2] (by decide) hnq ?_ ?_ ?_ ?_ hcq (clean_pick hcq _)
      ·simp only [EV0,zx,zw,zv,zu,zq,zp,zj,zk,zg,leT,zZ,rvC,zY,zX,zW,zV,↓zU,↓zQ,reduceCtorEq,yz,yy,yY,yx,yw,yv,yu,yq,yp,yX,yj,yk,yg,yW,yV,yU,yZ,yQ,xz,List.nil_append,Blk.ren,V.ren,C.ren,S_ren,wc_ren,R.pick_g,R.pick_0,R.pick_s,List.map_append,wc_cons,wc_snoc,wc_nil,Nat.mul_one,hxbm,hxbv,hspk,hsv,v0,v4,v5,bH_len,List.length_cons,List.length_nil,Nat.zero_add]
      ·simp only [EV0,zx,zw,zv,zu,zq,zp,zj,zk,zg,leT,zZ,rvC,zY,zX,zW,zV,↓zU,↓zQ,reduceCtorEq,yz,yy,yY,yx,yw,yv,yu,yq,yp,yX,yj,yk,yg,yW,yV,yU,yZ,yQ,xz,List.nil_append,Blk.ren,V.ren,C.ren,S_ren,wc_ren,R.pick_g,R.pick_0,R.pick_s,Nat.mul_one,hxbm,hxbv,hspk,hsv,v0,v4,v5,bH_len,List.length_cons,List.length_nil,Nat.zero_add]
      ·simp (maxSteps:=999999) only [EV0,zx,zw,zv,zu,zq,zp,zj,zk,zg,leT,zZ,rvC,zY,zX,zW,zV,↓zU,↓zQ,reduceCtorEq,yz,yy,yY,yx,yw,yv,yu,yq,yp,yX,yj,yk,yg,yW,yV,yU,yZ,yQ,xz,List.nil_append,app_len,nlt0,nltn,reduceLT,Nat.le_add_right,Nat.mul_one,hxbm,hxbv,hspk,hsv,v0,v4,v5,bH_len,List.length_cons,List.length_nil,Nat.zero_add]
      ·simp (maxSteps:=999999) only [EV0,zx,zw,zv,zu,zq,zp,zj,zk,zg,leT,zZ,rvC,zY,zX,zW,zV,↓zU,↓zQ,reduceCtorEq,yz,yy,yY,yx,yw,yv,yu,yq,yp,yX,yj,yk,yg,yW,yV,yU,yZ,yQ,xz,List.nil_append,app_len,nlt0,nltn,reduceLT,Nat.le_add_right,vals_cons,vals_nil,wc_val,wc_vals,Nat.mul_one,hxbm,hxbv,hspk,hsv,v0,v4,v5,bH_len,List.length_cons,List.length_nil,Nat.zero_add]
     | cons w b2 =>
      obtain ⟨BU,hBU⟩ : ∃ BU,bolB (w :: b2) = BU:=⟨_,rfl⟩
      obtain ⟨q1,q2,q3,q4,q5,q6⟩:=bolB_is (w :: b2)
      rw [hBU] at q1 q2 q3 q4 q5 q6
      have hq3 : ∀ a b,BU.all (S.val a b) = true:=fun u v => by have:=q3 u v; simpa only [vals] using this
      simp only [bSl,bLS,hBU,List.cons_append,List.nil_append]
      refine run_sound (Tab.ok_Γ _) 300 _ _ _ _ ?_
      simp (maxSteps:=999999) only [EV0,zx,zw,zv,zu,zq,zp,zj,zk,zg,leT,zZ,rvC,zY,zX,zW,zV,↓zU,↓zQ,reduceCtorEq,yz,yy,yY,yx,yw,yv,yu,yq,yp,yX,yj,yk,yg,yW,yV,yU,yZ,yQ,xz,TFa,belG,belM,bH_fm,hcc,hBx,hq',hm3,d1,d2,d3,f1,f2,f3,f4,g1,g2,Int.toNat_natCast,put,fillP,q1,q2,q3,q4,hxbn,hsnm]
      refine ⟨by simp only [List.length_cons] at hbl2; omega,fun ck hck => ?_⟩
      refine IH2 (k + 1,w :: b2 ++ [q],ck,m3) _ (by simp only; omega) ⟨by simp only; omega,hb3.symm,by simp only [List.length_append,List.length_cons,List.length_nil] at hck ⊢; omega,u2⟩ ?_
      have hB2 : bolB (w :: (b2 ++ [q])) = BU ++ [.b q]:=by rw [← hBU,bolB_app]; rfl
      have hl2 : (b2 ++ [q]).length + 1 = b2.length + 1 + 1:=by simp
      simp only [bSl,bLS,List.cons_append,List.nil_append,hB2,hl2,Nat.mul_one]
      refine Wk.sel [0,1] (by decide) hnq ?_ ?_ ?_ ?_ hcq (clean_pick hcq _)
      ·simp only [EV0,zx,zw,zv,zu,zq,zp,zj,zk,zg,leT,zZ,rvC,zY,zX,zW,zV,↓zU,↓zQ,reduceCtorEq,yz,yy,yY,yx,yw,yv,yu,yq,yp,yX,yj,yk,yg,yW,yV,yU,yZ,yQ,xz,List.nil_append,Blk.ren,V.ren,C.ren,S_ren,wc_ren,R.pick_g,R.pick_0,R.pick_s,List.map_append,wc_cons,wc_snoc,wc_nil,Nat.mul_one,hxbm,hxbv,hspk,hsv,v0,v4,v5,bH_len,List.length_cons,List.length_nil,Nat.zero_add,hq3,q5,List.map_append,List.map_cons,List.map_nil,vals,List.all_append]
      ·simp only [EV0,zx,zw,zv,zu,zq,zp,zj,zk,zg,leT,zZ,rvC,zY,zX,zW,zV,↓zU,↓zQ,reduceCtorEq,yz,yy,yY,yx,yw,yv,yu,yq,yp,yX,yj,yk,yg,yW,yV,yU,yZ,yQ,xz,List.nil_append,Blk.ren,V.ren,C.ren,S_ren,wc_ren,R.pick_g,R.pick_0,R.pick_s,Nat.mul_one,hxbm,hxbv,hspk,hsv,v0,v4,v5,bH_len,List.length_cons,List.length_nil,Nat.zero_add,hq3,q5,List.map_append,List.map_cons,List.map_nil,vals,List.all_append]
      ·simp (maxSteps:=999999) only [EV0,zx,zw,zv,zu,zq,zp,zj,zk,zg,leT,zZ,rvC,zY,zX,zW,zV,↓zU,↓zQ,reduceCtorEq,yz,yy,yY,yx,yw,yv,yu,yq,yp,yX,yj,yk,yg,yW,yV,yU,yZ,yQ,xz,List.nil_append,app_len,nlt0,nltn,reduceLT,Nat.le_add_right,Nat.mul_one,hxbm,hxbv,hspk,hsv,v0,v4,v5,bH_len,List.length_cons,List.length_nil,Nat.zero_add,hq3,q5,List.map_append,List.map_cons,List.map_nil,vals,List.all_append]
      ·simp (maxSteps:=999999) only [EV0,zx,zw,zv,zu,zq,zp,zj,zk,zg,leT,zZ,rvC,zY,zX,zW,zV,↓zU,↓zQ,reduceCtorEq,yz,yy,yY,yx,yw,yv,yu,yq,yp,yX,yj,yk,yg,yW,yV,yU,yZ,yQ,xz,List.nil_append,app_len,nlt0,nltn,reduceLT,Nat.le_add_right,vals_cons,vals_nil,wc_val,wc_vals,Nat.mul_one,hxbm,hxbv,hspk,hsv,v0,v4,v5,bH_len,List.length_cons,List.length_nil,Nat.zero_add,hq3,q5,List.map_append,List.map_cons,List.map_nil,vals,List.all_append]
    ·have e0 : k = Q.length:=by omega
     subst e0
     clear IH2
     rw [List.take_length] at hb2
     have hb4 : b2 = (Q.take (i + 1)).flatMap row:=by rw [hnext,hb2,row']
     cases b2 with
     | nil =>
      simp only [bSl,bLS]
      refine run_sound (Tab.ok_Γ _) 300 _ _ _ _ ?_
      simp (maxSteps:=999999) only [EV0,zx,zw,zv,zu,zq,zp,zj,zk,zg,leT,zZ,rvC,zY,zX,zW,zV,↓zU,↓zQ,reduceCtorEq,yz,yy,yY,yx,yw,yv,yu,yq,yp,yX,yj,yk,yg,yW,yV,yU,yZ,yQ,xz,TFa,Int.lt_irrefl,d4]
      refine IH (i + 1,[],c2,m') _ (by simp only; omega) ⟨by simp only; omega,hb4,hc2,hw'⟩ ?_
      refine Wk.same rfl rfl ?_
      simp (maxSteps:=999999) only [EV0,zx,zw,zv,zu,zq,zp,zj,zk,zg,leT,zZ,rvC,zY,zX,zW,zV,↓zU,↓zQ,reduceCtorEq,yz,yy,yY,yx,yw,yv,yu,yq,yp,yX,yj,yk,yg,yW,yV,yU,yZ,yQ,xz,bSl]
     | cons w b2 =>
      simp only [bSl,bLS,List.cons_append,List.nil_append]
      refine run_sound (Tab.ok_Γ _) 300 _ _ _ _ ?_
      simp (maxSteps:=999999) only [EV0,zx,zw,zv,zu,zq,zp,zj,zk,zg,leT,zZ,rvC,zY,zX,zW,zV,↓zU,↓zQ,reduceCtorEq,yz,yy,yY,yx,yw,yv,yu,yq,yp,yX,yj,yk,yg,yW,yV,yU,yZ,yQ,xz,TFa,Int.lt_irrefl,d4]
      refine IH (i + 1,w :: b2,c2,m') _ (by simp only; omega) ⟨by simp only; omega,hb4,hc2,hw'⟩ ?_
      refine Wk.same rfl rfl ?_
      simp (maxSteps:=999999) only [EV0,zx,zw,zv,zu,zq,zp,zj,zk,zg,leT,zZ,rvC,zY,zX,zW,zV,↓zU,↓zQ,reduceCtorEq,yz,yy,yY,yx,yw,yv,yu,yq,yp,yX,yj,yk,yg,yW,yV,yU,yZ,yQ,xz,bSl]
   | cons b0 bl =>
    simp only [bSl,bLS,List.cons_append,List.nil_append]
    refine run_sound (Tab.ok_Γ _) 300 _ _ _ _ ?_
    simp (maxSteps:=999999) only [EV0,zx,zw,zv,zu,zq,zp,zj,zk,zg,leT,zZ,rvC,zY,zX,zW,zV,↓zU,↓zQ,reduceCtorEq,yz,yy,yY,yx,yw,yv,yu,yq,yp,yX,yj,yk,yg,yW,yV,yU,yZ,yQ,xz,TFa,d1,d2,d3,d4,put,fillP]
    refine loop_rule (α:=Nat × List Bool × Nat × M) [10,12,13,75,76,77,78,79,80,81,82,83,84,85,86,87,88,89,90,91,92,93,94,95,96,97] (fun z => [(10, .s (bSl 1 z.2.1 z.2.2.1)),(12, .s (.i .i64 (z.1 : Int)))]) (fun z => bLS [XB] z.2.1 z.2.2.1) (fun z => bH h z.2.2.2 r2 [B cq]) (fun z => z.1 ≤ Q.length ∧ z.2.1 = (b0 :: bl) ++ (Q.take z.1).map (fun b => decide (b ∈ under m1.D Q y)) ∧ z.2.1.length ≤ z.2.2.1 ∧ z.2.2.2.w = m1.w) (fun z => Q.length - z.1) (0,(b0 :: bl),cp,mi) ⟨Nat.zero_le _,by simp,hcp,hwi⟩ ?_ ?_
    ·refine Wk.same rfl rfl ?_
     simp (maxSteps:=999999) only [EV0,zx,zw,zv,zu,zq,zp,zj,zk,zg,leT,zZ,rvC,zY,zX,zW,zV,↓zU,↓zQ,reduceCtorEq,yz,yy,yY,yx,yw,yv,yu,yq,yp,yX,yj,yk,yg,yW,yV,yU,yZ,yQ,xz,Int.natCast_zero,bSl]
    rintro X2 ⟨k,b2,c2,m'⟩ ⟨hk,hb2,hc2,hw'⟩ IH2
    simp only at hk hb2 hc2 hw' ⊢
    have hnq : h.length ≤ (bH h m' r2 [B cq]).length:=by rw [bH_len]; omega
    rcases Nat.lt_or_ge k Q.length with h2 | h2
    ·obtain ⟨f1,f2,f3,f4⟩:=idx h2 (by omega)
     obtain ⟨z,hz⟩ : ∃ z,nth 0 Q k = z:=⟨_,rfl⟩
     have g2:=intsB_get h2
     rw [hz] at g2
     obtain ⟨u1,u2,_⟩:=hun m' y hw'
     obtain ⟨m3,hm3⟩ : ∃ m3,(m'.dsO y).2 = m3:=⟨_,rfl⟩
     rw [hm3] at u2
     obtain ⟨q,hq⟩ : ∃ q,decide (z ∈ under m1.D Q y) = q:=⟨_,rfl⟩
     have hq' : decide (z ∈ m'.dsL y) = q:=by rw [u1]; exact hq
     have hb3 : (b0 :: bl) ++ (Q.take (k + 1)).map (fun b => decide (b ∈ under m1.D Q y)) = b2 ++ [q]:=by
      rw [hb2,List.take_add_one,List.getElem?_eq_getElem h2,Option.toList_some,List.map_append,List.map_cons,List.map_nil,List.append_assoc,← nth_eq (d:=0) h2,hz,hq]
     have hbl2 : b2.length ≤ 2000:=by
      have h3 : b2.length = ((b0 :: bl)).length + (Q.take k).length:=by rw [hb2,List.length_append,List.length_map]
      rw [List.length_take] at h3
      simp only [List.length_cons,List.length_nil] at hbn h3
      omega
     have hcq : clean (bH h m3 r2 [B cq]).length (bH h m3 r2 [B cq]) = true:=by rw [bH_len]; exact hclq m3
     have hnq : h.length ≤ (bH h m3 r2 [B cq]).length:=by rw [bH_len]; omega
     cases b2 with
     | nil =>
      simp only [bSl,bLS]
      refine run_sound (Tab.ok_Γ _) 300 _ _ _ _ ?_
      simp (maxSteps:=999999) only [EV0,zx,zw,zv,zu,zq,zp,zj,zk,zg,leT,zZ,rvC,zY,zX,zW,zV,↓zU,↓zQ,reduceCtorEq,yz,yy,yY,yx,yw,yv,yu,yq,yp,yX,yj,yk,yg,yW,yV,yU,yZ,yQ,xz,TFa,belG,belM,bH_fm,hcc,hBx,hq',hm3,d1,d2,d3,f1,f2,f3,f4,g1,g2,Int.toNat_natCast,put,fillP]
      intro ck hck
      refine IH2 (k + 1,[q],ck,m3) _ (by simp only; omega) ⟨by simp only; omega,hb3.symm,by simpa using hck,u2⟩ ?_
      simp only [bSl,bLS,bolB,List.map_cons,List.map_nil,List.length_nil,Nat.zero_add,Nat.mul_one,List.cons_append,List.nil_append]
      refine Wk.sel [0,2] (by decide) hnq ?_ ?_ ?_ ?_ hcq (clean_pick hcq _)
      ·simp only [EV0,zx,zw,zv,zu,zq,zp,zj,zk,zg,leT,zZ,rvC,zY,zX,zW,zV,↓zU,↓zQ,reduceCtorEq,yz,yy,yY,yx,yw,yv,yu,yq,yp,yX,yj,yk,yg,yW,yV,yU,yZ,yQ,xz,List.nil_append,Blk.ren,V.ren,C.ren,S_ren,wc_ren,R.pick_g,R.pick_0,R.pick_s,List.map_append,wc_cons,wc_snoc,wc_nil,Nat.mul_one,hxbm,hxbv,hspk,hsv,v0,v4,v5,bH_len,List.length_cons,List.length_nil,Nat.zero_add]
      ·simp only [EV0,zx,zw,zv,zu,zq,zp,zj,zk,zg,leT,zZ,rvC,zY,zX,zW,zV,↓zU,↓zQ,reduceCtorEq,yz,yy,yY,yx,yw,yv,yu,yq,yp,yX,yj,yk,yg,yW,yV,yU,yZ,yQ,xz,List.nil_append,Blk.ren,V.ren,C.ren,S_ren,wc_ren,R.pick_g,R.pick_0,R.pick_s,Nat.mul_one,hxbm,hxbv,hspk,hsv,v0,v4,v5,bH_len,List.length_cons,List.length_nil,Nat.zero_add]
      ·simp (maxSteps:=999999) only [EV0,zx,zw,zv,zu,zq,zp,zj,zk,zg,leT,zZ,rvC,zY,zX,zW,zV,↓zU,↓zQ,reduceCtorEq,yz,yy,yY,yx,yw,yv,yu,yq,yp,yX,yj,yk,yg,yW,yV,yU,yZ,yQ,xz,List.nil_append,app_len,nlt0,nltn,reduceLT,Nat.le_add_right,Nat.mul_one,hxbm,hxbv,hspk,hsv,v0,v4,v5,bH_len,List.length_cons,List.length_nil,Nat.zero_add]
      ·simp (maxSteps:=999999) only [EV0,zx,zw,zv,zu,zq,zp,zj,zk,zg,leT,zZ,rvC,zY,zX,zW,zV,↓zU,↓zQ,reduceCtorEq,yz,yy,yY,yx,yw,yv,yu,yq,yp,yX,yj,yk,yg,yW,yV,yU,yZ,yQ,xz,List.nil_append,app_len,nlt0,nltn,reduceLT,Nat.le_add_right,vals_cons,vals_nil,wc_val,wc_vals,Nat.mul_one,hxbm,hxbv,hspk,hsv,v0,v4,v5,bH_len,List.length_cons,List.length_nil,Nat.zero_add]
     | cons w b2 =>
      obtain ⟨BU,hBU⟩ : ∃ BU,bolB (w :: b2) = BU:=⟨_,rfl⟩
      obtain ⟨q1,q2,q3,q4,q5,q6⟩:=bolB_is (w :: b2)
      rw [hBU] at q1 q2 q3 q4 q5 q6
      have hq3 : ∀ a b,BU.all (S.val a b) = true:=fun u v => by have:=q3 u v; simpa only [vals] using this
      simp only [bSl,bLS,hBU,List.cons_append,List.nil_append]
      refine run_sound (Tab.ok_Γ _) 300 _ _ _ _ ?_
      simp (maxSteps:=999999) only [EV0,zx,zw,zv,zu,zq,zp,zj,zk,zg,leT,zZ,rvC,zY,zX,zW,zV,↓zU,↓zQ,reduceCtorEq,yz,yy,yY,yx,yw,yv,yu,yq,yp,yX,yj,yk,yg,yW,yV,yU,yZ,yQ,xz,TFa,belG,belM,bH_fm,hcc,hBx,hq',hm3,d1,d2,d3,f1,f2,f3,f4,g1,g2,Int.toNat_natCast,put,fillP,q1,q2,q3,q4,hxbn,hsnm]
      refine ⟨by simp only [List.length_cons] at hbl2; omega,fun ck hck => ?_⟩
      refine IH2 (k + 1,w :: b2 ++ [q],ck,m3) _ (by simp only; omega) ⟨by simp only; omega,hb3.symm,by simp only [List.length_append,List.length_cons,List.length_nil] at hck ⊢; omega,u2⟩ ?_
      have hB2 : bolB (w :: (b2 ++ [q])) = BU ++ [.b q]:=by rw [← hBU,bolB_app]; rfl
      have hl2 : (b2 ++ [q]).length + 1 = b2.length + 1 + 1:=by simp
      simp only [bSl,bLS,List.cons_append,List.nil_append,hB2,hl2,Nat.mul_one]
      refine Wk.sel [0,1] (by decide) hnq ?_ ?_ ?_ ?_ hcq (clean_pick hcq _)
      ·simp only [EV0,zx,zw,zv,zu,zq,zp,zj,zk,zg,leT,zZ,rvC,zY,zX,zW,zV,↓zU,↓zQ,reduceCtorEq,yz,yy,yY,yx,yw,yv,yu,yq,yp,yX,yj,yk,yg,yW,yV,yU,yZ,yQ,xz,List.nil_append,Blk.ren,V.ren,C.ren,S_ren,wc_ren,R.pick_g,R.pick_0,R.pick_s,List.map_append,wc_cons,wc_snoc,wc_nil,Nat.mul_one,hxbm,hxbv,hspk,hsv,v0,v4,v5,bH_len,List.length_cons,List.length_nil,Nat.zero_add,hq3,q5,List.map_append,List.map_cons,List.map_nil,vals,List.all_append]
      ·simp only [EV0,zx,zw,zv,zu,zq,zp,zj,zk,zg,leT,zZ,rvC,zY,zX,zW,zV,↓zU,↓zQ,reduceCtorEq,yz,yy,yY,yx,yw,yv,yu,yq,yp,yX,yj,yk,yg,yW,yV,yU,yZ,yQ,xz,List.nil_append,Blk.ren,V.ren,C.ren,S_ren,wc_ren,R.pick_g,R.pick_0,R.pick_s,Nat.mul_one,hxbm,hxbv,hspk,hsv,v0,v4,v5,bH_len,List.length_cons,List.length_nil,Nat.zero_add,hq3,q5,List.map_append,List.map_cons,List.map_nil,vals,List.all_append]
      ·simp (maxSteps:=999999) only [EV0,zx,zw,zv,zu,zq,zp,zj,zk,zg,leT,zZ,rvC,zY,zX,zW,zV,↓zU,↓zQ,reduceCtorEq,yz,yy,yY,yx,yw,yv,yu,yq,yp,yX,yj,yk,yg,yW,yV,yU,yZ,yQ,xz,List.nil_append,app_len,nlt0,nltn,reduceLT,Nat.le_add_right,Nat.mul_one,hxbm,hxbv,hspk,hsv,v0,v4,v5,bH_len,List.length_cons,List.length_nil,Nat.zero_add,hq3,q5,List.map_append,List.map_cons,List.map_nil,vals,List.all_append]
      ·simp (maxSteps:=999999) only [EV0,zx,zw,zv,zu,zq,zp,zj,zk,zg,leT,zZ,rvC,zY,zX,zW,zV,↓zU,↓zQ,reduceCtorEq,yz,yy,yY,yx,yw,yv,yu,yq,yp,yX,yj,yk,yg,yW,yV,yU,yZ,yQ,xz,List.nil_append,app_len,nlt0,nltn,reduceLT,Nat.le_add_right,vals_cons,vals_nil,wc_val,wc_vals,Nat.mul_one,hxbm,hxbv,hspk,hsv,v0,v4,v5,bH_len,List.length_cons,List.length_nil,Nat.zero_add,hq3,q5,List.map_append,List.map_cons,List.map_nil,vals,List.all_append]
    ·have e0 : k = Q.length:=by omega
     subst e0
     clear IH2
     rw [List.take_length] at hb2
     have hb4 : b2 = (Q.take (i + 1)).flatMap row:=by rw [hnext,hb2,row']
     cases b2 with
     | nil =>
      simp only [bSl,bLS]
      refine run_sound (Tab.ok_Γ _) 300 _ _ _ _ ?_
      simp (maxSteps:=999999) only [EV0,zx,zw,zv,zu,zq,zp,zj,zk,zg,leT,zZ,rvC,zY,zX,zW,zV,↓zU,↓zQ,reduceCtorEq,yz,yy,yY,yx,yw,yv,yu,yq,yp,yX,yj,yk,yg,yW,yV,yU,yZ,yQ,xz,TFa,Int.lt_irrefl,d4]
      refine IH (i + 1,[],c2,m') _ (by simp only; omega) ⟨by simp only; omega,hb4,hc2,hw'⟩ ?_
      refine Wk.same rfl rfl ?_
      simp (maxSteps:=999999) only [EV0,zx,zw,zv,zu,zq,zp,zj,zk,zg,leT,zZ,rvC,zY,zX,zW,zV,↓zU,↓zQ,reduceCtorEq,yz,yy,yY,yx,yw,yv,yu,yq,yp,yX,yj,yk,yg,yW,yV,yU,yZ,yQ,xz,bSl]
     | cons w b2 =>
      simp only [bSl,bLS,List.cons_append,List.nil_append]
      refine run_sound (Tab.ok_Γ _) 300 _ _ _ _ ?_
      simp (maxSteps:=999999) only [EV0,zx,zw,zv,zu,zq,zp,zj,zk,zg,leT,zZ,rvC,zY,zX,zW,zV,↓zU,↓zQ,reduceCtorEq,yz,yy,yY,yx,yw,yv,yu,yq,yp,yX,yj,yk,yg,yW,yV,yU,yZ,yQ,xz,TFa,Int.lt_irrefl,d4]
      refine IH (i + 1,w :: b2,c2,m') _ (by simp only; omega) ⟨by simp only; omega,hb4,hc2,hw'⟩ ?_
      refine Wk.same rfl rfl ?_
      simp (maxSteps:=999999) only [EV0,zx,zw,zv,zu,zq,zp,zj,zk,zg,leT,zZ,rvC,zY,zX,zW,zV,↓zU,↓zQ,reduceCtorEq,yz,yy,yY,yx,yw,yv,yu,yq,yp,yX,yj,yk,yg,yW,yV,yU,yZ,yQ,xz,bSl]
  ·have e0 : i = Q.length:=by omega
   subst e0
   clear IH
   rw [List.take_length] at hbl
   have hbn : bl.length = Q.length * Q.length:=by rw [hbl,flat_len hrow]
   have hbp : 0 < Q.length * Q.length:=Nat.mul_pos hq hq
   obtain ⟨e2,mo,Q2,he2,S⟩:=hop mi hwi
   have Wi:=W1.of_w hwi
   have W2:=Wi.step S
   have hfam : ∀ a b,a ∈ Q → b ∈ Q → nmV ⟨2,xa,xb,xn⟩ e2 a ≠ 0 → nmV ⟨2,xa,xb,xn⟩ e2 b ≠ 0 → (nmV ⟨2,xa,xb,xn⟩ e2 b ∈ under mo.D Q2 (nmV ⟨2,xa,xb,xn⟩ e2 a) ↔ b ∈ under m1.D Q a):=fun a b ha hb h1 h2 => by
    have:=S.fam Wi ha hb h1 h2
    rw [D_w hwi] at this
    exact this
   have hun2 : ∀ (m' : M) (z : Int),m'.w = mo.w → m'.dsL z = under mo.D Q2 z ∧ (m'.dsO z).2.w = mo.w:=fun m' z e => by
    obtain ⟨z1,z2,_⟩:=(W2.of_w e).ds z
    rw [D_w e] at z1
    exact ⟨z1,z2.trans e⟩
   obtain ⟨b0,bt,rfl⟩ : ∃ b0 bt,bl = b0 :: bt:=by
    cases bl with
    | nil => simp only [List.length_nil] at hbn; omega
    | cons a b => exact ⟨a,b,rfl⟩
   obtain ⟨BU,hBU⟩ : ∃ BU,bolB (b0 :: bt) = BU:=⟨_,rfl⟩
   have hget : ∀ a b : Nat,a < Q.length → b < Q.length → BU[a * Q.length + b]? = some (.b (decide (nth 0 Q b ∈ under m1.D Q (nth 0 Q a)))):=fun a b h1 h2 => by
    rw [← hBU,hbl,bolB,List.getElem?_map,flat_get hrow h1 (by omega)]
    rw [← nth_eq (d:=0) h1]
    simp only [row',List.getElem?_map,List.getElem?_eq_getElem h2,Option.map_some,← nth_eq (d:=0) h2]
   simp only [bSl,bLS,hBU,List.cons_append,List.nil_append]
   have hbt : bt.length + 1 = Q.length * Q.length:=by simpa using hbn
   have hbm : Q.length * Q.length ≤ 40 * 40:=Nat.mul_le_mul (by omega) (by omega)
   refine run_sound (Tab.ok_Γ _) 400 _ _ _ _ ?_
   simp (maxSteps:=999999) only [EV0,zx,zw,zv,zu,zq,zp,zj,zk,zg,leT,zZ,rvC,zY,zX,zW,zV,↓zU,↓zQ,reduceCtorEq,yz,yy,yY,yx,yw,yv,yu,yq,yp,yX,yj,yk,yg,yW,yV,yU,yZ,yQ,xz,TFa,insG,insM,movG,movM,swpG,swpM,remG,remM,bH_fm,hcc,he2,Int.lt_irrefl,← hXB,put,fillP]
   refine loop_rule (α:=Nat × M) [4,15,16,17,18,19,20,21,22,140,141,142,143,144,145,146,147,148,149,150,151,152,153,154,155,156,157,158,159,160,161,162,163,164,165,166,167,168,169,170,171,172,173,174,175,176,177,178,179,180,181,182,183,184,185,186,187,188,189,190,191,192,193,194,195,196,197,198,199,200,201,202,203,204,205,206,207,208,209,210,211,212,213,214,215,216,217,218,219,220,221,222,223,224,225,226,227,228,229,230,231,232,233,234,235,236,237,238,239,240,241,242,243,244,245,246] (fun z => [(15, .s (.i .i64 (z.1 : Int)))]) (fun _ => [XB,⟨.rw,BU,cp⟩]) (fun z => bH h z.2 r2 [B cq]) (fun z => z.1 ≤ Q.length ∧ z.2.w = mo.w) (fun z => Q.length - z.1) (0,mo) ⟨Nat.zero_le _,rfl⟩ ?_ ?_
   ·refine Wk.same (by rw [← hXB]) rfl ?_
    simp (maxSteps:=999999) only [EV0,zx,zw,zv,zu,zq,zp,zj,zk,zg,leT,zZ,rvC,zY,zX,zW,zV,↓zU,↓zQ,reduceCtorEq,yz,yy,yY,yx,yw,yv,yu,yq,yp,yX,yj,yk,yg,yW,yV,yU,yZ,yQ,xz,Int.natCast_zero]
   rintro X ⟨i,mi2⟩ ⟨hi2,hwi2⟩ IH
   simp only at hi2 hwi2 ⊢
   rcases Nat.lt_or_ge i Q.length with h1 | h1
   ·obtain ⟨d1,d2,d3,d4⟩:=idx h1 (by omega)
    obtain ⟨y,hy⟩ : ∃ y,nth 0 Q i = y:=⟨_,rfl⟩
    have hyQ : y ∈ Q:=by rw [← hy]; exact nth_mem h1
    have g1:=intsB_get h1
    rw [hy] at g1
    refine run_sound (Tab.ok_Γ _) 300 _ _ _ _ ?_
    simp (maxSteps:=999999) only [EV0,zx,zw,zv,zu,zq,zp,zj,zk,zg,leT,zZ,rvC,zY,zX,zW,zV,↓zU,↓zQ,reduceCtorEq,yz,yy,yY,yx,yw,yv,yu,yq,yp,yX,yj,yk,yg,yW,yV,yU,yZ,yQ,xz,TFa,d1,d2,d3,d4,put,fillP]
    refine loop_rule (α:=Nat × M) [4,16,17,18,19,146,147,148,149,150,151,152,153,154,155,156,157,158,159,160,161,162,163,164,165,166,167,168,169,170,171,172,173,174,175,176,177,178,179,180,181,182,183,184,185,186,187,188,189,190,191] (fun z => [(16, .s (.i .i64 (z.1 : Int)))]) (fun _ => [XB,⟨.rw,BU,cp⟩]) (fun z => bH h z.2 r2 [B cq]) (fun z => z.1 ≤ Q.length ∧ z.2.w = mo.w) (fun z => Q.length - z.1) (0,mi2) ⟨Nat.zero_le _,hwi2⟩ ?_ ?_
    ·refine Wk.same rfl rfl ?_
     simp (maxSteps:=999999) only [EV0,zx,zw,zv,zu,zq,zp,zj,zk,zg,leT,zZ,rvC,zY,zX,zW,zV,↓zU,↓zQ,reduceCtorEq,yz,yy,yY,yx,yw,yv,yu,yq,yp,yX,yj,yk,yg,yW,yV,yU,yZ,yQ,xz,Int.natCast_zero]
    rintro X2 ⟨k,m'⟩ ⟨hk,hw'⟩ IH2
    simp only at hk hw' ⊢
    rcases Nat.lt_or_ge k Q.length with h2 | h2
    ·obtain ⟨f1,f2,f3,f4⟩:=idx h2 (by omega)
     obtain ⟨z,hz⟩ : ∃ z,nth 0 Q k = z:=⟨_,rfl⟩
     have hzQ : z ∈ Q:=by rw [← hz]; exact nth_mem h2
     have g2:=intsB_get h2
     rw [hz] at g2
     have g3:=hget i k h1 h2
     rw [hy,hz] at g3
     obtain ⟨py,hpy⟩ : ∃ p,nmV ⟨2,xa,xb,xn⟩ e2 y = p:=⟨_,rfl⟩
     obtain ⟨pz,hpz⟩ : ∃ p,nmV ⟨2,xa,xb,xn⟩ e2 z = p:=⟨_,rfl⟩
     obtain ⟨u1,u2⟩:=hun2 m' py hw'
     obtain ⟨m3,hm3⟩ : ∃ m3,(m'.dsO py).2 = m3:=⟨_,rfl⟩
     rw [hm3] at u2
     have hff:=hfam y z hyQ hzQ
     rw [hpy,hpz,← u1] at hff
     obtain ⟨q,hq'⟩ : ∃ q,decide (pz ∈ m'.dsL py) = q:=⟨_,rfl⟩
     have hidx : i * Q.length + k < bt.length + 1:=by
      rw [hbt]
      have : i * Q.length + Q.length ≤ Q.length * Q.length:=by
       rw [← Nat.succ_mul]; exact Nat.mul_le_mul_right _ h1
      omega
     have w1 : IntKind.i64.wrap ((i : Int) * (Q.length : Int)) = ((i * Q.length : Nat) : Int):=by
      rw [← Int.natCast_mul,wrap64] <;> omega
     have w2 : IntKind.i64.wrap (((i * Q.length : Nat) : Int) + (k : Int)) = ((i * Q.length + k : Nat) : Int):=by rw [wrap64] <;> omega
     have w3 : ((i * Q.length + k : Nat) : Int) < ((bt.length + 1 : Nat) : Int):=by omega
     have w4 : (0 : Int) ≤ ((i * Q.length + k : Nat) : Int):=by omega
     by_cases zy : py = 0
     ·subst zy
      refine run_sound (Tab.ok_Γ _) 300 _ _ _ _ ?_
      simp (maxSteps:=999999) only [EV0,zx,zw,zv,zu,zq,zp,zj,zk,zg,leT,zZ,rvC,zY,zX,zW,zV,↓zU,↓zQ,reduceCtorEq,yz,yy,yY,yx,yw,yv,yu,yq,yp,yX,yj,yk,yg,yW,yV,yU,yZ,yQ,xz,TFa,belG,belM,namedG,bH_fm,hcc,hBx,hpy,hpz,hq',hm3,d1,d2,d3,f1,f2,f3,f4,g1,g2,Int.toNat_natCast,bne,← hXB,put,fillP]
      refine IH2 (k + 1,m3) _ (by simp only; omega) ⟨by simp only; omega,u2⟩ ?_
      refine Wk.same (by rw [← hXB]) rfl ?_
      simp (maxSteps:=999999) only [EV0,zx,zw,zv,zu,zq,zp,zj,zk,zg,leT,zZ,rvC,zY,zX,zW,zV,↓zU,↓zQ,reduceCtorEq,yz,yy,yY,yx,yw,yv,yu,yq,yp,yX,yj,yk,yg,yW,yV,yU,yZ,yQ,xz]
     ·have zy' : (py == 0) = false:=by simpa using zy
      by_cases zz : pz = 0
      ·subst zz
       refine run_sound (Tab.ok_Γ _) 300 _ _ _ _ ?_
       simp (maxSteps:=999999) only [EV0,zx,zw,zv,zu,zq,zp,zj,zk,zg,leT,zZ,rvC,zY,zX,zW,zV,↓zU,↓zQ,reduceCtorEq,yz,yy,yY,yx,yw,yv,yu,yq,yp,yX,yj,yk,yg,yW,yV,yU,yZ,yQ,xz,TFa,belG,belM,namedG,bH_fm,hcc,hBx,hpy,hpz,hq',hm3,d1,d2,d3,f1,f2,f3,f4,g1,g2,zy,zy',Int.toNat_natCast,bne,← hXB,put,fillP]
       refine IH2 (k + 1,m3) _ (by simp only; omega) ⟨by simp only; omega,u2⟩ ?_
       refine Wk.same (by rw [← hXB]) rfl ?_
       simp (maxSteps:=999999) only [EV0,zx,zw,zv,zu,zq,zp,zj,zk,zg,leT,zZ,rvC,zY,zX,zW,zV,↓zU,↓zQ,reduceCtorEq,yz,yy,yY,yx,yw,yv,yu,yq,yp,yX,yj,yk,yg,yW,yV,yU,yZ,yQ,xz]
      ·have zz' : (pz == 0) = false:=by simpa using zz
       have hqe : decide (z ∈ under m1.D Q y) = q:=by
        rw [← hq']
        exact decide_eq_decide.2 (hff zy zz).symm
       rw [hqe] at g3
       refine run_sound (Tab.ok_Γ _) 300 _ _ _ _ ?_
       simp (maxSteps:=999999) only [EV0,zx,zw,zv,zu,zq,zp,zj,zk,zg,leT,zZ,rvC,zY,zX,zW,zV,↓zU,↓zQ,reduceCtorEq,yz,yy,yY,yx,yw,yv,yu,yq,yp,yX,yj,yk,yg,yW,yV,yU,yZ,yQ,xz,TFa,belG,belM,namedG,bH_fm,hcc,hBx,hpy,hpz,hq',hm3,d1,d2,d3,f1,f2,f3,f4,g1,g2,g3,w1,w2,w3,w4,zy,zy',zz,zz',Int.toNat_natCast,bne,← hXB,put,fillP]
       refine IH2 (k + 1,m3) _ (by simp only; omega) ⟨by simp only; omega,u2⟩ ?_
       refine Wk.same (by rw [← hXB]) rfl ?_
       simp (maxSteps:=999999) only [EV0,zx,zw,zv,zu,zq,zp,zj,zk,zg,leT,zZ,rvC,zY,zX,zW,zV,↓zU,↓zQ,reduceCtorEq,yz,yy,yY,yx,yw,yv,yu,yq,yp,yX,yj,yk,yg,yW,yV,yU,yZ,yQ,xz]
    ·have e0 : k = Q.length:=by omega
     subst e0
     clear IH2
     refine run_sound (Tab.ok_Γ _) 300 _ _ _ _ ?_
     simp (maxSteps:=999999) only [EV0,zx,zw,zv,zu,zq,zp,zj,zk,zg,leT,zZ,rvC,zY,zX,zW,zV,↓zU,↓zQ,reduceCtorEq,yz,yy,yY,yx,yw,yv,yu,yq,yp,yX,yj,yk,yg,yW,yV,yU,yZ,yQ,xz,TFa,Int.lt_irrefl,← hXB,d4,bne,put,fillP]
     refine IH (i + 1,m') _ (by simp only; omega) ⟨by simp only; omega,hw'⟩ ?_
     refine Wk.same (by rw [← hXB]) rfl ?_
     simp (maxSteps:=999999) only [EV0,zx,zw,zv,zu,zq,zp,zj,zk,zg,leT,zZ,rvC,zY,zX,zW,zV,↓zU,↓zQ,reduceCtorEq,yz,yy,yY,yx,yw,yv,yu,yq,yp,yX,yj,yk,yg,yW,yV,yU,yZ,yQ,xz]
   ·have e0 : i = Q.length:=by omega
    subst e0
    clear IH
    refine run_sound (Tab.ok_Γ _) 300 _ _ _ _ ?_
    simp (maxSteps:=999999) only [EV0,zx,zw,zv,zu,zq,zp,zj,zk,zg,leT,zZ,rvC,zY,zX,zW,zV,↓zU,↓zQ,reduceCtorEq,yz,yy,yY,yx,yw,yv,yu,yq,yp,yX,yj,yk,yg,yW,yV,yU,yZ,yQ,xz,TFa,Int.lt_irrefl,bne]
    exact hK _
 ·obtain ⟨m1,hm1⟩ : ∃ m1,m = m1:=⟨_,rfl⟩
  obtain ⟨r1,hr1⟩ : ∃ r1,r = r1:=⟨_,rfl⟩
  have hw1:=hw
  have W1:=W
  rw [hm1] at W1
  rw [hm1,hr1] at hw1
  obtain ⟨li1,li2,_⟩:=W1.li
  obtain ⟨m2,hm2⟩ : ∃ m2,m1.lis.2 = m2:=⟨_,rfl⟩
  rw [hm2] at li2
  obtain ⟨r2,hr2⟩ : ∃ r2,promX r1 ⟨3,xa,xb,xn⟩ = r2:=⟨_,rfl⟩
  cases hp : promV r1 ⟨3,xa,xb,xn⟩
  ·simp (maxSteps:=999999) only [EV0,zx,zw,zv,zu,zq,zp,zj,zk,zg,leT,zZ,rvC,zY,zX,zW,zV,↓zU,↓zQ,reduceCtorEq,yz,yy,yY,yx,yw,yv,yu,yq,yp,yX,yj,yk,yg,yW,yV,yU,yZ,yQ,xz,df5,TFa,awake11G,playedG,promG,promM,opF,lisAG,lisAM,lisA,bH_fm,bH_fr,bH_fb,bH_app,bH_len,hcc,hA,hF,hu1,l1,↓hlen,↓hkn,↓hnl,c1,Op.cl,erO,Option.getD_some,bne,List.length_nil,Nat.add_zero,List.nil_append,put,fillP,slA_known,slA_noL,slA_Cknown,slA_below,↓slA_len,hm1,hr1,li1,hm2,hr2,hp]
   repeat' first | exact hK _ | intro _
  by_cases c40 : (40 : Int) < (Q.length : Int)
  ·simp (maxSteps:=999999) only [EV0,zx,zw,zv,zu,zq,zp,zj,zk,zg,leT,zZ,rvC,zY,zX,zW,zV,↓zU,↓zQ,reduceCtorEq,yz,yy,yY,yx,yw,yv,yu,yq,yp,yX,yj,yk,yg,yW,yV,yU,yZ,yQ,xz,df5,TFa,awake11G,playedG,promG,promM,opF,lisAG,lisAM,lisA,bH_fm,bH_fr,bH_fb,bH_app,bH_len,hcc,hA,hF,hu1,l1,↓hlen,↓hkn,↓hnl,c1,Op.cl,erO,Option.getD_some,bne,List.length_nil,Nat.add_zero,List.nil_append,put,fillP,slA_known,slA_noL,slA_Cknown,slA_below,↓slA_len,hm1,hr1,li1,hm2,hr2,hp,c40]
   repeat' first | exact hK _ | intro _
  have hll : Q.length ≤ 40:=by omega
  obtain ⟨p1,p2⟩:=(W1.prom hw1 (x:=⟨3,xa,xb,xn⟩)).2 hp
  have hop : ∀ m' : M,m'.w = m1.w → ∃ e2 mo Q2,m'.swp xa xb = (e2,mo) ∧ St11 m' Q ⟨3,xa,xb,xn⟩ e2 mo Q2:=fun m' e => by
   obtain ⟨⟨Q2,S⟩,_⟩:=step_swp (W1.of_w e) (r:=m') rfl (x:=⟨3,xa,xb,xn⟩) rfl (okS_w e (p1.resolve_left (by simp))) (okS_w e (p2.resolve_left fun h => by simp at h))
   exact ⟨_,_,Q2,rfl,S⟩
  have hun : ∀ (m' : M) (z : Int),m'.w = m1.w → m'.dsL z = under m1.D Q z ∧ (m'.dsO z).2.w = m1.w ∧ True:=fun m' z e => by
   obtain ⟨z1,z2,_⟩:=(W1.of_w e).ds z
   rw [D_w e] at z1
   exact ⟨z1,z2.trans e,trivial⟩
  by_cases q0 : Q.length = 0
  ·have hQ:=List.eq_nil_of_length_eq_zero q0
   subst hQ
   have i0 : ¬ ((40 : Int) < (([] : List Int).length : Int)):=by decide
   obtain ⟨e2,mo,Q2,he2,S⟩:=hop m2 li2
   simp (maxSteps:=999999) only [EV0,zx,zw,zv,zu,zq,zp,zj,zk,zg,leT,zZ,rvC,zY,zX,zW,zV,↓zU,↓zQ,reduceCtorEq,yz,yy,yY,yx,yw,yv,yu,yq,yp,yX,yj,yk,yg,yW,yV,yU,yZ,yQ,xz,df5,TFa,awake11G,playedG,promG,promM,opF,lisAG,lisAM,lisA,bH_fm,bH_fr,bH_fb,bH_app,bH_len,hcc,hA,hF,hu1,l1,↓hlen,↓hkn,↓hnl,c1,Op.cl,erO,Option.getD_some,bne,List.length_nil,Nat.add_zero,List.nil_append,put,fillP,hm1,hr1,li1,hm2,hr2,hp,slA,bkA]
   intro cq _
   refine loop_rule (α:=Unit) [] (fun _ => []) (fun _ => [⟨.rw,[.i .i64 3, .i .i64 xa, .i .i64 xb, .i .i64 xn],4⟩]) (fun _ => bH h m2 r2 []) (fun _ => True) (fun _ => 0) () trivial .refl ?_
   rintro X _ _ _
   refine run_sound (Tab.ok_Γ _) 400 _ _ _ _ ?_
   simp (maxSteps:=999999) only [EV0,zx,zw,zv,zu,zq,zp,zj,zk,zg,leT,zZ,rvC,zY,zX,zW,zV,↓zU,↓zQ,reduceCtorEq,yz,yy,yY,yx,yw,yv,yu,yq,yp,yX,yj,yk,yg,yW,yV,yU,yZ,yQ,xz,TFa,insG,insM,movG,movM,swpG,swpM,remG,remM,bH_fm,hcc,he2,put,fillP]
   refine loop_rule (α:=Unit) [] (fun _ => []) (fun _ => [⟨.rw,[.i .i64 3, .i .i64 xa, .i .i64 xb, .i .i64 xn],4⟩]) (fun _ => bH h mo r2 []) (fun _ => True) (fun _ => 0) () trivial .refl ?_
   rintro X _ _ _
   refine run_sound (Tab.ok_Γ _) 400 _ _ _ _ ?_
   simp (maxSteps:=999999) only [EV0,zx,zw,zv,zu,zq,zp,zj,zk,zg,leT,zZ,rvC,zY,zX,zW,zV,↓zU,↓zQ,reduceCtorEq,yz,yy,yY,yx,yw,yv,yu,yq,yp,yX,yj,yk,yg,yW,yV,yU,yZ,yQ,xz,TFa,bne]
   exact hK _
  have hq : 0 < Q.length:=by omega
  have hsl : ∀ n c,slA n Q c = .sl (.g n) 0 Q.length c:=fun n c => slA_pos hq
  obtain ⟨B,hB⟩ : ∃ B : Nat → Blk,B = fun c => ⟨.rw,intsB Q,c⟩:=⟨_,rfl⟩
  have hbk : ∀ c,bkA Q c = [B c]:=fun c => by rw [hB]; exact bkA_pos hq
  have hBx : ∀ (m r : M) (c : Nat) (Y : List Blk),(bH h m r (B c :: Y))[h.length + 5]? = some ⟨.rw,intsB Q,c⟩:=fun m r c Y => by rw [hB]; exact bH_x _ _ _ _ _
  obtain ⟨row,hrw⟩ : ∃ row : Int → List Bool,row = fun a => Q.map fun b => decide (b ∈ under m1.D Q a):=⟨_,rfl⟩
  have row' : ∀ a,row a = Q.map fun b => decide (b ∈ under m1.D Q a):=fun a => by rw [hrw]
  have hrow : ∀ a,(row a).length = Q.length:=fun a => by rw [hrw]; simp
  have v0 : h.length < h.length + 5 + 1:=by omega
  have v4 : h.length + 4 < h.length + 5 + 1:=by omega
  have v5 : h.length + 5 < h.length + 5 + 1:=by omega
  simp (maxSteps:=999999) only [EV0,zx,zw,zv,zu,zq,zp,zj,zk,zg,leT,zZ,rvC,zY,zX,zW,zV,↓zU,↓zQ,reduceCtorEq,yz,yy,yY,yx,yw,yv,yu,yq,yp,yX,yj,yk,yg,yW,yV,yU,yZ,yQ,xz,df5,TFa,awake11G,playedG,promG,promM,opF,lisAG,lisAM,lisA,bH_fm,bH_fr,bH_fb,bH_app,bH_len,hcc,hA,hF,hu1,l1,↓hlen,↓hkn,↓hnl,c1,Op.cl,erO,Option.getD_some,bne,List.length_nil,Nat.add_zero,List.nil_append,put,fillP,hm1,hr1,li1,hm2,hr2,hp,c40,hsl,hbk]
  intro cq hcq0
  have hclq : ∀ m',clean (h.length + 5 + 1) (bH h m' r2 [B cq]) = true:=fun m' => by
   have:=bH_clean hc m' r2 (X:=[B cq]) (by rw [hB]; simp only [List.all_cons,List.all_nil,Bool.and_true]; exact (intsB_is Q).va _ _)
   rwa [bH_len] at this
  have hsv : ∀ k,s.val (h.length + 5 + 1) k = true:=fun k => Hs.sl.val (by omega)
  have hspk:=fun l => Hs.sl.pick l
  have hsnm:=fun k => Hs.sl.names k
  obtain ⟨XB,hXB⟩ : ∃ XB : Blk,(⟨.rw,[.i .i64 3, .i .i64 xa, .i .i64 xb, .i .i64 xn],4⟩ : Blk) = XB:=⟨_,rfl⟩
  have hxbm : ∀ ρ,XB.cells.map (S.ren ρ) = XB.cells:=fun ρ => by rw [← hXB]; rfl
  have hxbv : ∀ n k,XB.cells.all (S.val n k) = true:=fun n k => by rw [← hXB]; rfl
  have hxbn : ∀ k,XB.cells.all (fun s => !s.names k) = true:=fun k => by rw [← hXB]; rfl
  have hxbb : ∀ k,XB.cells.all (S.below k) = true:=fun k => by rw [← hXB]; rfl
  refine loop_rule (α:=Nat × List Bool × Nat × M) [10,11,12,13,69,70,71,72,73,74,75,76,77,78,79,80,81,82,83,84,85,86,87,88,89,90,91,92,93,94,95,96,97] (fun z => [(10, .s (bSl 1 z.2.1 z.2.2.1)),(11, .s (.i .i64 (z.1 : Int)))]) (fun z => bLS [XB] z.2.1 z.2.2.1) (fun z => bH h z.2.2.2 r2 [B cq]) (fun z => z.1 ≤ Q.length ∧ z.2.1 = (Q.take z.1).flatMap row ∧ z.2.1.length ≤ z.2.2.1 ∧ z.2.2.2.w = m1.w) (fun z => Q.length - z.1) (0,[],0,m2) ⟨Nat.zero_le _,rfl,Nat.zero_le _,li2⟩ ?_ ?_
  ·refine Wk.same (by rw [← hXB]; rfl) rfl ?_
   simp (maxSteps:=999999) only [EV0,zx,zw,zv,zu,zq,zp,zj,zk,zg,leT,zZ,rvC,zY,zX,zW,zV,↓zU,↓zQ,reduceCtorEq,yz,yy,yY,yx,yw,yv,yu,yq,yp,yX,yj,yk,yg,yW,yV,yU,yZ,yQ,xz,Int.natCast_zero,bSl]
  rintro X ⟨i,bl,cp,mi⟩ ⟨hi,hbl,hcp,hwi⟩ IH
  simp only at hi hbl hcp hwi ⊢
  rcases Nat.lt_or_ge i Q.length with h1 | h1
  ·obtain ⟨d1,d2,d3,d4⟩:=idx h1 (by omega)
   obtain ⟨y,hy⟩ : ∃ y,nth 0 Q i = y:=⟨_,rfl⟩
   have hyQ : y ∈ Q:=by rw [← hy]; exact nth_mem h1
   have g1:=intsB_get h1
   rw [hy] at g1
   have hbn : bl.length = i * Q.length:=by rw [hbl,flat_len hrow,List.length_take]; congr 1; omega
   have hbm : i * Q.length ≤ 40 * 40:=Nat.mul_le_mul (by omega) (by omega)
   have hQi : Q[i] = y:=by rw [← hy,nth_eq h1]
   have hnext : (Q.take (i + 1)).flatMap row = bl ++ row y:=by
    rw [List.take_add_one,List.getElem?_eq_getElem h1,Option.toList_some,List.flatMap_append,← hbl,hQi]
    simp
   have exit1 : ∀ (blz : List Bool),∃ zz : Nat,True:=fun _ => ⟨0,trivial⟩
   cases bl with
   | nil =>
    simp only [bSl,bLS]
    refine run_sound (Tab.ok_Γ _) 300 _ _ _ _ ?_
    simp (maxSteps:=999999) only [EV0,zx,zw,zv,zu,zq,zp,zj,zk,zg,leT,zZ,rvC,zY,zX,zW,zV,↓zU,↓zQ,reduceCtorEq,yz,yy,yY,yx,yw,yv,yu,yq,yp,yX,yj,yk,yg,yW,yV,yU,yZ,yQ,xz,TFa,d1,d2,d3,d4,put,fillP]
    refine loop_rule (α:=Nat × List Bool × Nat × M) [10,12,13,75,76,77,78,79,80,81,82,83,84,85,86,87,88,89,90,91,92,93,94,95,96,97] (fun z => [(10, .s (bSl 1 z.2.1 z.2.2.1)),(12, .s (.i .i64 (z.1 : Int)))]) (fun z => bLS [XB] z.2.1 z.2.2.1) (fun z => bH h z.2.2.2 r2 [B cq]) (fun z => z.1 ≤ Q.length ∧ z.2.1 = ([] : List Bool) ++ (Q.take z.1).map (fun b => decide (b ∈ under m1.D Q y)) ∧ z.2.1.length ≤ z.2.2.1 ∧ z.2.2.2.w = m1.w) (fun z => Q.length - z.1) (0,([] : List Bool),cp,mi) ⟨Nat.zero_le _,by simp,hcp,hwi⟩ ?_ ?_
    ·refine Wk.same rfl rfl ?_
     simp (maxSteps:=999999) only [EV0,zx,zw,zv,zu,zq,zp,zj,zk,zg,leT,zZ,rvC,zY,zX,zW,zV,↓zU,↓zQ,reduceCtorEq,yz,yy,yY,yx,yw,yv,yu,yq,yp,yX,yj,yk,yg,yW,yV,yU,yZ,yQ,xz,Int.natCast_zero,bSl]
    rintro X2 ⟨k,b2,c2,m'⟩ ⟨hk,hb2,hc2,hw'⟩ IH2
    simp only at hk hb2 hc2 hw' ⊢
    have hnq : h.length ≤ (bH h m' r2 [B cq]).length:=by rw [bH_len]; omega
    rcases Nat.lt_or_ge k Q.length with h2 | h2
    ·obtain ⟨f1,f2,f3,f4⟩:=idx h2 (by omega)
     obtain ⟨z,hz⟩ : ∃ z,nth 0 Q k = z:=⟨_,rfl⟩
     have g2:=intsB_get h2
     rw [hz] at g2
     obtain ⟨u1,u2,_⟩:=hun m' y hw'
     obtain ⟨m3,hm3⟩ : ∃ m3,(m'.dsO y).2 = m3:=⟨_,rfl⟩
     rw [hm3] at u2
     obtain ⟨q,hq⟩ : ∃ q,decide (z ∈ under m1.D Q y) = q:=⟨_,rfl⟩
     have hq' : decide (z ∈ m'.dsL y) = q:=by rw [u1]; exact hq
     have hb3 : ([] : List Bool) ++ (Q.take (k + 1)).map (fun b => decide (b ∈ under m1.D Q y)) = b2 ++ [q]:=by
      rw [hb2,List.take_add_one,List.getElem?_eq_getElem h2,Option.toList_some,List.map_append,List.map_cons,List.map_nil,List.append_assoc,← nth_eq (d:=0) h2,hz,hq]
     have hbl2 : b2.length ≤ 2000:=by
      have h3 : b2.length = (([] : List Bool)).length + (Q.take k).length:=by rw [hb2,List.length_append,List.length_map]
      rw [List.length_take] at h3
      simp only [List.length_cons,List.length_nil] at hbn h3
      omega
     have hcq : clean (bH h m3 r2 [B cq]).length (bH h m3 r2 [B cq]) = true:=by rw [bH_len]; exact hclq m3
     have hnq : h.length ≤ (bH h m3 r2 [B cq]).length:=by rw [bH_len]; omega
     cases b2 with
     | nil =>
      simp only [bSl,bLS]
      refine run_sound (Tab.ok_Γ _) 300 _ _ _ _ ?_
      simp (maxSteps:=999999) only [EV0,zx,zw,zv,zu,zq,zp,zj,zk,zg,leT,zZ,rvC,zY,zX,zW,zV,↓zU,↓zQ,reduceCtorEq,yz,yy,yY,yx,yw,yv,yu,yq,yp,yX,yj,yk,yg,yW,yV,yU,yZ,yQ,xz,TFa,belG,belM,bH_fm,hcc,hBx,hq',hm3,d1,d2,d3,f1,f2,f3,f4,g1,g2,Int.toNat_natCast,put,fillP]
      intro ck hck
      refine IH2 (k + 1,[q],ck,m3) _ (by simp only; omega) ⟨by simp only; omega,hb3.symm,by simpa using hck,u2⟩ ?_
      simp only [bSl,bLS,bolB,List.map_cons,List.map_nil,List.length_nil,Nat.zero_add,Nat.mul_one,List.cons_append,List.nil_append]
      refine Wk.sel [0,2] (by decide) hnq ?_ ?_ ?_ ?_ hcq (clean_pick hcq _)
      ·simp only [EV0,zx,zw,zv,zu,zq,zp,zj,zk,zg,leT,zZ,rvC,zY,zX,zW,zV,↓zU,↓zQ,reduceCtorEq,yz,yy,yY,yx,yw,yv,yu,yq,yp,yX,yj,yk,yg,yW,yV,yU,yZ,yQ,xz,List.nil_append,Blk.ren,V.ren,C.ren,S_ren,wc_ren,R.pick_g,R.pick_0,R.pick_s,List.map_append,wc_cons,wc_snoc,wc_nil,Nat.mul_one,hxbm,hxbv,hspk,hsv,v0,v4,v5,bH_len,List.length_cons,List.length_nil,Nat.zero_add]
      ·simp only [EV0,zx,zw,zv,zu,zq,zp,zj,zk,zg,leT,zZ,rvC,zY,zX,zW,zV,↓zU,↓zQ,reduceCtorEq,yz,yy,yY,yx,yw,yv,yu,yq,yp,yX,yj,yk,yg,yW,yV,yU,yZ,yQ,xz,List.nil_append,Blk.ren,V.ren,C.ren,S_ren,wc_ren,R.pick_g,R.pick_0,R.pick_s,Nat.mul_one,hxbm,hxbv,hspk,hsv,v0,v4,v5,bH_len,List.length_cons,List.length_nil,Nat.zero_add]
      ·simp (maxSteps:=999999) only [EV0,zx,zw,zv,zu,zq,zp,zj,zk,zg,leT,zZ,rvC,zY,zX,zW,zV,↓zU,↓zQ,reduceCtorEq,yz,yy,yY,yx,yw,yv,yu,yq,yp,yX,yj,yk,yg,yW,yV,yU,yZ,yQ,xz,List.nil_append,app_len,nlt0,nltn,reduceLT,Nat.le_add_right,Nat.mul_one,hxbm,hxbv,hspk,hsv,v0,v4,v5,bH_len,List.length_cons,List.length_nil,Nat.zero_add]
      ·simp (maxSteps:=999999) only [EV0,zx,zw,zv,zu,zq,zp,zj,zk,zg,leT,zZ,rvC,zY,zX,zW,zV,↓zU,↓zQ,reduceCtorEq,yz,yy,yY,yx,yw,yv,yu,yq,yp,yX,yj,yk,yg,yW,yV,yU,yZ,yQ,xz,List.nil_append,app_len,nlt0,nltn,reduceLT,Nat.le_add_right,vals_cons,vals_nil,wc_val,wc_vals,Nat.mul_one,hxbm,hxbv,hspk,hsv,v0,v4,v5,bH_len,List.length_cons,List.length_nil,Nat.zero_add]
     | cons w b2 =>
      obtain ⟨BU,hBU⟩ : ∃ BU,bolB (w :: b2) = BU:=⟨_,rfl⟩
      obtain ⟨q1,q2,q3,q4,q5,q6⟩:=bolB_is (w :: b2)
      rw [hBU] at q1 q2 q3 q4 q5 q6
      have hq3 : ∀ a b,BU.all (S.val a b) = true:=fun u v => by have:=q3 u v; simpa only [vals] using this
      simp only [bSl,bLS,hBU,List.cons_append,List.nil_append]
      refine run_sound (Tab.ok_Γ _) 300 _ _ _ _ ?_
      simp (maxSteps:=999999) only [EV0,zx,zw,zv,zu,zq,zp,zj,zk,zg,leT,zZ,rvC,zY,zX,zW,zV,↓zU,↓zQ,reduceCtorEq,yz,yy,yY,yx,yw,yv,yu,yq,yp,yX,yj,yk,yg,yW,yV,yU,yZ,yQ,xz,TFa,belG,belM,bH_fm,hcc,hBx,hq',hm3,d1,d2,d3,f1,f2,f3,f4,g1,g2,Int.toNat_natCast,put,fillP,q1,q2,q3,q4,hxbn,hsnm]
      refine ⟨by simp only [List.length_cons] at hbl2; omega,fun ck hck => ?_⟩
      refine IH2 (k + 1,w :: b2 ++ [q],ck,m3) _ (by simp only; omega) ⟨by simp only; omega,hb3.symm,by simp only [List.length_append,List.length_cons,List.length_nil] at hck ⊢; omega,u2⟩ ?_
      have hB2 : bolB (w :: (b2 ++ [q])) = BU ++ [.b q]:=by rw [← hBU,bolB_app]; rfl
      have hl2 : (b2 ++ [q]).length + 1 = b2.length + 1 + 1:=by simp
      simp only [bSl,bLS,List.cons_append,List.nil_append,hB2,hl2,Nat.mul_one]
      refine Wk.sel [0,1] (by decide) hnq ?_ ?_ ?_ ?_ hcq (clean_pick hcq _)
      ·simp only [EV0,zx,zw,zv,zu,zq,zp,zj,zk,zg,leT,zZ,rvC,zY,zX,zW,zV,↓zU,↓zQ,reduceCtorEq,yz,yy,yY,yx,yw,yv,yu,yq,yp,yX,yj,yk,yg,yW,yV,yU,yZ,yQ,xz,List.nil_append,Blk.ren,V.ren,C.ren,S_ren,wc_ren,R.pick_g,R.pick_0,R.pick_s,List.map_append,wc_cons,wc_snoc,wc_nil,Nat.mul_one,hxbm,hxbv,hspk,hsv,v0,v4,v5,bH_len,List.length_cons,List.length_nil,Nat.zero_add,hq3,q5,List.map_append,List.map_cons,List.map_nil,vals,List.all_append]
      ·simp only [EV0,zx,zw,zv,zu,zq,zp,zj,zk,zg,leT,zZ,rvC,zY,zX,zW,zV,↓zU,↓zQ,reduceCtorEq,yz,yy,yY,yx,yw,yv,yu,yq,yp,yX,yj,yk,yg,yW,yV,yU,yZ,yQ,xz,List.nil_append,Blk.ren,V.ren,C.ren,S_ren,wc_ren,R.pick_g,R.pick_0,R.pick_s,Nat.mul_one,hxbm,hxbv,hspk,hsv,v0,v4,v5,bH_len,List.length_cons,List.length_nil,Nat.zero_add,hq3,q5,List.map_append,List.map_cons,List.map_nil,vals,List.all_append]
      ·simp (maxSteps:=999999) only [EV0,zx,zw,zv,zu,zq,zp,zj,zk,zg,leT,zZ,rvC,zY,zX,zW,zV,↓zU,↓zQ,reduceCtorEq,yz,yy,yY,yx,yw,yv,yu,yq,yp,yX,yj,yk,yg,yW,yV,yU,yZ,yQ,xz,List.nil_append,app_len,nlt0,nltn,reduceLT,Nat.le_add_right,Nat.mul_one,hxbm,hxbv,hspk,hsv,v0,v4,v5,bH_len,List.length_cons,List.length_nil,Nat.zero_add,hq3,q5,List.map_append,List.map_cons,List.map_nil,vals,List.all_append]
      ·simp (maxSteps:=999999) only [EV0,zx,zw,zv,zu,zq,zp,zj,zk,zg,leT,zZ,rvC,zY,zX,zW,zV,↓zU,↓zQ,reduceCtorEq,yz,yy,yY,yx,yw,yv,yu,yq,yp,yX,yj,yk,yg,yW,yV,yU,yZ,yQ,xz,List.nil_append,app_len,nlt0,nltn,reduceLT,Nat.le_add_right,vals_cons,vals_nil,wc_val,wc_vals,Nat.mul_one,hxbm,hxbv,hspk,hsv,v0,v4,v5,bH_len,List.length_cons,List.length_nil,Nat.zero_add,hq3,q5,List.map_append,List.map_cons,List.map_nil,vals,List.all_append]
    ·have e0 : k = Q.length:=by omega
     subst e0
     clear IH2
     rw [List.take_length] at hb2
     have hb4 : b2 = (Q.take (i + 1)).flatMap row:=by rw [hnext,hb2,row']
     cases b2 with
     | nil =>
      simp only [bSl,bLS]
      refine run_sound (Tab.ok_Γ _) 300 _ _ _ _ ?_
      simp (maxSteps:=999999) only [EV0,zx,zw,zv,zu,zq,zp,zj,zk,zg,leT,zZ,rvC,zY,zX,zW,zV,↓zU,↓zQ,reduceCtorEq,yz,yy,yY,yx,yw,yv,yu,yq,yp,yX,yj,yk,yg,yW,yV,yU,yZ,yQ,xz,TFa,Int.lt_irrefl,d4]
      refine IH (i + 1,[],c2,m') _ (by simp only; omega) ⟨by simp only; omega,hb4,hc2,hw'⟩ ?_
      refine Wk.same rfl rfl ?_
      simp (maxSteps:=999999) only [EV0,zx,zw,zv,zu,zq,zp,zj,zk,zg,leT,zZ,rvC,zY,zX,zW,zV,↓zU,↓zQ,reduceCtorEq,yz,yy,yY,yx,yw,yv,yu,yq,yp,yX,yj,yk,yg,yW,yV,yU,yZ,yQ,xz,bSl]
     | cons w b2 =>
      simp only [bSl,bLS,List.cons_append,List.nil_append]
      refine run_sound (Tab.ok_Γ _) 300 _ _ _ _ ?_
      simp (maxSteps:=999999) only [EV0,zx,zw,zv,zu,zq,zp,zj,zk,zg,leT,zZ,rvC,zY,zX,zW,zV,↓zU,↓zQ,reduceCtorEq,yz,yy,yY,yx,yw,yv,yu,yq,yp,yX,yj,yk,yg,yW,yV,yU,yZ,yQ,xz,TFa,Int.lt_irrefl,d4]
      refine IH (i + 1,w :: b2,c2,m') _ (by simp only; omega) ⟨by simp only; omega,hb4,hc2,hw'⟩ ?_
      refine Wk.same rfl rfl ?_
      simp (maxSteps:=999999) only [EV0,zx,zw,zv,zu,zq,zp,zj,zk,zg,leT,zZ,rvC,zY,zX,zW,zV,↓zU,↓zQ,reduceCtorEq,yz,yy,yY,yx,yw,yv,yu,yq,yp,yX,yj,yk,yg,yW,yV,yU,yZ,yQ,xz,bSl]
   | cons b0 bl =>
    simp only [bSl,bLS,List.cons_append,List.nil_append]
    refine run_sound (Tab.ok_Γ _) 300 _ _ _ _ ?_
    simp (maxSteps:=999999) only [EV0,zx,zw,zv,zu,zq,zp,zj,zk,zg,leT,zZ,rvC,zY,zX,zW,zV,↓zU,↓zQ,reduceCtorEq,yz,yy,yY,yx,yw,yv,yu,yq,yp,yX,yj,yk,yg,yW,yV,yU,yZ,yQ,xz,TFa,d1,d2,d3,d4,put,fillP]
    refine loop_rule (α:=Nat × List Bool × Nat × M) [10,12,13,75,76,77,78,79,80,81,82,83,84,85,86,87,88,89,90,91,92,93,94,95,96,97] (fun z => [(10, .s (bSl 1 z.2.1 z.2.2.1)),(12, .s (.i .i64 (z.1 : Int)))]) (fun z => bLS [XB] z.2.1 z.2.2.1) (fun z => bH h z.2.2.2 r2 [B cq]) (fun z => z.1 ≤ Q.length ∧ z.2.1 = (b0 :: bl) ++ (Q.take z.1).map (fun b => decide (b ∈ under m1.D Q y)) ∧ z.2.1.length ≤ z.2.2.1 ∧ z.2.2.2.w = m1.w) (fun z => Q.length - z.1) (0,(b0 :: bl),cp,mi) ⟨Nat.zero_le _,by simp,hcp,hwi⟩ ?_ ?_
    ·refine Wk.same rfl rfl ?_
     simp (maxSteps:=999999) only [EV0,zx,zw,zv,zu,zq,zp,zj,zk,zg,leT,zZ,rvC,zY,zX,zW,zV,↓zU,↓zQ,reduceCtorEq,yz,yy,yY,yx,yw,yv,yu,yq,yp,yX,yj,yk,yg,yW,yV,yU,yZ,yQ,xz,Int.natCast_zero,bSl]
    rintro X2 ⟨k,b2,c2,m'⟩ ⟨hk,hb2,hc2,hw'⟩ IH2
    simp only at hk hb2 hc2 hw' ⊢
    have hnq : h.length ≤ (bH h m' r2 [B cq]).length:=by rw [bH_len]; omega
    rcases Nat.lt_or_ge k Q.length with h2 | h2
    ·obtain ⟨f1,f2,f3,f4⟩:=idx h2 (by omega)
     obtain ⟨z,hz⟩ : ∃ z,nth 0 Q k = z:=⟨_,rfl⟩
     have g2:=intsB_get h2
     rw [hz] at g2
     obtain ⟨u1,u2,_⟩:=hun m' y hw'
     obtain ⟨m3,hm3⟩ : ∃ m3,(m'.dsO y).2 = m3:=⟨_,rfl⟩
     rw [hm3] at u2
     obtain ⟨q,hq⟩ : ∃ q,decide (z ∈ under m1.D Q y) = q:=⟨_,rfl⟩
     have hq' : decide (z ∈ m'.dsL y) = q:=by rw [u1]; exact hq
     have hb3 : (b0 :: bl) ++ (Q.take (k + 1)).map (fun b => decide (b ∈ under m1.D Q y)) = b2 ++ [q]:=by
      rw [hb2,List.take_add_one,List.getElem?_eq_getElem h2,Option.toList_some,List.map_append,List.map_cons,List.map_nil,List.append_assoc,← nth_eq (d:=0) h2,hz,hq]
     have hbl2 : b2.length ≤ 2000:=by
      have h3 : b2.length = ((b0 :: bl)).length + (Q.take k).length:=by rw [hb2,List.length_append,List.length_map]
      rw [List.length_take] at h3
      simp only [List.length_cons,List.length_nil] at hbn h3
      omega
     have hcq : clean (bH h m3 r2 [B cq]).length (bH h m3 r2 [B cq]) = true:=by rw [bH_len]; exact hclq m3
     have hnq : h.length ≤ (bH h m3 r2 [B cq]).length:=by rw [bH_len]; omega
     cases b2 with
     | nil =>
      simp only [bSl,bLS]
      refine run_sound (Tab.ok_Γ _) 300 _ _ _ _ ?_
      simp (maxSteps:=999999) only [EV0,zx,zw,zv,zu,zq,zp,zj,zk,zg,leT,zZ,rvC,zY,zX,zW,zV,↓zU,↓zQ,reduceCtorEq,yz,yy,yY,yx,yw,yv,yu,yq,yp,yX,yj,yk,yg,yW,yV,yU,yZ,yQ,xz,TFa,belG,belM,bH_fm,hcc,hBx,hq',hm3,d1,d2,d3,f1,f2,f3,f4,g1,g2,Int.toNat_natCast,put,fillP]
      intro ck hck
      refine IH2 (k + 1,[q],ck,m3) _ (by simp only; omega) ⟨by simp only; omega,hb3.symm,by simpa using hck,u2⟩ ?_
      simp only [bSl,bLS,bolB,List.map_cons,List.map_nil,List.length_nil,Nat.zero_add,Nat.mul_one,List.cons_append,List.nil_append]
      refine Wk.sel [0,2] (by decide) hnq ?_ ?_ ?_ ?_ hcq (clean_pick hcq _)
      ·simp only [EV0,zx,zw,zv,zu,zq,zp,zj,zk,zg,leT,zZ,rvC,zY,zX,zW,zV,↓zU,↓zQ,reduceCtorEq,yz,yy,yY,yx,yw,yv,yu,yq,yp,yX,yj,yk,yg,yW,yV,yU,yZ,yQ,xz,List.nil_append,Blk.ren,V.ren,C.ren,S_ren,wc_ren,R.pick_g,R.pick_0,R.pick_s,List.map_append,wc_cons,wc_snoc,wc_nil,Nat.mul_one,hxbm,hxbv,hspk,hsv,v0,v4,v5,bH_len,List.length_cons,List.length_nil,Nat.zero_add]
      ·simp only [EV0,zx,zw,zv,zu,zq,zp,zj,zk,zg,leT,zZ,rvC,zY,zX,zW,zV,↓zU,↓zQ,reduceCtorEq,yz,yy,yY,yx,yw,yv,yu,yq,yp,yX,yj,yk,yg,yW,yV,yU,yZ,yQ,xz,List.nil_append,Blk.ren,V.ren,C.ren,S_ren,wc_ren,R.pick_g,R.pick_0,R.pick_s,Nat.mul_one,hxbm,hxbv,hspk,hsv,v0,v4,v5,bH_len,List.length_cons,List.length_nil,Nat.zero_add]
      ·simp (maxSteps:=999999) only [EV0,zx,zw,zv,zu,zq,zp,zj,zk,zg,leT,zZ,rvC,zY,zX,zW,zV,↓zU,↓zQ,reduceCtorEq,yz,yy,yY,yx,yw,yv,yu,yq,yp,yX,yj,yk,yg,yW,yV,yU,yZ,yQ,xz,List.nil_append,app_len,nlt0,nltn,reduceLT,Nat.le_add_right,Nat.mul_one,hxbm,hxbv,hspk,hsv,v0,v4,v5,bH_len,List.length_cons,List.length_nil,Nat.zero_add]
      ·simp (maxSteps:=999999) only [EV0,zx,zw,zv,zu,zq,zp,zj,zk,zg,leT,zZ,rvC,zY,zX,zW,zV,↓zU,↓zQ,reduceCtorEq,yz,yy,yY,yx,yw,yv,yu,yq,yp,yX,yj,yk,yg,yW,yV,yU,yZ,yQ,xz,List.nil_append,app_len,nlt0,nltn,reduceLT,Nat.le_add_right,vals_cons,vals_nil,wc_val,wc_vals,Nat.mul_one,hxbm,hxbv,hspk,hsv,v0,v4,v5,bH_len,List.length_cons,List.length_nil,Nat.zero_add]
     | cons w b2 =>
      obtain ⟨BU,hBU⟩ : ∃ BU,bolB (w :: b2) = BU:=⟨_,rfl⟩
      obtain ⟨q1,q2,q3,q4,q5,q6⟩:=bolB_is (w :: b2)
      rw [hBU] at q1 q2 q3 q4 q5 q6
      have hq3 : ∀ a b,BU.all (S.val a b) = true:=fun u v => by have:=q3 u v; simpa only [vals] using this
      simp only [bSl,bLS,hBU,List.cons_append,List.nil_append]
      refine run_sound (Tab.ok_Γ _) 300 _ _ _ _ ?_
      simp (maxSteps:=999999) only [EV0,zx,zw,zv,zu,zq,zp,zj,zk,zg,leT,zZ,rvC,zY,zX,zW,zV,↓zU,↓zQ,reduceCtorEq,yz,yy,yY,yx,yw,yv,yu,yq,yp,yX,yj,yk,yg,yW,yV,yU,yZ,yQ,xz,TFa,belG,belM,bH_fm,hcc,hBx,hq',hm3,d1,d2,d3,f1,f2,f3,f4,g1,g2,Int.toNat_natCast,put,fillP,q1,q2,q3,q4,hxbn,hsnm]
      refine ⟨by simp only [List.length_cons] at hbl2; omega,fun ck hck => ?_⟩
      refine IH2 (k + 1,w :: b2 ++ [q],ck,m3) _ (by simp only; omega) ⟨by simp only; omega,hb3.symm,by simp only [List.length_append,List.length_cons,List.length_nil] at hck ⊢; omega,u2⟩ ?_
      have hB2 : bolB (w :: (b2 ++ [q])) = BU ++ [.b q]:=by rw [← hBU,bolB_app]; rfl
      have hl2 : (b2 ++ [q]).length + 1 = b2.length + 1 + 1:=by simp
      simp only [bSl,bLS,List.cons_append,List.nil_append,hB2,hl2,Nat.mul_one]
      refine Wk.sel [0,1] (by decide) hnq ?_ ?_ ?_ ?_ hcq (clean_pick hcq _)
      ·simp (maxSteps:=999999) only [EV0,zx,zw,zv,zu,zq,zp,zj,zk,zg,leT,zZ,rvC,zY,zX,zW,zV,↓zU,↓zQ,reduceCtorEq,yz,yy,yY,yx,yw,yv,yu,yq,yp,yX,yj,yk,yg,yW,yV,yU,yZ,yQ,xz,List.nil_append,Blk.ren,V.ren,C.ren,S_ren,wc_ren,R.pick_g,R.pick_0,R.pick_s,List.map_append,wc_cons,wc_snoc,wc_nil,Nat.mul_one,hxbm,hxbv,hspk,hsv,v0,v4,v5,bH_len,List.length_cons,List.length_nil,Nat.zero_add,hq3,q5,List.map_append,List.map_cons,List.map_nil,vals,List.all_append]
      ·simp (maxSteps:=999999) only [EV0,zx,zw,zv,zu,zq,zp,zj,zk,zg,leT,zZ,rvC,zY,zX,zW,zV,↓zU,↓zQ,reduceCtorEq,yz,yy,yY,yx,yw,yv,yu,yq,yp,yX,yj,yk,yg,yW,yV,yU,yZ,yQ,xz,List.nil_append,Blk.ren,V.ren,C.ren,S_ren,wc_ren,R.pick_g,R.pick_0,R.pick_s,Nat.mul_one,hxbm,hxbv,hspk,hsv,v0,v4,v5,bH_len,List.length_cons,List.length_nil,Nat.zero_add,hq3,q5,List.map_append,List.map_cons,List.map_nil,vals,List.all_append]
      ·simp (maxSteps:=999999) only [EV0,zx,zw,zv,zu,zq,zp,zj,zk,zg,leT,zZ,rvC,zY,zX,zW,zV,↓zU,↓zQ,reduceCtorEq,yz,yy,yY,yx,yw,yv,yu,yq,yp,yX,yj,yk,yg,yW,yV,yU,yZ,yQ,xz,List.nil_append,app_len,nlt0,nltn,reduceLT,Nat.le_add_right,Nat.mul_one,hxbm,hxbv,hspk,hsv,v0,v4,v5,bH_len,List.length_cons,List.length_nil,Nat.zero_add,hq3,q5,List.map_append,List.map_cons,List.map_nil,vals,List.all_append]
      ·simp (maxSteps:=999999) only [EV0,zx,zw,zv,zu,zq,zp,zj,zk,zg,leT,zZ,rvC,zY,zX,zW,zV,↓zU,↓zQ,reduceCtorEq,yz,yy,yY,yx,yw,yv,yu,yq,yp,yX,yj,yk,yg,yW,yV,yU,yZ,yQ,xz,List.nil_append,app_len,nlt0,nltn,reduceLT,Nat.le_add_right,vals_cons,vals_nil,wc_val,wc_vals,Nat.mul_one,hxbm,hxbv,hspk,hsv,v0,v4,v5,bH_len,List.length_cons,List.length_nil,Nat.zero_add,hq3,q5,List.map_append,List.map_cons,List.map_nil,vals,List.all_append]
    ·have e0 : k = Q.length:=by omega
     subst e0
     clear IH2
     rw [List.take_length] at hb2
     have hb4 : b2 = (Q.take (i + 1)).flatMap row:=by rw [hnext,hb2,row']
     cases b2 with
     | nil =>
      simp only [bSl,bLS]
      refine run_sound (Tab.ok_Γ _) 300 _ _ _ _ ?_
      simp (maxSteps:=999999) only [EV0,zx,zw,zv,zu,zq,zp,zj,zk,zg,leT,zZ,rvC,zY,zX,zW,zV,↓zU,↓zQ,reduceCtorEq,yz,yy,yY,yx,yw,yv,yu,yq,yp,yX,yj,yk,yg,yW,yV,yU,yZ,yQ,xz,TFa,Int.lt_irrefl,d4]
      refine IH (i + 1,[],c2,m') _ (by simp only; omega) ⟨by simp only; omega,hb4,hc2,hw'⟩ ?_
      refine Wk.same rfl rfl ?_
      simp (maxSteps:=999999) only [EV0,zx,zw,zv,zu,zq,zp,zj,zk,zg,leT,zZ,rvC,zY,zX,zW,zV,↓zU,↓zQ,reduceCtorEq,yz,yy,yY,yx,yw,yv,yu,yq,yp,yX,yj,yk,yg,yW,yV,yU,yZ,yQ,xz,bSl]
     | cons w b2 =>
      simp only [bSl,bLS,List.cons_append,List.nil_append]
      refine run_sound (Tab.ok_Γ _) 300 _ _ _ _ ?_
      simp (maxSteps:=999999) only [EV0,zx,zw,zv,zu,zq,zp,zj,zk,zg,leT,zZ,rvC,zY,zX,zW,zV,↓zU,↓zQ,reduceCtorEq,yz,yy,yY,yx,yw,yv,yu,yq,yp,yX,yj,yk,yg,yW,yV,yU,yZ,yQ,xz,TFa,Int.lt_irrefl,d4]
      refine IH (i + 1,w :: b2,c2,m') _ (by simp only; omega) ⟨by simp only; omega,hb4,hc2,hw'⟩ ?_
      refine Wk.same rfl rfl ?_
      simp (maxSteps:=999999) only [EV0,zx,zw,zv,zu,zq,zp,zj,zk,zg,leT,zZ,rvC,zY,zX,zW,zV,↓zU,↓zQ,reduceCtorEq,yz,yy,yY,yx,yw,yv,yu,yq,yp,yX,yj,yk,yg,yW,yV,yU,yZ,yQ,xz,bSl]
  ·have e0 : i = Q.length:=by omega
   subst e0
   clear IH
   rw [List.take_length] at hbl
   have hbn : bl.length = Q.length * Q.length:=by rw [hbl,flat_len hrow]
   have hbp : 0 < Q.length * Q.length:=Nat.mul_pos hq hq
   obtain ⟨e2,mo,Q2,he2,S⟩:=hop mi hwi
   have Wi:=W1.of_w hwi
   have W2:=Wi.step S
   have hfam : ∀ a b,a ∈ Q → b ∈ Q → nmV ⟨3,xa,xb,xn⟩ e2 a ≠ 0 → nmV ⟨3,xa,xb,xn⟩ e2 b ≠ 0 → (nmV ⟨3,xa,xb,xn⟩ e2 b ∈ under mo.D Q2 (nmV ⟨3,xa,xb,xn⟩ e2 a) ↔ b ∈ under m1.D Q a):=fun a b ha hb h1 h2 => by
    have:=S.fam Wi ha hb h1 h2
    rw [D_w hwi] at this
    exact this
   have hun2 : ∀ (m' : M) (z : Int),m'.w = mo.w → m'.dsL z = under mo.D Q2 z ∧ (m'.dsO z).2.w = mo.w:=fun m' z e => by
    obtain ⟨z1,z2,_⟩:=(W2.of_w e).ds z
    rw [D_w e] at z1
    exact ⟨z1,z2.trans e⟩
   obtain ⟨b0,bt,rfl⟩ : ∃ b0 bt,bl = b0 :: bt:=by
    cases bl with
    | nil => simp only [List.length_nil] at hbn; omega
    | cons a b => exact ⟨a,b,rfl⟩
   obtain ⟨BU,hBU⟩ : ∃ BU,bolB (b0 :: bt) = BU:=⟨_,rfl⟩
   have hget : ∀ a b : Nat,a < Q.length → b < Q.length → BU[a * Q.length + b]? = some (.b (decide (nth 0 Q b ∈ under m1.D Q (nth 0 Q a)))):=fun a b h1 h2 => by
    rw [← hBU,hbl,bolB,List.getElem?_map,flat_get hrow h1 (by omega)]
    rw [← nth_eq (d:=0) h1]
    simp only [row',List.getElem?_map,List.getElem?_eq_getElem h2,Option.map_some,← nth_eq (d:=0) h2]
   simp only [bSl,bLS,hBU,List.cons_append,List.nil_append]
   have hbt : bt.length + 1 = Q.length * Q.length:=by simpa using hbn
   have hbm : Q.length * Q.length ≤ 40 * 40:=Nat.mul_le_mul (by omega) (by omega)
   refine run_sound (Tab.ok_Γ _) 400 _ _ _ _ ?_
   simp (maxSteps:=999999) only [EV0,zx,zw,zv,zu,zq,zp,zj,zk,zg,leT,zZ,rvC,zY,zX,zW,zV,↓zU,↓zQ,reduceCtorEq,yz,yy,yY,yx,yw,yv,yu,yq,yp,yX,yj,yk,yg,yW,yV,yU,yZ,yQ,xz,TFa,insG,insM,movG,movM,swpG,swpM,remG,remM,bH_fm,hcc,he2,Int.lt_irrefl,← hXB,put,fillP]
   refine loop_rule (α:=Nat × M) [4,15,16,17,18,19,20,21,22,140,141,142,143,144,145,146,147,148,149,150,151,152,153,154,155,156,157,158,159,160,161,162,163,164,165,166,167,168,169,170,171,172,173,174,175,176,177,178,179,180,181,182,183,184,185,186,187,188,189,190,191,192,193,194,195,196,197,198,199,200,201,202,203,204,205,206,207,208,209,210,211,212,213,214,215,216,217,218,219,220,221,222,223,224,225,226,227,228,229,230,231,232,233,234,235,236,237,238,239,240,241,242,243,244,245,246] (fun z => [(15, .s (.i .i64 (z.1 : Int)))]) (fun _ => [XB,⟨.rw,BU,cp⟩]) (fun z => bH h z.2 r2 [B cq]) (fun z => z.1 ≤ Q.length ∧ z.2.w = mo.w) (fun z => Q.length - z.1) (0,mo) ⟨Nat.zero_le _,rfl⟩ ?_ ?_
   ·refine Wk.same (by rw [← hXB]) rfl ?_
    simp (maxSteps:=999999) only [EV0,zx,zw,zv,zu,zq,zp,zj,zk,zg,leT,zZ,rvC,zY,zX,zW,zV,↓zU,↓zQ,reduceCtorEq,yz,yy,yY,yx,yw,yv,yu,yq,yp,yX,yj,yk,yg,yW,yV,yU,yZ,yQ,xz,Int.natCast_zero]
   rintro X ⟨i,mi2⟩ ⟨hi2,hwi2⟩ IH
   simp only at hi2 hwi2 ⊢
   rcases Nat.lt_or_ge i Q.length with h1 | h1
   ·obtain ⟨d1,d2,d3,d4⟩:=idx h1 (by omega)
    obtain ⟨y,hy⟩ : ∃ y,nth 0 Q i = y:=⟨_,rfl⟩
    have hyQ : y ∈ Q:=by rw [← hy]; exact nth_mem h1
    have g1:=intsB_get h1
    rw [hy] at g1
    refine run_sound (Tab.ok_Γ _) 300 _ _ _ _ ?_
    simp (maxSteps:=999999) only [EV0,zx,zw,zv,zu,zq,zp,zj,zk,zg,leT,zZ,rvC,zY,zX,zW,zV,↓zU,↓zQ,reduceCtorEq,yz,yy,yY,yx,yw,yv,yu,yq,yp,yX,yj,yk,yg,yW,yV,yU,yZ,yQ,xz,TFa,d1,d2,d3,d4,put,fillP]
    refine loop_rule (α:=Nat × M) [4,16,17,18,19,146,147,148,149,150,151,152,153,154,155,156,157,158,159,160,161,162,163,164,165,166,167,168,169,170,171,172,173,174,175,176,177,178,179,180,181,182,183,184,185,186,187,188,189,190,191] (fun z => [(16, .s (.i .i64 (z.1 : Int)))]) (fun _ => [XB,⟨.rw,BU,cp⟩]) (fun z => bH h z.2 r2 [B cq]) (fun z => z.1 ≤ Q.length ∧ z.2.w = mo.w) (fun z => Q.length - z.1) (0,mi2) ⟨Nat.zero_le _,hwi2⟩ ?_ ?_
    ·refine Wk.same rfl rfl ?_
     simp (maxSteps:=999999) only [EV0,zx,zw,zv,zu,zq,zp,zj,zk,zg,leT,zZ,rvC,zY,zX,zW,zV,↓zU,↓zQ,reduceCtorEq,yz,yy,yY,yx,yw,yv,yu,yq,yp,yX,yj,yk,yg,yW,yV,yU,yZ,yQ,xz,Int.natCast_zero]
    rintro X2 ⟨k,m'⟩ ⟨hk,hw'⟩ IH2
    simp only at hk hw' ⊢
    rcases Nat.lt_or_ge k Q.length with h2 | h2
    ·obtain ⟨f1,f2,f3,f4⟩:=idx h2 (by omega)
     obtain ⟨z,hz⟩ : ∃ z,nth 0 Q k = z:=⟨_,rfl⟩
     have hzQ : z ∈ Q:=by rw [← hz]; exact nth_mem h2
     have g2:=intsB_get h2
     rw [hz] at g2
     have g3:=hget i k h1 h2
     rw [hy,hz] at g3
     obtain ⟨py,hpy⟩ : ∃ p,nmV ⟨3,xa,xb,xn⟩ e2 y = p:=⟨_,rfl⟩
     obtain ⟨pz,hpz⟩ : ∃ p,nmV ⟨3,xa,xb,xn⟩ e2 z = p:=⟨_,rfl⟩
     obtain ⟨u1,u2⟩:=hun2 m' py hw'
     obtain ⟨m3,hm3⟩ : ∃ m3,(m'.dsO py).2 = m3:=⟨_,rfl⟩
     rw [hm3] at u2
     have hff:=hfam y z hyQ hzQ
     rw [hpy,hpz,← u1] at hff
     obtain ⟨q,hq'⟩ : ∃ q,decide (pz ∈ m'.dsL py) = q:=⟨_,rfl⟩
     have hidx : i * Q.length + k < bt.length + 1:=by
      rw [hbt]
      have : i * Q.length + Q.length ≤ Q.length * Q.length:=by
       rw [← Nat.succ_mul]; exact Nat.mul_le_mul_right _ h1
      omega
     have w1 : IntKind.i64.wrap ((i : Int) * (Q.length : Int)) = ((i * Q.length : Nat) : Int):=by
      rw [← Int.natCast_mul,wrap64] <;> omega
     have w2 : IntKind.i64.wrap (((i * Q.length : Nat) : Int) + (k : Int)) = ((i * Q.length + k : Nat) : Int):=by rw [wrap64] <;> omega
     have w3 : ((i * Q.length + k : Nat) : Int) < ((bt.length + 1 : Nat) : Int):=by omega
     have w4 : (0 : Int) ≤ ((i * Q.length + k : Nat) : Int):=by omega
     by_cases zy : py = 0
     ·subst zy
      refine run_sound (Tab.ok_Γ _) 300 _ _ _ _ ?_
      simp (maxSteps:=999999) only [EV0,zx,zw,zv,zu,zq,zp,zj,zk,zg,leT,zZ,rvC,zY,zX,zW,zV,↓zU,↓zQ,reduceCtorEq,yz,yy,yY,yx,yw,yv,yu,yq,yp,yX,yj,yk,yg,yW,yV,yU,yZ,yQ,xz,TFa,belG,belM,namedG,bH_fm,hcc,hBx,hpy,hpz,hq',hm3,d1,d2,d3,f1,f2,f3,f4,g1,g2,Int.toNat_natCast,bne,← hXB,put,fillP]
      refine IH2 (k + 1,m3) _ (by simp only; omega) ⟨by simp only; omega,u2⟩ ?_
      refine Wk.same (by rw [← hXB]) rfl ?_
      simp (maxSteps:=999999) only [EV0,zx,zw,zv,zu,zq,zp,zj,zk,zg,leT,zZ,rvC,zY,zX,zW,zV,↓zU,↓zQ,reduceCtorEq,yz,yy,yY,yx,yw,yv,yu,yq,yp,yX,yj,yk,yg,yW,yV,yU,yZ,yQ,xz]
     ·have zy' : (py == 0) = false:=by simpa using zy
      by_cases zz : pz = 0
      ·subst zz
       refine run_sound (Tab.ok_Γ _) 300 _ _ _ _ ?_
       simp (maxSteps:=999999) only [EV0,zx,zw,zv,zu,zq,zp,zj,zk,zg,leT,zZ,rvC,zY,zX,zW,zV,↓zU,↓zQ,reduceCtorEq,yz,yy,yY,yx,yw,yv,yu,yq,yp,yX,yj,yk,yg,yW,yV,yU,yZ,yQ,xz,TFa,belG,belM,namedG,bH_fm,hcc,hBx,hpy,hpz,hq',hm3,d1,d2,d3,f1,f2,f3,f4,g1,g2,zy,zy',Int.toNat_natCast,bne,← hXB,put,fillP]
       refine IH2 (k + 1,m3) _ (by simp only; omega) ⟨by simp only; omega,u2⟩ ?_
       refine Wk.same (by rw [← hXB]) rfl ?_
       simp (maxSteps:=999999) only [EV0,zx,zw,zv,zu,zq,zp,zj,zk,zg,leT,zZ,rvC,zY,zX,zW,zV,↓zU,↓zQ,reduceCtorEq,yz,yy,yY,yx,yw,yv,yu,yq,yp,yX,yj,yk,yg,yW,yV,yU,yZ,yQ,xz]
      ·have zz' : (pz == 0) = false:=by simpa using zz
       have hqe : decide (z ∈ under m1.D Q y) = q:=by
        rw [← hq']
        exact decide_eq_decide.2 (hff zy zz).symm
       rw [hqe] at g3
       refine run_sound (Tab.ok_Γ _) 300 _ _ _ _ ?_
       simp (maxSteps:=999999) only [EV0,zx,zw,zv,zu,zq,zp,zj,zk,zg,leT,zZ,rvC,zY,zX,zW,zV,↓zU,↓zQ,reduceCtorEq,yz,yy,yY,yx,yw,yv,yu,yq,yp,yX,yj,yk,yg,yW,yV,yU,yZ,yQ,xz,TFa,belG,belM,namedG,bH_fm,hcc,hBx,hpy,hpz,hq',hm3,d1,d2,d3,f1,f2,f3,f4,g1,g2,g3,w1,w2,w3,w4,zy,zy',zz,zz',Int.toNat_natCast,bne,← hXB,put,fillP]
       refine IH2 (k + 1,m3) _ (by simp only; omega) ⟨by simp only; omega,u2⟩ ?_
       refine Wk.same (by rw [← hXB]) rfl ?_
       simp (maxSteps:=999999) only [EV0,zx,zw,zv,zu,zq,zp,zj,zk,zg,leT,zZ,rvC,zY,zX,zW,zV,↓zU,↓zQ,reduceCtorEq,yz,yy,yY,yx,yw,yv,yu,yq,yp,yX,yj,yk,yg,yW,yV,yU,yZ,yQ,xz]
    ·have e0 : k = Q.length:=by omega
     subst e0
     clear IH2
     refine run_sound (Tab.ok_Γ _) 300 _ _ _ _ ?_
     simp (maxSteps:=999999) only [EV0,zx,zw,zv,zu,zq,zp,zj,zk,zg,leT,zZ,rvC,zY,zX,zW,zV,↓zU,↓zQ,reduceCtorEq,yz,yy,yY,yx,yw,yv,yu,yq,yp,yX,yj,yk,yg,yW,yV,yU,yZ,yQ,xz,TFa,Int.lt_irrefl,← hXB,d4,bne,put,fillP]
     refine IH (i + 1,m') _ (by simp only; omega) ⟨by simp only; omega,hw'⟩ ?_
     refine Wk.same (by rw [← hXB]) rfl ?_
     simp (maxSteps:=999999) only [EV0,zx,zw,zv,zu,zq,zp,zj,zk,zg,leT,zZ,rvC,zY,zX,zW,zV,↓zU,↓zQ,reduceCtorEq,yz,yy,yY,yx,yw,yv,yu,yq,yp,yX,yj,yk,yg,yW,yV,yU,yZ,yQ,xz]
   ·have e0 : i = Q.length:=by omega
    subst e0
    clear IH
    refine run_sound (Tab.ok_Γ _) 300 _ _ _ _ ?_
    simp (maxSteps:=999999) only [EV0,zx,zw,zv,zu,zq,zp,zj,zk,zg,leT,zZ,rvC,zY,zX,zW,zV,↓zU,↓zQ,reduceCtorEq,yz,yy,yY,yx,yw,yv,yu,yq,yp,yX,yj,yk,yg,yW,yV,yU,yZ,yQ,xz,TFa,Int.lt_irrefl,bne]
    exact hK _
 ·obtain ⟨m1,hm1⟩ : ∃ m1,m = m1:=⟨_,rfl⟩
  obtain ⟨r1,hr1⟩ : ∃ r1,r = r1:=⟨_,rfl⟩
  have hw1:=hw
  have W1:=W
  rw [hm1] at W1
  rw [hm1,hr1] at hw1
  obtain ⟨li1,li2,_⟩:=W1.li
  obtain ⟨m2,hm2⟩ : ∃ m2,m1.lis.2 = m2:=⟨_,rfl⟩
  rw [hm2] at li2
  obtain ⟨r2,hr2⟩ : ∃ r2,promX r1 ⟨4,xa,xb,xn⟩ = r2:=⟨_,rfl⟩
  cases hp : promV r1 ⟨4,xa,xb,xn⟩
  ·simp (maxSteps:=999999) only [EV0,zx,zw,zv,zu,zq,zp,zj,zk,zg,leT,zZ,rvC,zY,zX,zW,zV,↓zU,↓zQ,reduceCtorEq,yz,yy,yY,yx,yw,yv,yu,yq,yp,yX,yj,yk,yg,yW,yV,yU,yZ,yQ,xz,df5,TFa,awake11G,playedG,promG,promM,opF,lisAG,lisAM,lisA,bH_fm,bH_fr,bH_fb,bH_app,bH_len,hcc,hA,hF,hu1,l1,↓hlen,↓hkn,↓hnl,c1,Op.cl,erO,Option.getD_some,bne,List.length_nil,Nat.add_zero,List.nil_append,put,fillP,slA_known,slA_noL,slA_Cknown,slA_below,↓slA_len,hm1,hr1,li1,hm2,hr2,hp]
   repeat' first | exact hK _ | intro _
  by_cases c40 : (40 : Int) < (Q.length : Int)
  ·simp (maxSteps:=999999) only [EV0,zx,zw,zv,zu,zq,zp,zj,zk,zg,leT,zZ,rvC,zY,zX,zW,zV,↓zU,↓zQ,reduceCtorEq,yz,yy,yY,yx,yw,yv,yu,yq,yp,yX,yj,yk,yg,yW,yV,yU,yZ,yQ,xz,df5,TFa,awake11G,playedG,promG,promM,opF,lisAG,lisAM,lisA,bH_fm,bH_fr,bH_fb,bH_app,bH_len,hcc,hA,hF,hu1,l1,↓hlen,↓hkn,↓hnl,c1,Op.cl,erO,Option.getD_some,bne,List.length_nil,Nat.add_zero,List.nil_append,put,fillP,slA_known,slA_noL,slA_Cknown,slA_below,↓slA_len,hm1,hr1,li1,hm2,hr2,hp,c40]
   repeat' first | exact hK _ | intro _
  have hll : Q.length ≤ 40:=by omega
  obtain ⟨p1,p2⟩:=(W1.prom hw1 (x:=⟨4,xa,xb,xn⟩)).2 hp
  have hop : ∀ m' : M,m'.w = m1.w → ∃ e2 mo Q2,m'.rem xa = (e2,mo) ∧ St11 m' Q ⟨4,xa,xb,xn⟩ e2 mo Q2:=fun m' e => by
   obtain ⟨⟨Q2,S⟩,_⟩:=step_rem (W1.of_w e) (r:=m') rfl (x:=⟨4,xa,xb,xn⟩) rfl (okS_w e (p1.resolve_left (by simp)))
   exact ⟨_,_,Q2,rfl,S⟩
  have hun : ∀ (m' : M) (z : Int),m'.w = m1.w → m'.dsL z = under m1.D Q z ∧ (m'.dsO z).2.w = m1.w ∧ True:=fun m' z e => by
   obtain ⟨z1,z2,_⟩:=(W1.of_w e).ds z
   rw [D_w e] at z1
   exact ⟨z1,z2.trans e,trivial⟩
  by_cases q0 : Q.length = 0
  ·have hQ:=List.eq_nil_of_length_eq_zero q0
   subst hQ
   have i0 : ¬ ((40 : Int) < (([] : List Int).length : Int)):=by decide
   obtain ⟨e2,mo,Q2,he2,S⟩:=hop m2 li2
   simp (maxSteps:=999999) only [EV0,zx,zw,zv,zu,zq,zp,zj,zk,zg,leT,zZ,rvC,zY,zX,zW,zV,↓zU,↓zQ,reduceCtorEq,yz,yy,yY,yx,yw,yv,yu,yq,yp,yX,yj,yk,yg,yW,yV,yU,yZ,yQ,xz,df5,TFa,awake11G,playedG,promG,promM,opF,lisAG,lisAM,lisA,bH_fm,bH_fr,bH_fb,bH_app,bH_len,hcc,hA,hF,hu1,l1,↓hlen,↓hkn,↓hnl,c1,Op.cl,erO,Option.getD_some,bne,List.length_nil,Nat.add_zero,List.nil_append,put,fillP,hm1,hr1,li1,hm2,hr2,hp,slA,bkA]
   intro cq _
   refine loop_rule (α:=Unit) [] (fun _ => []) (fun _ => [⟨.rw,[.i .i64 4, .i .i64 xa, .i .i64 xb, .i .i64 xn],4⟩]) (fun _ => bH h m2 r2 []) (fun _ => True) (fun _ => 0) () trivial .refl ?_
   rintro X _ _ _
   refine run_sound (Tab.ok_Γ _) 400 _ _ _ _ ?_
   simp (maxSteps:=999999) only [EV0,zx,zw,zv,zu,zq,zp,zj,zk,zg,leT,zZ,rvC,zY,zX,zW,zV,↓zU,↓zQ,reduceCtorEq,yz,yy,yY,yx,yw,yv,yu,yq,yp,yX,yj,yk,yg,yW,yV,yU,yZ,yQ,xz,TFa,insG,insM,movG,movM,swpG,swpM,remG,remM,bH_fm,hcc,he2,put,fillP]
   refine loop_rule (α:=Unit) [] (fun _ => []) (fun _ => [⟨.rw,[.i .i64 4, .i .i64 xa, .i .i64 xb, .i .i64 xn],4⟩]) (fun _ => bH h mo r2 []) (fun _ => True) (fun _ => 0) () trivial .refl ?_
   rintro X _ _ _
   refine run_sound (Tab.ok_Γ _) 400 _ _ _ _ ?_
   simp (maxSteps:=999999) only [EV0,zx,zw,zv,zu,zq,zp,zj,zk,zg,leT,zZ,rvC,zY,zX,zW,zV,↓zU,↓zQ,reduceCtorEq,yz,yy,yY,yx,yw,yv,yu,yq,yp,yX,yj,yk,yg,yW,yV,yU,yZ,yQ,xz,TFa,bne]
   exact hK _
  have hq : 0 < Q.length:=by omega
  have hsl : ∀ n c,slA n Q c = .sl (.g n) 0 Q.length c:=fun n c => slA_pos hq
  obtain ⟨B,hB⟩ : ∃ B : Nat → Blk,B = fun c => ⟨.rw,intsB Q,c⟩:=⟨_,rfl⟩
  have hbk : ∀ c,bkA Q c = [B c]:=fun c => by rw [hB]; exact bkA_pos hq
  have hBx : ∀ (m r : M) (c : Nat) (Y : List Blk),(bH h m r (B c :: Y))[h.length + 5]? = some ⟨.rw,intsB Q,c⟩:=fun m r c Y => by rw [hB]; exact bH_x _ _ _ _ _
  obtain ⟨row,hrw⟩ : ∃ row : Int → List Bool,row = fun a => Q.map fun b => decide (b ∈ under m1.D Q a):=⟨_,rfl⟩
  have row' : ∀ a,row a = Q.map fun b => decide (b ∈ under m1.D Q a):=fun a => by rw [hrw]
  have hrow : ∀ a,(row a).length = Q.length:=fun a => by rw [hrw]; simp
  have v0 : h.length < h.length + 5 + 1:=by omega
  have v4 : h.length + 4 < h.length + 5 + 1:=by omega
  have v5 : h.length + 5 < h.length + 5 + 1:=by omega
  simp (maxSteps:=999999) only [EV0,zx,zw,zv,zu,zq,zp,zj,zk,zg,leT,zZ,rvC,zY,zX,zW,zV,↓zU,↓zQ,reduceCtorEq,yz,yy,yY,yx,yw,yv,yu,yq,yp,yX,yj,yk,yg,yW,yV,yU,yZ,yQ,xz,df5,TFa,awake11G,playedG,promG,promM,opF,lisAG,lisAM,lisA,bH_fm,bH_fr,bH_fb,bH_app,bH_len,hcc,hA,hF,hu1,l1,↓hlen,↓hkn,↓hnl,c1,Op.cl,erO,Option.getD_some,bne,List.length_nil,Nat.add_zero,List.nil_append,put,fillP,hm1,hr1,li1,hm2,hr2,hp,c40,hsl,hbk]
  intro cq hcq0
  have hclq : ∀ m',clean (h.length + 5 + 1) (bH h m' r2 [B cq]) = true:=fun m' => by
   have:=bH_clean hc m' r2 (X:=[B cq]) (by rw [hB]; simp only [List.all_cons,List.all_nil,Bool.and_true]; exact (intsB_is Q).va _ _)
   rwa [bH_len] at this
  have hsv : ∀ k,s.val (h.length + 5 + 1) k = true:=fun k => Hs.sl.val (by omega)
  have hspk:=fun l => Hs.sl.pick l
  have hsnm:=fun k => Hs.sl.names k
  obtain ⟨XB,hXB⟩ : ∃ XB : Blk,(⟨.rw,[.i .i64 4, .i .i64 xa, .i .i64 xb, .i .i64 xn],4⟩ : Blk) = XB:=⟨_,rfl⟩
  have hxbm : ∀ ρ,XB.cells.map (S.ren ρ) = XB.cells:=fun ρ => by rw [← hXB]; rfl
  have hxbv : ∀ n k,XB.cells.all (S.val n k) = true:=fun n k => by rw [← hXB]; rfl
  have hxbn : ∀ k,XB.cells.all (fun s => !s.names k) = true:=fun k => by rw [← hXB]; rfl
  have hxbb : ∀ k,XB.cells.all (S.below k) = true:=fun k => by rw [← hXB]; rfl
  refine loop_rule (α:=Nat × List Bool × Nat × M) [10,11,12,13,69,70,71,72,73,74,75,76,77,78,79,80,81,82,83,84,85,86,87,88,89,90,91,92,93,94,95,96,97] (fun z => [(10, .s (bSl 1 z.2.1 z.2.2.1)),(11, .s (.i .i64 (z.1 : Int)))]) (fun z => bLS [XB] z.2.1 z.2.2.1) (fun z => bH h z.2.2.2 r2 [B cq]) (fun z => z.1 ≤ Q.length ∧ z.2.1 = (Q.take z.1).flatMap row ∧ z.2.1.length ≤ z.2.2.1 ∧ z.2.2.2.w = m1.w) (fun z => Q.length - z.1) (0,[],0,m2) ⟨Nat.zero_le _,rfl,Nat.zero_le _,li2⟩ ?_ ?_
  ·refine Wk.same (by rw [← hXB]; rfl) rfl ?_
   simp (maxSteps:=999999) only [EV0,zx,zw,zv,zu,zq,zp,zj,zk,zg,leT,zZ,rvC,zY,zX,zW,zV,↓zU,↓zQ,reduceCtorEq,yz,yy,yY,yx,yw,yv,yu,yq,yp,yX,yj,yk,yg,yW,yV,yU,yZ,yQ,xz,Int.natCast_zero,bSl]
  rintro X ⟨i,bl,cp,mi⟩ ⟨hi,hbl,hcp,hwi⟩ IH
  simp only at hi hbl hcp hwi ⊢
  rcases Nat.lt_or_ge i Q.length with h1 | h1
  ·obtain ⟨d1,d2,d3,d4⟩:=idx h1 (by omega)
   obtain ⟨y,hy⟩ : ∃ y,nth 0 Q i = y:=⟨_,rfl⟩
   have hyQ : y ∈ Q:=by rw [← hy]; exact nth_mem h1
   have g1:=intsB_get h1
   rw [hy] at g1
   have hbn : bl.length = i * Q.length:=by rw [hbl,flat_len hrow,List.length_take]; congr 1; omega
   have hbm : i * Q.length ≤ 40 * 40:=Nat.mul_le_mul (by omega) (by omega)
   have hQi : Q[i] = y:=by rw [← hy,nth_eq h1]
   have hnext : (Q.take (i + 1)).flatMap row = bl ++ row y:=by
    rw [List.take_add_one,List.getElem?_eq_getElem h1,Option.toList_some,List.flatMap_append,← hbl,hQi]
    simp
   have exit1 : ∀ (blz : List Bool),∃ zz : Nat,True:=fun _ => ⟨0,trivial⟩
   cases bl with
   | nil =>
    simp only [bSl,bLS]
    refine run_sound (Tab.ok_Γ _) 300 _ _ _ _ ?_
    simp (maxSteps:=999999) only [EV0,zx,zw,zv,zu,zq,zp,zj,zk,zg,leT,zZ,rvC,zY,zX,zW,zV,↓zU,↓zQ,reduceCtorEq,yz,yy,yY,yx,yw,yv,yu,yq,yp,yX,yj,yk,yg,yW,yV,yU,yZ,yQ,xz,TFa,d1,d2,d3,d4,put,fillP]
    refine loop_rule (α:=Nat × List Bool × Nat × M) [10,12,13,75,76,77,78,79,80,81,82,83,84,85,86,87,88,89,90,91,92,93,94,95,96,97] (fun z => [(10, .s (bSl 1 z.2.1 z.2.2.1)),(12, .s (.i .i64 (z.1 : Int)))]) (fun z => bLS [XB] z.2.1 z.2.2.1) (fun z => bH h z.2.2.2 r2 [B cq]) (fun z => z.1 ≤ Q.length ∧ z.2.1 = ([] : List Bool) ++ (Q.take z.1).map (fun b => decide (b ∈ under m1.D Q y)) ∧ z.2.1.length ≤ z.2.2.1 ∧ z.2.2.2.w = m1.w) (fun z => Q.length - z.1) (0,([] : List Bool),cp,mi) ⟨Nat.zero_le _,by simp,hcp,hwi⟩ ?_ ?_
    ·refine Wk.same rfl rfl ?_
     simp (maxSteps:=999999) only [EV0,zx,zw,zv,zu,zq,zp,zj,zk,zg,leT,zZ,rvC,zY,zX,zW,zV,↓zU,↓zQ,reduceCtorEq,yz,yy,yY,yx,yw,yv,yu,yq,yp,yX,yj,yk,yg,yW,yV,yU,yZ,yQ,xz,Int.natCast_zero,bSl]
    rintro X2 ⟨k,b2,c2,m'⟩ ⟨hk,hb2,hc2,hw'⟩ IH2
    simp only at hk hb2 hc2 hw' ⊢
    have hnq : h.length ≤ (bH h m' r2 [B cq]).length:=by rw [bH_len]; omega
    rcases Nat.lt_or_ge k Q.length with h2 | h2
    ·obtain ⟨f1,f2,f3,f4⟩:=idx h2 (by omega)
     obtain ⟨z,hz⟩ : ∃ z,nth 0 Q k = z:=⟨_,rfl⟩
     have g2:=intsB_get h2
     rw [hz] at g2
     obtain ⟨u1,u2,_⟩:=hun m' y hw'
     obtain ⟨m3,hm3⟩ : ∃ m3,(m'.dsO y).2 = m3:=⟨_,rfl⟩
     rw [hm3] at u2
     obtain ⟨q,hq⟩ : ∃ q,decide (z ∈ under m1.D Q y) = q:=⟨_,rfl⟩
     have hq' : decide (z ∈ m'.dsL y) = q:=by rw [u1]; exact hq
     have hb3 : ([] : List Bool) ++ (Q.take (k + 1)).map (fun b => decide (b ∈ under m1.D Q y)) = b2 ++ [q]:=by
      rw [hb2,List.take_add_one,List.getElem?_eq_getElem h2,Option.toList_some,List.map_append,List.map_cons,List.map_nil,List.append_assoc,← nth_eq (d:=0) h2,hz,hq]
     have hbl2 : b2.length ≤ 2000:=by
      have h3 : b2.length = (([] : List Bool)).length + (Q.take k).length:=by rw [hb2,List.length_append,List.length_map]
      rw [List.length_take] at h3
      simp only [List.length_cons,List.length_nil] at hbn h3
      omega
     have hcq : clean (bH h m3 r2 [B cq]).length (bH h m3 r2 [B cq]) = true:=by rw [bH_len]; exact hclq m3
     have hnq : h.length ≤ (bH h m3 r2 [B cq]).length:=by rw [bH_len]; omega
     cases b2 with
     | nil =>
      simp only [bSl,bLS]
      refine run_sound (Tab.ok_Γ _) 300 _ _ _ _ ?_
      simp (maxSteps:=999999) only [EV0,zx,zw,zv,zu,zq,zp,zj,zk,zg,leT,zZ,rvC,zY,zX,zW,zV,↓zU,↓zQ,reduceCtorEq,yz,yy,yY,yx,yw,yv,yu,yq,yp,yX,yj,yk,yg,yW,yV,yU,yZ,yQ,xz,TFa,belG,belM,bH_fm,hcc,hBx,hq',hm3,d1,d2,d3,f1,f2,f3,f4,g1,g2,Int.toNat_natCast,put,fillP]
      intro ck hck
      refine IH2 (k + 1,[q],ck,m3) _ (by simp only; omega) ⟨by simp only; omega,hb3.symm,by simpa using hck,u2⟩ ?_
      simp only [bSl,bLS,bolB,List.map_cons,List.map_nil,List.length_nil,Nat.zero_add,Nat.mul_one,List.cons_append,List.nil_append]
      refine Wk.sel [0,2] (by decide) hnq ?_ ?_ ?_ ?_ hcq (clean_pick hcq _)
      ·simp (maxSteps:=999999) only [EV0,zx,zw,zv,zu,zq,zp,zj,zk,zg,leT,zZ,rvC,zY,zX,zW,zV,↓zU,↓zQ,reduceCtorEq,yz,yy,yY,yx,yw,yv,yu,yq,yp,yX,yj,yk,yg,yW,yV,yU,yZ,yQ,xz,List.nil_append,Blk.ren,V.ren,C.ren,S_ren,wc_ren,R.pick_g,R.pick_0,R.pick_s,List.map_append,wc_cons,wc_snoc,wc_nil,Nat.mul_one,hxbm,hxbv,hspk,hsv,v0,v4,v5,bH_len,List.length_cons,List.length_nil,Nat.zero_add]
      ·simp (maxSteps:=999999) only [EV0,zx,zw,zv,zu,zq,zp,zj,zk,zg,leT,zZ,rvC,zY,zX,zW,zV,↓zU,↓zQ,reduceCtorEq,yz,yy,yY,yx,yw,yv,yu,yq,yp,yX,yj,yk,yg,yW,yV,yU,yZ,yQ,xz,List.nil_append,Blk.ren,V.ren,C.ren,S_ren,wc_ren,R.pick_g,R.pick_0,R.pick_s,Nat.mul_one,hxbm,hxbv,hspk,hsv,v0,v4,v5,bH_len,List.length_cons,List.length_nil,Nat.zero_add]
      ·simp (maxSteps:=999999) only [EV0,zx,zw,zv,zu,zq,zp,zj,zk,zg,leT,zZ,rvC,zY,zX,zW,zV,↓zU,↓zQ,reduceCtorEq,yz,yy,yY,yx,yw,yv,yu,yq,yp,yX,yj,yk,yg,yW,yV,yU,yZ,yQ,xz,List.nil_append,app_len,nlt0,nltn,reduceLT,Nat.le_add_right,Nat.mul_one,hxbm,hxbv,hspk,hsv,v0,v4,v5,bH_len,List.length_cons,List.length_nil,Nat.zero_add]
      ·simp (maxSteps:=999999) only [EV0,zx,zw,zv,zu,zq,zp,zj,zk,zg,leT,zZ,rvC,zY,zX,zW,zV,↓zU,↓zQ,reduceCtorEq,yz,yy,yY,yx,yw,yv,yu,yq,yp,yX,yj,yk,yg,yW,yV,yU,yZ,yQ,xz,List.nil_append,app_len,nlt0,nltn,reduceLT,Nat.le_add_right,vals_cons,vals_nil,wc_val,wc_vals,Nat.mul_one,hxbm,hxbv,hspk,hsv,v0,v4,v5,bH_len,List.length_cons,List.length_nil,Nat.zero_add]
     | cons w b2 =>
      obtain ⟨BU,hBU⟩ : ∃ BU,bolB (w :: b2) = BU:=⟨_,rfl⟩
      obtain ⟨q1,q2,q3,q4,q5,q6⟩:=bolB_is (w :: b2)
      rw [hBU] at q1 q2 q3 q4 q5 q6
      have hq3 : ∀ a b,BU.all (S.val a b) = true:=fun u v => by have:=q3 u v; simpa only [vals] using this
      simp only [bSl,bLS,hBU,List.cons_append,List.nil_append]
      refine run_sound (Tab.ok_Γ _) 300 _ _ _ _ ?_
      simp (maxSteps:=999999) only [EV0,zx,zw,zv,zu,zq,zp,zj,zk,zg,leT,zZ,rvC,zY,zX,zW,zV,↓zU,↓zQ,reduceCtorEq,yz,yy,yY,yx,yw,yv,yu,yq,yp,yX,yj,yk,yg,yW,yV,yU,yZ,yQ,xz,TFa,belG,belM,bH_fm,hcc,hBx,hq',hm3,d1,d2,d3,f1,f2,f3,f4,g1,g2,Int.toNat_natCast,put,fillP,q1,q2,q3,q4,hxbn,hsnm]
      refine ⟨by simp only [List.length_cons] at hbl2; omega,fun ck hck => ?_⟩
      refine IH2 (k + 1,w :: b2 ++ [q],ck,m3) _ (by simp only; omega) ⟨by simp only; omega,hb3.symm,by simp only [List.length_append,List.length_cons,List.length_nil] at hck ⊢; omega,u2⟩ ?_
      have hB2 : bolB (w :: (b2 ++ [q])) = BU ++ [.b q]:=by rw [← hBU,bolB_app]; rfl
      have hl2 : (b2 ++ [q]).length + 1 = b2.length + 1 + 1:=by simp
      simp only [bSl,bLS,List.cons_append,List.nil_append,hB2,hl2,Nat.mul_one]
      refine Wk.sel [0,1] (by decide) hnq ?_ ?_ ?_ ?_ hcq (clean_pick hcq _)
      ·simp (maxSteps:=999999) only [EV0,zx,zw,zv,zu,zq,zp,zj,zk,zg,leT,zZ,rvC,zY,zX,zW,zV,↓zU,↓zQ,reduceCtorEq,yz,yy,yY,yx,yw,yv,yu,yq,yp,yX,yj,yk,yg,yW,yV,yU,yZ,yQ,xz,List.nil_append,Blk.ren,V.ren,C.ren,S_ren,wc_ren,R.pick_g,R.pick_0,R.pick_s,List.map_append,wc_cons,wc_snoc,wc_nil,Nat.mul_one,hxbm,hxbv,hspk,hsv,v0,v4,v5,bH_len,List.length_cons,List.length_nil,Nat.zero_add,hq3,q5,List.map_append,List.map_cons,List.map_nil,vals,List.all_append]
      ·simp (maxSteps:=999999) only [EV0,zx,zw,zv,zu,zq,zp,zj,zk,zg,leT,zZ,rvC,zY,zX,zW,zV,↓zU,↓zQ,reduceCtorEq,yz,yy,yY,yx,yw,yv,yu,yq,yp,yX,yj,yk,yg,yW,yV,yU,yZ,yQ,xz,List.nil_append,Blk.ren,V.ren,C.ren,S_ren,wc_ren,R.pick_g,R.pick_0,R.pick_s,Nat.mul_one,hxbm,hxbv,hspk,hsv,v0,v4,v5,bH_len,List.length_cons,List.length_nil,Nat.zero_add,hq3,q5,List.map_append,List.map_cons,List.map_nil,vals,List.all_append]
      ·simp (maxSteps:=999999) only [EV0,zx,zw,zv,zu,zq,zp,zj,zk,zg,leT,zZ,rvC,zY,zX,zW,zV,↓zU,↓zQ,reduceCtorEq,yz,yy,yY,yx,yw,yv,yu,yq,yp,yX,yj,yk,yg,yW,yV,yU,yZ,yQ,xz,List.nil_append,app_len,nlt0,nltn,reduceLT,Nat.le_add_right,Nat.mul_one,hxbm,hxbv,hspk,hsv,v0,v4,v5,bH_len,List.length_cons,List.length_nil,Nat.zero_add,hq3,q5,List.map_append,List.map_cons,List.map_nil,vals,List.all_append]
      ·simp (maxSteps:=999999) only [EV0,zx,zw,zv,zu,zq,zp,zj,zk,zg,leT,zZ,rvC,zY,zX,zW,zV,↓zU,↓zQ,reduceCtorEq,yz,yy,yY,yx,yw,yv,yu,yq,yp,yX,yj,yk,yg,yW,yV,yU,yZ,yQ,xz,List.nil_append,app_len,nlt0,nltn,reduceLT,Nat.le_add_right,vals_cons,vals_nil,wc_val,wc_vals,Nat.mul_one,hxbm,hxbv,hspk,hsv,v0,v4,v5,bH_len,List.length_cons,List.length_nil,Nat.zero_add,hq3,q5,List.map_append,List.map_cons,List.map_nil,vals,List.all_append]
    ·have e0 : k = Q.length:=by omega
     subst e0
     clear IH2
     rw [List.take_length] at hb2
     have hb4 : b2 = (Q.take (i + 1)).flatMap row:=by rw [hnext,hb2,row']
     cases b2 with
     | nil =>
      simp only [bSl,bLS]
      refine run_sound (Tab.ok_Γ _) 300 _ _ _ _ ?_
      simp (maxSteps:=999999) only [EV0,zx,zw,zv,zu,zq,zp,zj,zk,zg,leT,zZ,rvC,zY,zX,zW,zV,↓zU,↓zQ,reduceCtorEq,yz,yy,yY,yx,yw,yv,yu,yq,yp,yX,yj,yk,yg,yW,yV,yU,yZ,yQ,xz,TFa,Int.lt_irrefl,d4]
      refine IH (i + 1,[],c2,m') _ (by simp only; omega) ⟨by simp only; omega,hb4,hc2,hw'⟩ ?_
      refine Wk.same rfl rfl ?_
      simp (maxSteps:=999999) only [EV0,zx,zw,zv,zu,zq,zp,zj,zk,zg,leT,zZ,rvC,zY,zX,zW,zV,↓zU,↓zQ,reduceCtorEq,yz,yy,yY,yx,yw,yv,yu,yq,yp,yX,yj,yk,yg,yW,yV,yU,yZ,yQ,xz,bSl]
     | cons w b2 =>
      simp only [bSl,bLS,List.cons_append,List.nil_append]
      refine run_sound (Tab.ok_Γ _) 300 _ _ _ _ ?_
      simp (maxSteps:=999999) only [EV0,zx,zw,zv,zu,zq,zp,zj,zk,zg,leT,zZ,rvC,zY,zX,zW,zV,↓zU,↓zQ,reduceCtorEq,yz,yy,yY,yx,yw,yv,yu,yq,yp,yX,yj,yk,yg,yW,yV,yU,yZ,yQ,xz,TFa,Int.lt_irrefl,d4]
      refine IH (i + 1,w :: b2,c2,m') _ (by simp only; omega) ⟨by simp only; omega,hb4,hc2,hw'⟩ ?_
      refine Wk.same rfl rfl ?_
      simp (maxSteps:=999999) only [EV0,zx,zw,zv,zu,zq,zp,zj,zk,zg,leT,zZ,rvC,zY,zX,zW,zV,↓zU,↓zQ,reduceCtorEq,yz,yy,yY,yx,yw,yv,yu,yq,yp,yX,yj,yk,yg,yW,yV,yU,yZ,yQ,xz,bSl]
   | cons b0 bl =>
    simp only [bSl,bLS,List.cons_append,List.nil_append]
    refine run_sound (Tab.ok_Γ _) 300 _ _ _ _ ?_
    simp (maxSteps:=999999) only [EV0,zx,zw,zv,zu,zq,zp,zj,zk,zg,leT,zZ,rvC,zY,zX,zW,zV,↓zU,↓zQ,reduceCtorEq,yz,yy,yY,yx,yw,yv,yu,yq,yp,yX,yj,yk,yg,yW,yV,yU,yZ,yQ,xz,TFa,d1,d2,d3,d4,put,fillP]
    refine loop_rule (α:=Nat × List Bool × Nat × M) [10,12,13,75,76,77,78,79,80,81,82,83,84,85,86,87,88,89,90,91,92,93,94,95,96,97] (fun z => [(10, .s (bSl 1 z.2.1 z.2.2.1)),(12, .s (.i .i64 (z.1 : Int)))]) (fun z => bLS [XB] z.2.1 z.2.2.1) (fun z => bH h z.2.2.2 r2 [B cq]) (fun z => z.1 ≤ Q.length ∧ z.2.1 = (b0 :: bl) ++ (Q.take z.1).map (fun b => decide (b ∈ under m1.D Q y)) ∧ z.2.1.length ≤ z.2.2.1 ∧ z.2.2.2.w = m1.w) (fun z => Q.length - z.1) (0,(b0 :: bl),cp,mi) ⟨Nat.zero_le _,by simp,hcp,hwi⟩ ?_ ?_
    ·refine Wk.same rfl rfl ?_
     simp (maxSteps:=999999) only [EV0,zx,zw,zv,zu,zq,zp,zj,zk,zg,leT,zZ,rvC,zY,zX,zW,zV,↓zU,↓zQ,reduceCtorEq,yz,yy,yY,yx,yw,yv,yu,yq,yp,yX,yj,yk,yg,yW,yV,yU,yZ,yQ,xz,Int.natCast_zero,bSl]
    rintro X2 ⟨k,b2,c2,m'⟩ ⟨hk,hb2,hc2,hw'⟩ IH2
    simp only at hk hb2 hc2 hw' ⊢
    have hnq : h.length ≤ (bH h m' r2 [B cq]).length:=by rw [bH_len]; omega
    rcases Nat.lt_or_ge k Q.length with h2 | h2
    ·obtain ⟨f1,f2,f3,f4⟩:=idx h2 (by omega)
     obtain ⟨z,hz⟩ : ∃ z,nth 0 Q k = z:=⟨_,rfl⟩
     have g2:=intsB_get h2
     rw [hz] at g2
     obtain ⟨u1,u2,_⟩:=hun m' y hw'
     obtain ⟨m3,hm3⟩ : ∃ m3,(m'.dsO y).2 = m3:=⟨_,rfl⟩
     rw [hm3] at u2
     obtain ⟨q,hq⟩ : ∃ q,decide (z ∈ under m1.D Q y) = q:=⟨_,rfl⟩
     have hq' : decide (z ∈ m'.dsL y) = q:=by rw [u1]; exact hq
     have hb3 : (b0 :: bl) ++ (Q.take (k + 1)).map (fun b => decide (b ∈ under m1.D Q y)) = b2 ++ [q]:=by
      rw [hb2,List.take_add_one,List.getElem?_eq_getElem h2,Option.toList_some,List.map_append,List.map_cons,List.map_nil,List.append_assoc,← nth_eq (d:=0) h2,hz,hq]
     have hbl2 : b2.length ≤ 2000:=by
      have h3 : b2.length = ((b0 :: bl)).length + (Q.take k).length:=by rw [hb2,List.length_append,List.length_map]
      rw [List.length_take] at h3
      simp only [List.length_cons,List.length_nil] at hbn h3
      omega
     have hcq : clean (bH h m3 r2 [B cq]).length (bH h m3 r2 [B cq]) = true:=by rw [bH_len]; exact hclq m3
     have hnq : h.length ≤ (bH h m3 r2 [B cq]).length:=by rw [bH_len]; omega
     cases b2 with
     | nil =>
      simp only [bSl,bLS]
      refine run_sound (Tab.ok_Γ _) 300 _ _ _ _ ?_
      simp (maxSteps:=999999) only [EV0,zx,zw,zv,zu,zq,zp,zj,zk,zg,leT,zZ,rvC,zY,zX,zW,zV,↓zU,↓zQ,reduceCtorEq,yz,yy,yY,yx,yw,yv,yu,yq,yp,yX,yj,yk,yg,yW,yV,yU,yZ,yQ,xz,TFa,belG,belM,bH_fm,hcc,hBx,hq',hm3,d1,d2,d3,f1,f2,f3,f4,g1,g2,Int.toNat_natCast,put,fillP]
      intro ck hck
      refine IH2 (k + 1,[q],ck,m3) _ (by simp only; omega) ⟨by simp only; omega,hb3.symm,by simpa using hck,u2⟩ ?_
      simp only [bSl,bLS,bolB,List.map_cons,List.map_nil,List.length_nil,Nat.zero_add,Nat.mul_one,List.cons_append,List.nil_append]
      refine Wk.sel [0,2] (by decide) hnq ?_ ?_ ?_ ?_ hcq (clean_pick hcq _)
      ·simp (maxSteps:=999999) only [EV0,zx,zw,zv,zu,zq,zp,zj,zk,zg,leT,zZ,rvC,zY,zX,zW,zV,↓zU,↓zQ,reduceCtorEq,yz,yy,yY,yx,yw,yv,yu,yq,yp,yX,yj,yk,yg,yW,yV,yU,yZ,yQ,xz,List.nil_append,Blk.ren,V.ren,C.ren,S_ren,wc_ren,R.pick_g,R.pick_0,R.pick_s,List.map_append,wc_cons,wc_snoc,wc_nil,Nat.mul_one,hxbm,hxbv,hspk,hsv,v0,v4,v5,bH_len,List.length_cons,List.length_nil,Nat.zero_add]
      ·simp (maxSteps:=999999) only [EV0,zx,zw,zv,zu,zq,zp,zj,zk,zg,leT,zZ,rvC,zY,zX,zW,zV,↓zU,↓zQ,reduceCtorEq,yz,yy,yY,yx,yw,yv,yu,yq,yp,yX,yj,yk,yg,yW,yV,yU,yZ,yQ,xz,List.nil_append,Blk.ren,V.ren,C.ren,S_ren,wc_ren,R.pick_g,R.pick_0,R.pick_s,Nat.mul_one,hxbm,hxbv,hspk,hsv,v0,v4,v5,bH_len,List.length_cons,List.length_nil,Nat.zero_add]
      ·simp (maxSteps:=999999) only [EV0,zx,zw,zv,zu,zq,zp,zj,zk,zg,leT,zZ,rvC,zY,zX,zW,zV,↓zU,↓zQ,reduceCtorEq,yz,yy,yY,yx,yw,yv,yu,yq,yp,yX,yj,yk,yg,yW,yV,yU,yZ,yQ,xz,List.nil_append,app_len,nlt0,nltn,reduceLT,Nat.le_add_right,Nat.mul_one,hxbm,hxbv,hspk,hsv,v0,v4,v5,bH_len,List.length_cons,List.length_nil,Nat.zero_add]
      ·simp (maxSteps:=999999) only [EV0,zx,zw,zv,zu,zq,zp,zj,zk,zg,leT,zZ,rvC,zY,zX,zW,zV,↓zU,↓zQ,reduceCtorEq,yz,yy,yY,yx,yw,yv,yu,yq,yp,yX,yj,yk,yg,yW,yV,yU,yZ,yQ,xz,List.nil_append,app_len,nlt0,nltn,reduceLT,Nat.le_add_right,vals_cons,vals_nil,wc_val,wc_vals,Nat.mul_one,hxbm,hxbv,hspk,hsv,v0,v4,v5,bH_len,List.length_cons,List.length_nil,Nat.zero_add]
     | cons w b2 =>
      obtain ⟨BU,hBU⟩ : ∃ BU,bolB (w :: b2) = BU:=⟨_,rfl⟩
      obtain ⟨q1,q2,q3,q4,q5,q6⟩:=bolB_is (w :: b2)
      rw [hBU] at q1 q2 q3 q4 q5 q6
      have hq3 : ∀ a b,BU.all (S.val a b) = true:=fun u v => by have:=q3 u v; simpa only [vals] using this
      simp only [bSl,bLS,hBU,List.cons_append,List.nil_append]
      refine run_sound (Tab.ok_Γ _) 300 _ _ _ _ ?_
      simp (maxSteps:=999999) only [EV0,zx,zw,zv,zu,zq,zp,zj,zk,zg,leT,zZ,rvC,zY,zX,zW,zV,↓zU,↓zQ,reduceCtorEq,yz,yy,yY,yx,yw,yv,yu,yq,yp,yX,yj,yk,yg,yW,yV,yU,yZ,yQ,xz,TFa,belG,belM,bH_fm,hcc,hBx,hq',hm3,d1,d2,d3,f1,f2,f3,f4,g1,g2,Int.toNat_natCast,put,fillP,q1,q2,q3,q4,hxbn,hsnm]
      refine ⟨by simp only [List.length_cons] at hbl2; omega,fun ck hck => ?_⟩
      refine IH2 (k + 1,w :: b2 ++ [q],ck,m3) _ (by simp only; omega) ⟨by simp only; omega,hb3.symm,by simp only [List.length_append,List.length_cons,List.length_nil] at hck ⊢; omega,u2⟩ ?_
      have hB2 : bolB (w :: (b2 ++ [q])) = BU ++ [.b q]:=by rw [← hBU,bolB_app]; rfl
      have hl2 : (b2 ++ [q]).length + 1 = b2.length + 1 + 1:=by simp
      simp only [bSl,bLS,List.cons_append,List.nil_append,hB2,hl2,Nat.mul_one]
      refine Wk.sel [0,1] (by decide) hnq ?_ ?_ ?_ ?_ hcq (clean_pick hcq _)
      ·simp (maxSteps:=999999) only [EV0,zx,zw,zv,zu,zq,zp,zj,zk,zg,leT,zZ,rvC,zY,zX,zW,zV,↓zU,↓zQ,reduceCtorEq,yz,yy,yY,yx,yw,yv,yu,yq,yp,yX,yj,yk,yg,yW,yV,yU,yZ,yQ,xz,List.nil_append,Blk.ren,V.ren,C.ren,S_ren,wc_ren,R.pick_g,R.pick_0,R.pick_s,List.map_append,wc_cons,wc_snoc,wc_nil,Nat.mul_one,hxbm,hxbv,hspk,hsv,v0,v4,v5,bH_len,List.length_cons,List.length_nil,Nat.zero_add,hq3,q5,List.map_append,List.map_cons,List.map_nil,vals,List.all_append]
      ·simp (maxSteps:=999999) only [EV0,zx,zw,zv,zu,zq,zp,zj,zk,zg,leT,zZ,rvC,zY,zX,zW,zV,↓zU,↓zQ,reduceCtorEq,yz,yy,yY,yx,yw,yv,yu,yq,yp,yX,yj,yk,yg,yW,yV,yU,yZ,yQ,xz,List.nil_append,Blk.ren,V.ren,C.ren,S_ren,wc_ren,R.pick_g,R.pick_0,R.pick_s,Nat.mul_one,hxbm,hxbv,hspk,hsv,v0,v4,v5,bH_len,List.length_cons,List.length_nil,Nat.zero_add,hq3,q5,List.map_append,List.map_cons,List.map_nil,vals,List.all_append]
      ·simp (maxSteps:=999999) only [EV0,zx,zw,zv,zu,zq,zp,zj,zk,zg,leT,zZ,rvC,zY,zX,zW,zV,↓zU,↓zQ,reduceCtorEq,yz,yy,yY,yx,yw,yv,yu,yq,yp,yX,yj,yk,yg,yW,yV,yU,yZ,yQ,xz,List.nil_append,app_len,nlt0,nltn,reduceLT,Nat.le_add_right,Nat.mul_one,hxbm,hxbv,hspk,hsv,v0,v4,v5,bH_len,List.length_cons,List.length_nil,Nat.zero_add,hq3,q5,List.map_append,List.map_cons,List.map_nil,vals,List.all_append]
      ·simp (maxSteps:=999999) only [EV0,zx,zw,zv,zu,zq,zp,zj,zk,zg,leT,zZ,rvC,zY,zX,zW,zV,↓zU,↓zQ,reduceCtorEq,yz,yy,yY,yx,yw,yv,yu,yq,yp,yX,yj,yk,yg,yW,yV,yU,yZ,yQ,xz,List.nil_append,app_len,nlt0,nltn,reduceLT,Nat.le_add_right,vals_cons,vals_nil,wc_val,wc_vals,Nat.mul_one,hxbm,hxbv,hspk,hsv,v0,v4,v5,bH_len,List.length_cons,List.length_nil,Nat.zero_add,hq3,q5,List.map_append,List.map_cons,List.map_nil,vals,List.all_append]
    ·have e0 : k = Q.length:=by omega
     subst e0
     clear IH2
     rw [List.take_length] at hb2
     have hb4 : b2 = (Q.take (i + 1)).flatMap row:=by rw [hnext,hb2,row']
     cases b2 with
     | nil =>
      simp only [bSl,bLS]
      refine run_sound (Tab.ok_Γ _) 300 _ _ _ _ ?_
      simp (maxSteps:=999999) only [EV0,zx,zw,zv,zu,zq,zp,zj,zk,zg,leT,zZ,rvC,zY,zX,zW,zV,↓zU,↓zQ,reduceCtorEq,yz,yy,yY,yx,yw,yv,yu,yq,yp,yX,yj,yk,yg,yW,yV,yU,yZ,yQ,xz,TFa,Int.lt_irrefl,d4]
      refine IH (i + 1,[],c2,m') _ (by simp only; omega) ⟨by simp only; omega,hb4,hc2,hw'⟩ ?_
      refine Wk.same rfl rfl ?_
      simp (maxSteps:=999999) only [EV0,zx,zw,zv,zu,zq,zp,zj,zk,zg,leT,zZ,rvC,zY,zX,zW,zV,↓zU,↓zQ,reduceCtorEq,yz,yy,yY,yx,yw,yv,yu,yq,yp,yX,yj,yk,yg,yW,yV,yU,yZ,yQ,xz,bSl]
     | cons w b2 =>
      simp only [bSl,bLS,List.cons_append,List.nil_append]
      refine run_sound (Tab.ok_Γ _) 300 _ _ _ _ ?_
      simp (maxSteps:=999999) only [EV0,zx,zw,zv,zu,zq,zp,zj,zk,zg,leT,zZ,rvC,zY,zX,zW,zV,↓zU,↓zQ,reduceCtorEq,yz,yy,yY,yx,yw,yv,yu,yq,yp,yX,yj,yk,yg,yW,yV,yU,yZ,yQ,xz,TFa,Int.lt_irrefl,d4]
      refine IH (i + 1,w :: b2,c2,m') _ (by simp only; omega) ⟨by simp only; omega,hb4,hc2,hw'⟩ ?_
      refine Wk.same rfl rfl ?_
      simp (maxSteps:=999999) only [EV0,zx,zw,zv,zu,zq,zp,zj,zk,zg,leT,zZ,rvC,zY,zX,zW,zV,↓zU,↓zQ,reduceCtorEq,yz,yy,yY,yx,yw,yv,yu,yq,yp,yX,yj,yk,yg,yW,yV,yU,yZ,yQ,xz,bSl]
  ·have e0 : i = Q.length:=by omega
   subst e0
   clear IH
   rw [List.take_length] at hbl
   have hbn : bl.length = Q.length * Q.length:=by rw [hbl,flat_len hrow]
   have hbp : 0 < Q.length * Q.length:=Nat.mul_pos hq hq
   obtain ⟨e2,mo,Q2,he2,S⟩:=hop mi hwi
   have Wi:=W1.of_w hwi
   have W2:=Wi.step S
   have hfam : ∀ a b,a ∈ Q → b ∈ Q → nmV ⟨4,xa,xb,xn⟩ e2 a ≠ 0 → nmV ⟨4,xa,xb,xn⟩ e2 b ≠ 0 → (nmV ⟨4,xa,xb,xn⟩ e2 b ∈ under mo.D Q2 (nmV ⟨4,xa,xb,xn⟩ e2 a) ↔ b ∈ under m1.D Q a):=fun a b ha hb h1 h2 => by
    have:=S.fam Wi ha hb h1 h2
    rw [D_w hwi] at this
    exact this
   have hun2 : ∀ (m' : M) (z : Int),m'.w = mo.w → m'.dsL z = under mo.D Q2 z ∧ (m'.dsO z).2.w = mo.w:=fun m' z e => by
    obtain ⟨z1,z2,_⟩:=(W2.of_w e).ds z
    rw [D_w e] at z1
    exact ⟨z1,z2.trans e⟩
   obtain ⟨b0,bt,rfl⟩ : ∃ b0 bt,bl = b0 :: bt:=by
    cases bl with
    | nil => simp only [List.length_nil] at hbn; omega
    | cons a b => exact ⟨a,b,rfl⟩
   obtain ⟨BU,hBU⟩ : ∃ BU,bolB (b0 :: bt) = BU:=⟨_,rfl⟩
   have hget : ∀ a b : Nat,a < Q.length → b < Q.length → BU[a * Q.length + b]? = some (.b (decide (nth 0 Q b ∈ under m1.D Q (nth 0 Q a)))):=fun a b h1 h2 => by
    rw [← hBU,hbl,bolB,List.getElem?_map,flat_get hrow h1 (by omega)]
    rw [← nth_eq (d:=0) h1]
    simp only [row',List.getElem?_map,List.getElem?_eq_getElem h2,Option.map_some,← nth_eq (d:=0) h2]
   simp only [bSl,bLS,hBU,List.cons_append,List.nil_append]
   have hbt : bt.length + 1 = Q.length * Q.length:=by simpa using hbn
   have hbm : Q.length * Q.length ≤ 40 * 40:=Nat.mul_le_mul (by omega) (by omega)
   refine run_sound (Tab.ok_Γ _) 400 _ _ _ _ ?_
   simp (maxSteps:=999999) only [EV0,zx,zw,zv,zu,zq,zp,zj,zk,zg,leT,zZ,rvC,zY,zX,zW,zV,↓zU,↓zQ,reduceCtorEq,yz,yy,yY,yx,yw,yv,yu,yq,yp,yX,yj,yk,yg,yW,yV,yU,yZ,yQ,xz,TFa,insG,insM,movG,movM,swpG,swpM,remG,remM,bH_fm,hcc,he2,Int.lt_irrefl,← hXB,put,fillP]
   refine loop_rule (α:=Nat × M) [4,15,16,17,18,19,20,21,22,140,141,142,143,144,145,146,147,148,149,150,151,152,153,154,155,156,157,158,159,160,161,162,163,164,165,166,167,168,169,170,171,172,173,174,175,176,177,178,179,180,181,182,183,184,185,186,187,188,189,190,191,192,193,194,195,196,197,198,199,200,201,202,203,204,205,206,207,208,209,210,211,212,213,214,215,216,217,218,219,220,221,222,223,224,225,226,227,228,229,230,231,232,233,234,235,236,237,238,239,240,241,242,243,244,245,246] (fun z => [(15, .s (.i .i64 (z.1 : Int)))]) (fun _ => [XB,⟨.rw,BU,cp⟩]) (fun z => bH h z.2 r2 [B cq]) (fun z => z.1 ≤ Q.length ∧ z.2.w = mo.w) (fun z => Q.length - z.1) (0,mo) ⟨Nat.zero_le _,rfl⟩ ?_ ?_
   ·refine Wk.same (by rw [← hXB]) rfl ?_
    simp (maxSteps:=999999) only [EV0,zx,zw,zv,zu,zq,zp,zj,zk,zg,leT,zZ,rvC,zY,zX,zW,zV,↓zU,↓zQ,reduceCtorEq,yz,yy,yY,yx,yw,yv,yu,yq,yp,yX,yj,yk,yg,yW,yV,yU,yZ,yQ,xz,Int.natCast_zero]
   rintro X ⟨i,mi2⟩ ⟨hi2,hwi2⟩ IH
   simp only at hi2 hwi2 ⊢
   rcases Nat.lt_or_ge i Q.length with h1 | h1
   ·obtain ⟨d1,d2,d3,d4⟩:=idx h1 (by omega)
    obtain ⟨y,hy⟩ : ∃ y,nth 0 Q i = y:=⟨_,rfl⟩
    have hyQ : y ∈ Q:=by rw [← hy]; exact nth_mem h1
    have g1:=intsB_get h1
    rw [hy] at g1
    refine run_sound (Tab.ok_Γ _) 300 _ _ _ _ ?_
    simp (maxSteps:=999999) only [EV0,zx,zw,zv,zu,zq,zp,zj,zk,zg,leT,zZ,rvC,zY,zX,zW,zV,↓zU,↓zQ,reduceCtorEq,yz,yy,yY,yx,yw,yv,yu,yq,yp,yX,yj,yk,yg,yW,yV,yU,yZ,yQ,xz,TFa,d1,d2,d3,d4,put,fillP]
    refine loop_rule (α:=Nat × M) [4,16,17,18,19,146,147,148,149,150,151,152,153,154,155,156,157,158,159,160,161,162,163,164,165,166,167,168,169,170,171,172,173,174,175,176,177,178,179,180,181,182,183,184,185,186,187,188,189,190,191] (fun z => [(16, .s (.i .i64 (z.1 : Int)))]) (fun _ => [XB,⟨.rw,BU,cp⟩]) (fun z => bH h z.2 r2 [B cq]) (fun z => z.1 ≤ Q.length ∧ z.2.w = mo.w) (fun z => Q.length - z.1) (0,mi2) ⟨Nat.zero_le _,hwi2⟩ ?_ ?_
    ·refine Wk.same rfl rfl ?_
     simp (maxSteps:=999999) only [EV0,zx,zw,zv,zu,zq,zp,zj,zk,zg,leT,zZ,rvC,zY,zX,zW,zV,↓zU,↓zQ,reduceCtorEq,yz,yy,yY,yx,yw,yv,yu,yq,yp,yX,yj,yk,yg,yW,yV,yU,yZ,yQ,xz,Int.natCast_zero]
    rintro X2 ⟨k,m'⟩ ⟨hk,hw'⟩ IH2
    simp only at hk hw' ⊢
    rcases Nat.lt_or_ge k Q.length with h2 | h2
    ·obtain ⟨f1,f2,f3,f4⟩:=idx h2 (by omega)
     obtain ⟨z,hz⟩ : ∃ z,nth 0 Q k = z:=⟨_,rfl⟩
     have hzQ : z ∈ Q:=by rw [← hz]; exact nth_mem h2
     have g2:=intsB_get h2
     rw [hz] at g2
     have g3:=hget i k h1 h2
     rw [hy,hz] at g3
     obtain ⟨py,hpy⟩ : ∃ p,nmV ⟨4,xa,xb,xn⟩ e2 y = p:=⟨_,rfl⟩
     obtain ⟨pz,hpz⟩ : ∃ p,nmV ⟨4,xa,xb,xn⟩ e2 z = p:=⟨_,rfl⟩
     obtain ⟨u1,u2⟩:=hun2 m' py hw'
     obtain ⟨m3,hm3⟩ : ∃ m3,(m'.dsO py).2 = m3:=⟨_,rfl⟩
     rw [hm3] at u2
     have hff:=hfam y z hyQ hzQ
     rw [hpy,hpz,← u1] at hff
     obtain ⟨q,hq'⟩ : ∃ q,decide (pz ∈ m'.dsL py) = q:=⟨_,rfl⟩
     have hidx : i * Q.length + k < bt.length + 1:=by
      rw [hbt]
      have : i * Q.length + Q.length ≤ Q.length * Q.length:=by
       rw [← Nat.succ_mul]; exact Nat.mul_le_mul_right _ h1
      omega
     have w1 : IntKind.i64.wrap ((i : Int) * (Q.length : Int)) = ((i * Q.length : Nat) : Int):=by
      rw [← Int.natCast_mul,wrap64] <;> omega
     have w2 : IntKind.i64.wrap (((i * Q.length : Nat) : Int) + (k : Int)) = ((i * Q.length + k : Nat) : Int):=by rw [wrap64] <;> omega
     have w3 : ((i * Q.length + k : Nat) : Int) < ((bt.length + 1 : Nat) : Int):=by omega
     have w4 : (0 : Int) ≤ ((i * Q.length + k : Nat) : Int):=by omega
     by_cases zy : py = 0
     ·subst zy
      refine run_sound (Tab.ok_Γ _) 300 _ _ _ _ ?_
      simp (maxSteps:=999999) only [EV0,zx,zw,zv,zu,zq,zp,zj,zk,zg,leT,zZ,rvC,zY,zX,zW,zV,↓zU,↓zQ,reduceCtorEq,yz,yy,yY,yx,yw,yv,yu,yq,yp,yX,yj,yk,yg,yW,yV,yU,yZ,yQ,xz,TFa,belG,belM,namedG,bH_fm,hcc,hBx,hpy,hpz,hq',hm3,d1,d2,d3,f1,f2,f3,f4,g1,g2,Int.toNat_natCast,bne,← hXB,put,fillP]
      refine IH2 (k + 1,m3) _ (by simp only; omega) ⟨by simp only; omega,u2⟩ ?_
      refine Wk.same (by rw [← hXB]) rfl ?_
      simp (maxSteps:=999999) only [EV0,zx,zw,zv,zu,zq,zp,zj,zk,zg,leT,zZ,rvC,zY,zX,zW,zV,↓zU,↓zQ,reduceCtorEq,yz,yy,yY,yx,yw,yv,yu,yq,yp,yX,yj,yk,yg,yW,yV,yU,yZ,yQ,xz]
     ·have zy' : (py == 0) = false:=by simpa using zy
      by_cases zz : pz = 0
      ·subst zz
       refine run_sound (Tab.ok_Γ _) 300 _ _ _ _ ?_
       simp (maxSteps:=999999) only [EV0,zx,zw,zv,zu,zq,zp,zj,zk,zg,leT,zZ,rvC,zY,zX,zW,zV,↓zU,↓zQ,reduceCtorEq,yz,yy,yY,yx,yw,yv,yu,yq,yp,yX,yj,yk,yg,yW,yV,yU,yZ,yQ,xz,TFa,belG,belM,namedG,bH_fm,hcc,hBx,hpy,hpz,hq',hm3,d1,d2,d3,f1,f2,f3,f4,g1,g2,zy,zy',Int.toNat_natCast,bne,← hXB,put,fillP]
       refine IH2 (k + 1,m3) _ (by simp only; omega) ⟨by simp only; omega,u2⟩ ?_
       refine Wk.same (by rw [← hXB]) rfl ?_
       simp (maxSteps:=999999) only [EV0,zx,zw,zv,zu,zq,zp,zj,zk,zg,leT,zZ,rvC,zY,zX,zW,zV,↓zU,↓zQ,reduceCtorEq,yz,yy,yY,yx,yw,yv,yu,yq,yp,yX,yj,yk,yg,yW,yV,yU,yZ,yQ,xz]
      ·have zz' : (pz == 0) = false:=by simpa using zz
       have hqe : decide (z ∈ under m1.D Q y) = q:=by
        rw [← hq']
        exact decide_eq_decide.2 (hff zy zz).symm
       rw [hqe] at g3
       refine run_sound (Tab.ok_Γ _) 300 _ _ _ _ ?_
       simp (maxSteps:=999999) only [EV0,zx,zw,zv,zu,zq,zp,zj,zk,zg,leT,zZ,rvC,zY,zX,zW,zV,↓zU,↓zQ,reduceCtorEq,yz,yy,yY,yx,yw,yv,yu,yq,yp,yX,yj,yk,yg,yW,yV,yU,yZ,yQ,xz,TFa,belG,belM,namedG,bH_fm,hcc,hBx,hpy,hpz,hq',hm3,d1,d2,d3,f1,f2,f3,f4,g1,g2,g3,w1,w2,w3,w4,zy,zy',zz,zz',Int.toNat_natCast,bne,← hXB,put,fillP]
       refine IH2 (k + 1,m3) _ (by simp only; omega) ⟨by simp only; omega,u2⟩ ?_
       refine Wk.same (by rw [← hXB]) rfl ?_
       simp (maxSteps:=999999) only [EV0,zx,zw,zv,zu,zq,zp,zj,zk,zg,leT,zZ,rvC,zY,zX,zW,zV,↓zU,↓zQ,reduceCtorEq,yz,yy,yY,yx,yw,yv,yu,yq,yp,yX,yj,yk,yg,yW,yV,yU,yZ,yQ,xz]
    ·have e0 : k = Q.length:=by omega
     subst e0
     clear IH2
     refine run_sound (Tab.ok_Γ _) 300 _ _ _ _ ?_
     simp (maxSteps:=999999) only [EV0,zx,zw,zv,zu,zq,zp,zj,zk,zg,leT,zZ,rvC,zY,zX,zW,zV,↓zU,↓zQ,reduceCtorEq,yz,yy,yY,yx,yw,yv,yu,yq,yp,yX,yj,yk,yg,yW,yV,yU,yZ,yQ,xz,TFa,Int.lt_irrefl,← hXB,d4,bne,put,fillP]
     refine IH (i + 1,m') _ (by simp only; omega) ⟨by simp only; omega,hw'⟩ ?_
     refine Wk.same (by rw [← hXB]) rfl ?_
     simp (maxSteps:=999999) only [EV0,zx,zw,zv,zu,zq,zp,zj,zk,zg,leT,zZ,rvC,zY,zX,zW,zV,↓zU,↓zQ,reduceCtorEq,yz,yy,yY,yx,yw,yv,yu,yq,yp,yX,yj,yk,yg,yW,yV,yU,yZ,yQ,xz]
   ·have e0 : i = Q.length:=by omega
    subst e0
    clear IH
    refine run_sound (Tab.ok_Γ _) 300 _ _ _ _ ?_
    simp (maxSteps:=999999) only [EV0,zx,zw,zv,zu,zq,zp,zj,zk,zg,leT,zZ,rvC,zY,zX,zW,zV,↓zU,↓zQ,reduceCtorEq,yz,yy,yY,yx,yw,yv,yu,yq,yp,yX,yj,yk,yg,yW,yV,yU,yZ,yQ,xz,TFa,Int.lt_irrefl,bne]
    exact hK _
end Go.Proofs.Ytcdfofeolgbnbaa

