/- The document's Remove. -/
import Derived.Test.YtcdfofeolgbnbaaGreatZ13
import Derived.Test.YtcdfofeolgbnbaaGreatZ27
import Derived.Test.YtcdfofeolgbnbaaGreatZ28
/- The document's Next,Last,Below,Remove. -/
namespace Go.Proofs.YtcdfofeolgbnbaaGreat
open Go.D
open Nat (reduceAdd reducePow reduceMul reduceSub reduceLeDiff reduceLT reduceEqDiff)
open Int (reduceNeg reduceLE reduceEq reduceNe reduceToNat)
open Go.D renaming istep → zy,pickR → zx,bin1R → zw,un1R → zv,eqS → zu,eq1 → zq,cmpS → zp,cmp1 → zj,isNil → zk,shows → zg,result → zZ,q_cond_t → zV,q_cond_f → zU
open List renaming set → zY,replicate → zX
open Option renaming map → zW
open Nat renaming reduceAdd → zQ,reducePow → yz,reduceMul → yy,reduceSub → yx,reduceLeDiff → yw,reduceLT → yv,reduceEqDiff → yu
open Int renaming reduceNeg → yq,reduceLE → yj,reduceEq → yk,reduceNe → yg,reduceToNat → yZ,reducePow → yY,reduceLT → yX,reduceAdd → yW,reduceSub → yV,reduceMul → yU,reduceBEq → yQ,reduceBNe → xz
set_option linter.all false
set_option maxRecDepth 100000
set_option maxHeartbeats 8000000

noncomputable def TNr : Tab:=addT 98 fullG (noT)
theorem TNr_snd : TNr.Snd Tryz.prog:=addT_snd ok98 rfull_snd ((noT_snd _))
theorem rnext_snd : Snd Tryz.prog 32 (FSpec.of nextG):=snd_run TNr_snd mixed Tryz.func32 dc32 200 fun args h K hc hS => by
 obtain ⟨a,b,m,rest,rfl,H,hS1⟩:=memF_spec (f:=nextM) hS
 clear hS
 have hS:=hS1
 clear hS1
 unfold nextM at hS
 split at hS
 ·rename_i x
  simp only [spec_ok,M.nxV,M.nxX] at hS
  obtain ⟨⟨⟨c0,c1,c2,c3,c4,c5,c6,c7,c8,c9,c10⟩,p0,q0,r0⟩,hs⟩ : ∃ s,m.gV x = s:=⟨_,rfl⟩
  obtain ⟨⟨⟨d0,d1,d2,d3,d4,d5,d6,d7,d8,d9,d10⟩,p1,q1,r1⟩,ht⟩ : ∃ s,m.gV q0 = s:=⟨_,rfl⟩
  simp only [hs,ht] at hS
  by_cases hf : m.fE x = 0
  ·rw [if_pos hf,if_pos hf] at hS
   by_cases hn : q0 = 0
   ·rw [if_pos hn,if_pos hn] at hS
    have hn' : (q0 == 0) = true:=by simpa using hn
    simp (maxSteps:=9999999) only [EV0,zy,zx,zw,zv,zu,zq,zp,zj,zk,leT,zg,rvC,zZ,zY,zX,zW,↓zV,↓zU,reduceCtorEq,zQ,yz,yY,yy,yx,yw,yv,yu,yq,yX,yj,yk,yg,yW,yV,yU,yZ,yQ,xz,df32,TNr,fullG,memF_eq H,memF_set H,fullM,hs,hf,hn',bne,Slot.cl,Cap.cl,put,fillP,sub,EVt]
    exact hS
   ·rw [if_neg hn,if_neg hn] at hS
    have hn' : (q0 == 0) = false:=by simpa using hn
    by_cases hg : m.fE q0 = 0
    ·rw [if_pos hg] at hS
     by_cases hd : r1 ≤ r0
     ·rw [if_pos hd] at hS
      simp (maxSteps:=9999999) only [EV0,zy,zx,zw,zv,zu,zq,zp,zj,zk,leT,zg,rvC,zZ,zY,zX,zW,↓zV,↓zU,reduceCtorEq,zQ,yz,yY,yy,yx,yw,yv,yu,yq,yX,yj,yk,yg,yW,yV,yU,yZ,yQ,xz,df32,TNr,fullG,memF_eq H,memF_set H,fullM,hs,ht,hf,hn',hg,hd,gX_fE,gX_gV,bne,Slot.cl,Cap.cl,put,fillP,sub,EVt]
      exact hS
     ·rw [if_neg hd] at hS
      simp (maxSteps:=9999999) only [EV0,zy,zx,zw,zv,zu,zq,zp,zj,zk,leT,zg,rvC,zZ,zY,zX,zW,↓zV,↓zU,reduceCtorEq,zQ,yz,yY,yy,yx,yw,yv,yu,yq,yX,yj,yk,yg,yW,yV,yU,yZ,yQ,xz,df32,TNr,fullG,memF_eq H,memF_set H,fullM,hs,ht,hf,hn',hg,hd,gX_fE,gX_gV,bne,Slot.cl,Cap.cl,put,fillP,sub,EVt]
      exact hS
    ·rw [if_neg hg] at hS
     have hg' : (m.fE q0 == 0) = false:=by simpa using hg
     simp (maxSteps:=9999999) only [EV0,zy,zx,zw,zv,zu,zq,zp,zj,zk,leT,zg,rvC,zZ,zY,zX,zW,↓zV,↓zU,reduceCtorEq,zQ,yz,yY,yy,yx,yw,yv,yu,yq,yX,yj,yk,yg,yW,yV,yU,yZ,yQ,xz,df32,TNr,fullG,memF_eq H,memF_set H,fullM,hs,ht,hf,hn',hg',hg,gX_fE,gX_gV,bne,Slot.cl,Cap.cl,put,fillP,sub,EVt]
     exact hS
  ·rw [if_neg hf,if_neg hf] at hS
   have hf' : (m.fE x == 0) = false:=by simpa using hf
   simp (maxSteps:=9999999) only [EV0,zy,zx,zw,zv,zu,zq,zp,zj,zk,leT,zg,rvC,zZ,zY,zX,zW,↓zV,↓zU,reduceCtorEq,zQ,yz,yY,yy,yx,yw,yv,yu,yq,yX,yj,yk,yg,yW,yV,yU,yZ,yQ,xz,df32,TNr,fullG,memF_eq H,memF_set H,fullM,hs,hf,hf',bne,Slot.cl,Cap.cl,put,fillP,sub,EVt]
   exact hS
 ·exact hS.elim


theorem rdW_len {d : Int} {N : Nat} : ∀ (k : Nat) (x : Int) (m : M) (l : List Int) {l' : List Int} {m' : M},rdW d N k x m l = (some l',m') → l'.length ≤ l.length + k
 | 0,x,m,l,l',m',h => by simp [rdW] at h
 | k + 1,x,m,l,l',m',h => by
  simp only [rdW] at h
  split at h
  ·simp only [Prod.mk.injEq,Option.some.injEq] at h; rw [← h.1]; omega
  ·split at h
   ·split at h
    ·simp only [Prod.mk.injEq,Option.some.injEq] at h; rw [← h.1]; omega
    ·have:=rdW_len k _ _ _ h
     simp only [List.length_append,List.length_cons,List.length_nil] at this
     omega
   ·simp at h
def M.rdsO (m : M) (x : Int) : Option (List Int) × M:=if m.fE x = 0 then rdW (m.gV x).depth (m.w.length / 4) (m.w.length / 4 + 2) (m.gV x).next (m.gX x) [] else (none,m.gX x)
def M.rdsL (m : M) (x : Int) : List Int:=(m.rdsO x).1.getD []
def rbelM (b : Nat) (m : M) (st : M → List Blk) : List V → Res
 | [.s (.i .i64 x), .s (.i .i64 y)] => .ok (.s (.b (decide (y ∈ m.rdsL x)))) [] (st (m.rdsO x).2)
 | _ => .bad
noncomputable def rbelG:=memF rbelM
def rlastM (b : Nat) (m : M) (st : M → List Blk) : List V → Res
 | [.s (.i .i64 x)] => .ok (.s (.i .i64 ((m.rdsL x).getLastD 0))) [] (st (m.rdsO x).2)
 | _ => .bad
noncomputable def rlastG:=memF rlastM
noncomputable def TRe : Tab:=addT 129 rdscG (noT)
theorem TRe_snd : TRe.Snd Tryz.prog:=addT_snd ok129 rdsc_snd ((noT_snd _))
theorem rlast_snd : Snd Tryz.prog 130 (FSpec.of rlastG):=(fwp_sound (Tab.snd_Γ TRe_snd) mixed Tryz.func130 dc130).weaken fun args h K hc hS => by
 refine fwp_runW (Tab.ok_Γ _) 200 ?_
 obtain ⟨a,b,m,rest,rfl,H,hS1⟩:=memF_spec (f:=rlastM) hS
 clear hS
 have hS:=hS1
 clear hS1
 unfold rlastM at hS
 split at hS
 ·rename_i x
  simp only [spec_ok] at hS
  have hlm : ∀ m2,(setM h a b m2).length = h.length:=fun _ => setM_len
  have hcm : ∀ m2,clean (setM h a b m2).length (setM h a b m2) = true:=fun _ => by rw [setM_len]; exact setM_clean H hc H.ltb
  have hml:=m.l
  by_cases hf : m.fE x = 0
  ·obtain ⟨o,ho⟩ : ∃ o,rdW (m.gV x).depth (m.w.length / 4) (m.w.length / 4 + 2) (m.gV x).next (m.gX x) [] = o:=⟨_,rfl⟩
   have hO : m.rdsO x = o:=by unfold M.rdsO; rw [if_pos hf,ho]
   have hL : m.rdsL x = o.1.getD []:=by unfold M.rdsL; rw [hO]
   rw [hL,hO] at hS
   clear hL hO
   rcases o with ⟨_ | _ | ⟨z,l⟩,m2⟩
   ·simp (maxSteps:=9999999) only [EV0,zy,zx,zw,zv,zu,zq,zp,zj,zk,leT,zg,rvC,zZ,zY,zX,zW,↓zV,↓zU,reduceCtorEq,zQ,yz,yY,yy,yx,yw,yv,yu,yq,yX,yj,yk,yg,yW,yV,yU,yZ,yQ,xz,df130,TRe,rdscG,memF_eq H,memF_set H,rdscM,dscR,hf,ho,bne]
    exact fin_of (v:=.s (.i .i64 0)) (ls:=[]) (h:=setM h a b m2) rfl (Wk.keep 0 rfl rfl (by simp (maxSteps:=9999999) only [EV0,zy,zx,zw,zv,zu,zq,zp,zj,zk,leT,zg,rvC,zZ,zY,zX,zW,↓zV,↓zU,reduceCtorEq,zQ,yz,yY,yy,yx,yw,yv,yu,yq,yX,yj,yk,yg,yW,yV,yU,yZ,yQ,xz]) (by rfl) (by rfl)) (by simp (maxSteps:=9999999) only [EV0,zy,zx,zw,zv,zu,zq,zp,zj,zk,leT,zg,rvC,zZ,zY,zX,zW,↓zV,↓zU,reduceCtorEq,zQ,yz,yY,yy,yx,yw,yv,yu,yq,yX,yj,yk,yg,yW,yV,yU,yZ,yQ,xz]; exact hS)
   ·simp (maxSteps:=9999999) only [EV0,zy,zx,zw,zv,zu,zq,zp,zj,zk,leT,zg,rvC,zZ,zY,zX,zW,↓zV,↓zU,reduceCtorEq,zQ,yz,yY,yy,yx,yw,yv,yu,yq,yX,yj,yk,yg,yW,yV,yU,yZ,yQ,xz,df130,TRe,rdscG,memF_eq H,memF_set H,rdscM,dscR,hf,ho,bne]
    exact fin_of (v:=.s (.i .i64 0)) (ls:=[]) (h:=setM h a b m2) rfl (Wk.keep 0 rfl rfl (by simp (maxSteps:=9999999) only [EV0,zy,zx,zw,zv,zu,zq,zp,zj,zk,leT,zg,rvC,zZ,zY,zX,zW,↓zV,↓zU,reduceCtorEq,zQ,yz,yY,yy,yx,yw,yv,yu,yq,yX,yj,yk,yg,yW,yV,yU,yZ,yQ,xz]) (by rfl) (by rfl)) (by simp (maxSteps:=9999999) only [EV0,zy,zx,zw,zv,zu,zq,zp,zj,zk,leT,zg,rvC,zZ,zY,zX,zW,↓zV,↓zU,reduceCtorEq,zQ,yz,yY,yy,yx,yw,yv,yu,yq,yX,yj,yk,yg,yW,yV,yU,yZ,yQ,xz]; exact hS)
   ·have hl:=rdW_len _ _ _ _ ho
    have g1:=last_get (l:=z :: l) (by simp)
    simp only [List.length_cons,Nat.add_sub_cancel] at g1
    simp only [Option.getD_some] at hS
    obtain ⟨ys,hys⟩ : ∃ ys,(z :: l).getLastD 0 = ys:=⟨_,rfl⟩
    rw [hys] at hS g1
    have w1 : IntKind.i64.wrap (((l.length + 1 : Nat) : Int) - 1) = (l.length : Int):=by
     rw [wrap64] <;> (simp only [List.length_cons,List.length_nil] at hl; omega)
    have w2 : (((l.length + 1 : Nat) : Int) == 0) = false:=by simpa using (by omega : ¬ ((l.length + 1 : Nat) : Int) = 0)
    have w3 : (0 : Int) ≤ (l.length : Int):=by omega
    have w4 : (l.length : Int) < ((l.length + 1 : Nat) : Int):=by omega
    have w5 : ∀ c,(setM h a b m2 ++ [⟨.rw,intsB (z :: l),c⟩])[(setM h a b m2).length]? = some (⟨.rw,intsB (z :: l),c⟩ : Blk):=fun c => by simp
    simp (maxSteps:=9999999) only [EV0,zy,zx,zw,zv,zu,zq,zp,zj,zk,leT,zg,rvC,zZ,zY,zX,zW,↓zV,↓zU,reduceCtorEq,zQ,yz,yY,yy,yx,yw,yv,yu,yq,yX,yj,yk,yg,yW,yV,yU,yZ,yQ,xz,df130,TRe,rdscG,memF_eq H,memF_set H,rdscM,dscR,hf,ho,bne,w1,w2,w3,w4,w5,g1,Int.toNat_natCast]
    intro c hc'
    refine fin_of (v:=.s (.i .i64 ys)) (ls:=[]) (h:=setM h a b m2) rfl ?_ ?_
    ·exact drop_i (by simp (maxSteps:=9999999) only [EV0,zy,zx,zw,zv,zu,zq,zp,zj,zk,leT,zg,rvC,zZ,zY,zX,zW,↓zV,↓zU,reduceCtorEq,zQ,yz,yY,yy,yx,yw,yv,yu,yq,yX,yj,yk,yg,yW,yV,yU,yZ,yQ,xz]) (hcm m2) (Nat.le_of_eq (hlm m2).symm)
    ·simp (maxSteps:=9999999) only [EV0,zy,zx,zw,zv,zu,zq,zp,zj,zk,leT,zg,rvC,zZ,zY,zX,zW,↓zV,↓zU,reduceCtorEq,zQ,yz,yY,yy,yx,yw,yv,yu,yq,yX,yj,yk,yg,yW,yV,yU,yZ,yQ,xz]
     exact hS
  ·have hf' : (m.fE x == 0) = false:=by simpa using hf
   have hO : m.rdsO x = (none,m.gX x):=by unfold M.rdsO; rw [if_neg hf]
   have hL : m.rdsL x = []:=by unfold M.rdsL; rw [hO]; rfl
   rw [hL,hO] at hS
   simp (maxSteps:=9999999) only [EV0,zy,zx,zw,zv,zu,zq,zp,zj,zk,leT,zg,rvC,zZ,zY,zX,zW,↓zV,↓zU,reduceCtorEq,zQ,yz,yY,yy,yx,yw,yv,yu,yq,yX,yj,yk,yg,yW,yV,yU,yZ,yQ,xz,df130,TRe,rdscG,memF_eq H,memF_set H,rdscM,dscR,hf,hf',bne]
   exact fin_of (v:=.s (.i .i64 0)) (ls:=[]) (h:=setM h a b (m.gX x)) rfl (Wk.keep 0 rfl rfl (by simp (maxSteps:=9999999) only [EV0,zy,zx,zw,zv,zu,zq,zp,zj,zk,leT,zg,rvC,zZ,zY,zX,zW,↓zV,↓zU,reduceCtorEq,zQ,yz,yY,yy,yx,yw,yv,yu,yq,yX,yj,yk,yg,yW,yV,yU,yZ,yQ,xz]) (by rfl) (by rfl)) (by simp (maxSteps:=9999999) only [EV0,zy,zx,zw,zv,zu,zq,zp,zj,zk,leT,zg,rvC,zZ,zY,zX,zW,↓zV,↓zU,reduceCtorEq,zQ,yz,yY,yy,yx,yw,yv,yu,yq,yX,yj,yk,yg,yW,yV,yU,yZ,yQ,xz]; exact hS)
 ·exact hS.elim

theorem in_take {x : Int} {l : List Int} {i : Nat} (hi : i < l.length) (e : nth 0 l i = x) : x ∈ l:=by rw [← e,nth_eq hi]; exact List.getElem_mem hi
theorem rbel_snd : Snd Tryz.prog 131 (FSpec.of rbelG):=(fwp_sound (Tab.snd_Γ TRe_snd) mixed Tryz.func131 dc131).weaken fun args h K hc hS => by
 refine fwp_runW (Tab.ok_Γ _) 200 ?_
 obtain ⟨a,b,m,rest,rfl,H,hS1⟩:=memF_spec (f:=rbelM) hS
 clear hS
 have hS:=hS1
 clear hS1
 unfold rbelM at hS
 split at hS
 ·rename_i x y
  simp only [spec_ok] at hS
  have hlm : ∀ m2,(setM h a b m2).length = h.length:=fun _ => setM_len
  have hcm : ∀ m2,clean (setM h a b m2).length (setM h a b m2) = true:=fun _ => by rw [setM_len]; exact setM_clean H hc H.ltb
  have hml:=m.l
  obtain ⟨o,hO⟩ : ∃ o,m.rdsO x = o:=⟨_,rfl⟩
  have hL : m.rdsL x = o.1.getD []:=by unfold M.rdsL; rw [hO]
  rw [hL,hO] at hS
  by_cases hf : m.fE x = 0
  ·have hres : rdscM b m (setM h a b) [.s (.i .i64 x)] = .br (decide (m.fE x = 0)) (dscR (setM h a b) o) (.ok (.tup [.s .ns, .s (.i .i64 (m.fE x))]) [] (setM h a b (m.gX x))):=by
    unfold M.rdsO at hO
    rw [if_pos hf] at hO
    rw [← hO]
    rfl
   rcases o with ⟨_ | _ | ⟨z,l⟩,m2⟩
   ·simp (maxSteps:=9999999) only [EV0,zy,zx,zw,zv,zu,zq,zp,zj,zk,leT,zg,rvC,zZ,zY,zX,zW,↓zV,↓zU,reduceCtorEq,zQ,yz,yY,yy,yx,yw,yv,yu,yq,yX,yj,yk,yg,yW,yV,yU,yZ,yQ,xz,df131,TRe,rdscG,memF_eq H,hres,dscR,hf]
    refine loop_rule (α:=Unit) [] (fun _ => []) (fun _ => []) (fun _ => setM h a b m2) (fun _ => True) (fun _ => 0) () trivial .refl ?_
    rintro X2 _ _ _
    refine run_sound (Tab.ok_Γ _) 100 _ _ _ _ ?_
    simp (maxSteps:=9999999) only [EV0,zy,zx,zw,zv,zu,zq,zp,zj,zk,leT,zg,rvC,zZ,zY,zX,zW,↓zV,↓zU,reduceCtorEq,zQ,yz,yY,yy,yx,yw,yv,yu,yq,yX,yj,yk,yg,yW,yV,yU,yZ,yQ,xz,TRe,Int.lt_irrefl]
    simp only [Option.getD_none,List.not_mem_nil,decide_false] at hS
    refine fin_of (v:=.s (.b false)) (ls:=[]) (h:=setM h a b m2) rfl ?_ ?_
    ·exact Wk.keep 0 rfl rfl (by simp (maxSteps:=9999999) only [EV0,zy,zx,zw,zv,zu,zq,zp,zj,zk,leT,zg,rvC,zZ,zY,zX,zW,↓zV,↓zU,reduceCtorEq,zQ,yz,yY,yy,yx,yw,yv,yu,yq,yX,yj,yk,yg,yW,yV,yU,yZ,yQ,xz]) (by rfl) (by rfl)
    ·simp (maxSteps:=9999999) only [EV0,zy,zx,zw,zv,zu,zq,zp,zj,zk,leT,zg,rvC,zZ,zY,zX,zW,↓zV,↓zU,reduceCtorEq,zQ,yz,yY,yy,yx,yw,yv,yu,yq,yX,yj,yk,yg,yW,yV,yU,yZ,yQ,xz]
     exact hS
   ·simp (maxSteps:=9999999) only [EV0,zy,zx,zw,zv,zu,zq,zp,zj,zk,leT,zg,rvC,zZ,zY,zX,zW,↓zV,↓zU,reduceCtorEq,zQ,yz,yY,yy,yx,yw,yv,yu,yq,yX,yj,yk,yg,yW,yV,yU,yZ,yQ,xz,df131,TRe,rdscG,memF_eq H,hres,dscR,hf]
    refine loop_rule (α:=Unit) [] (fun _ => []) (fun _ => []) (fun _ => setM h a b m2) (fun _ => True) (fun _ => 0) () trivial .refl ?_
    rintro X2 _ _ _
    refine run_sound (Tab.ok_Γ _) 100 _ _ _ _ ?_
    simp (maxSteps:=9999999) only [EV0,zy,zx,zw,zv,zu,zq,zp,zj,zk,leT,zg,rvC,zZ,zY,zX,zW,↓zV,↓zU,reduceCtorEq,zQ,yz,yY,yy,yx,yw,yv,yu,yq,yX,yj,yk,yg,yW,yV,yU,yZ,yQ,xz,TRe,Int.lt_irrefl]
    simp only [Option.getD_some,List.not_mem_nil,decide_false] at hS
    refine fin_of (v:=.s (.b false)) (ls:=[]) (h:=setM h a b m2) rfl ?_ ?_
    ·exact Wk.keep 0 rfl rfl (by simp (maxSteps:=9999999) only [EV0,zy,zx,zw,zv,zu,zq,zp,zj,zk,leT,zg,rvC,zZ,zY,zX,zW,↓zV,↓zU,reduceCtorEq,zQ,yz,yY,yy,yx,yw,yv,yu,yq,yX,yj,yk,yg,yW,yV,yU,yZ,yQ,xz]) (by rfl) (by rfl)
    ·simp (maxSteps:=9999999) only [EV0,zy,zx,zw,zv,zu,zq,zp,zj,zk,leT,zg,rvC,zZ,zY,zX,zW,↓zV,↓zU,reduceCtorEq,zQ,yz,yY,yy,yx,yw,yv,yu,yq,yX,yj,yk,yg,yW,yV,yU,yZ,yQ,xz]
     exact hS
   ·have hl : l.length + 1 ≤ 20000:=by
     unfold M.rdsO at hO
     rw [if_pos hf] at hO
     have:=rdW_len _ _ _ _ hO
     simp only [List.length_cons,List.length_nil] at this
     omega
    simp only [Option.getD_some] at hS
    have w5 : ∀ c,(setM h a b m2 ++ [⟨.rw,intsB (z :: l),c⟩])[h.length]? = some (⟨.rw,intsB (z :: l),c⟩ : Blk):=fun c => by rw [List.getElem?_append_right (by rw [setM_len]; omega),setM_len,Nat.sub_self]; rfl
    simp (maxSteps:=9999999) only [EV0,zy,zx,zw,zv,zu,zq,zp,zj,zk,leT,zg,rvC,zZ,zY,zX,zW,↓zV,↓zU,reduceCtorEq,zQ,yz,yY,yy,yx,yw,yv,yu,yq,yX,yj,yk,yg,yW,yV,yU,yZ,yQ,xz,df131,TRe,rdscG,memF_eq H,hres,dscR,hf,setM_len]
    intro c hc1
    have l1 : (z :: l).length ≤ 9223372036854775807:=by simp only [List.length_cons]; omega
    refine loop_rule (α:=Nat) [6,9,16,17,18,19,20,21,22,23,24,25,26,27] (fun q => [(9, .s (.i .i64 (q : Int)))]) (fun _ => []) (fun _ => setM h a b m2 ++ [⟨.rw,intsB (z :: l),c⟩]) (fun q => q ≤ (z :: l).length ∧ y ∉ (z :: l).take q) (fun q => (z :: l).length - q) 0 ⟨Nat.zero_le _,by simp⟩ ?_ ?_
    ·refine Wk.same rfl rfl ?_
     simp (maxSteps:=9999999) only [EV0,zy,zx,zw,zv,zu,zq,zp,zj,zk,leT,zg,rvC,zZ,zY,zX,zW,↓zV,↓zU,reduceCtorEq,zQ,yz,yY,yy,yx,yw,yv,yu,yq,yX,yj,yk,yg,yW,yV,yU,yZ,yQ,xz,Int.natCast_zero]
    ·rintro X q ⟨hq,hn⟩ IH
     rcases Nat.lt_or_ge q (z :: l).length with h1 | h1
     ·obtain ⟨d1,d2,d3,d4⟩:=idx h1 l1
      have g1:=intsB_get h1
      simp only [List.length_cons] at d1 d2 d3 d4
      by_cases e : y = nth 0 (z :: l) q
      ·have e1 : decide (y ∈ z :: l) = true:=by
        have:=in_take h1 e.symm
        simpa using this
       have e2 : (nth 0 (z :: l) q == y) = true:=by rw [← e]; simp
       rw [e1] at hS
       refine run_sound (Tab.ok_Γ _) 100 _ _ _ _ ?_
       simp (maxSteps:=9999999) only [EV0,zy,zx,zw,zv,zu,zq,zp,zj,zk,leT,zg,rvC,zZ,zY,zX,zW,↓zV,↓zU,reduceCtorEq,zQ,yz,yY,yy,yx,yw,yv,yu,yq,yX,yj,yk,yg,yW,yV,yU,yZ,yQ,xz,TRe,w5,g1,d1,d2,d3,d4,e2,Int.toNat_natCast]
       refine fin_of (v:=.s (.b true)) (ls:=[]) (h:=setM h a b m2) rfl ?_ ?_
       ·exact drop_b (by simp (maxSteps:=9999999) only [EV0,zy,zx,zw,zv,zu,zq,zp,zj,zk,leT,zg,rvC,zZ,zY,zX,zW,↓zV,↓zU,reduceCtorEq,zQ,yz,yY,yy,yx,yw,yv,yu,yq,yX,yj,yk,yg,yW,yV,yU,yZ,yQ,xz]) (hcm m2) (Nat.le_of_eq (hlm m2).symm)
       ·simp (maxSteps:=9999999) only [EV0,zy,zx,zw,zv,zu,zq,zp,zj,zk,leT,zg,rvC,zZ,zY,zX,zW,↓zV,↓zU,reduceCtorEq,zQ,yz,yY,yy,yx,yw,yv,yu,yq,yX,yj,yk,yg,yW,yV,yU,yZ,yQ,xz]
        exact hS
      ·have e2 : (nth 0 (z :: l) q == y) = false:=by simpa using fun h => e h.symm
       refine run_sound (Tab.ok_Γ _) 100 _ _ _ _ ?_
       simp (maxSteps:=9999999) only [EV0,zy,zx,zw,zv,zu,zq,zp,zj,zk,leT,zg,rvC,zZ,zY,zX,zW,↓zV,↓zU,reduceCtorEq,zQ,yz,yY,yy,yx,yw,yv,yu,yq,yX,yj,yk,yg,yW,yV,yU,yZ,yQ,xz,TRe,w5,g1,d1,d2,d3,d4,e2,Int.toNat_natCast]
       exact IH (q + 1) _ (by omega) ⟨by omega,not_take h1 hn e⟩ (Wk.same rfl rfl (by simp (maxSteps:=9999999) only [EV0,zy,zx,zw,zv,zu,zq,zp,zj,zk,leT,zg,rvC,zZ,zY,zX,zW,↓zV,↓zU,reduceCtorEq,zQ,yz,yY,yy,yx,yw,yv,yu,yq,yX,yj,yk,yg,yW,yV,yU,yZ,yQ,xz]))
     ·have e0 : q = (z :: l).length:=by omega
      subst e0
      rw [List.take_length] at hn
      have e1 : decide (y ∈ z :: l) = false:=by simpa using hn
      rw [e1] at hS
      refine run_sound (Tab.ok_Γ _) 100 _ _ _ _ ?_
      simp (maxSteps:=9999999) only [EV0,zy,zx,zw,zv,zu,zq,zp,zj,zk,leT,zg,rvC,zZ,zY,zX,zW,↓zV,↓zU,reduceCtorEq,zQ,yz,yY,yy,yx,yw,yv,yu,yq,yX,yj,yk,yg,yW,yV,yU,yZ,yQ,xz,TRe,List.length_cons,Int.lt_irrefl]
      refine fin_of (v:=.s (.b false)) (ls:=[]) (h:=setM h a b m2) rfl ?_ ?_
      ·exact drop_b (by simp (maxSteps:=9999999) only [EV0,zy,zx,zw,zv,zu,zq,zp,zj,zk,leT,zg,rvC,zZ,zY,zX,zW,↓zV,↓zU,reduceCtorEq,zQ,yz,yY,yy,yx,yw,yv,yu,yq,yX,yj,yk,yg,yW,yV,yU,yZ,yQ,xz]) (hcm m2) (Nat.le_of_eq (hlm m2).symm)
      ·simp (maxSteps:=9999999) only [EV0,zy,zx,zw,zv,zu,zq,zp,zj,zk,leT,zg,rvC,zZ,zY,zX,zW,↓zV,↓zU,reduceCtorEq,zQ,yz,yY,yy,yx,yw,yv,yu,yq,yX,yj,yk,yg,yW,yV,yU,yZ,yQ,xz]
       exact hS
  ·have ho : o = (none,m.gX x):=by rw [← hO]; unfold M.rdsO; rw [if_neg hf]
   subst ho
   simp (maxSteps:=9999999) only [EV0,zy,zx,zw,zv,zu,zq,zp,zj,zk,leT,zg,rvC,zZ,zY,zX,zW,↓zV,↓zU,reduceCtorEq,zQ,yz,yY,yy,yx,yw,yv,yu,yq,yX,yj,yk,yg,yW,yV,yU,yZ,yQ,xz,df131,TRe,rdscG,memF_eq H,rdscM,dscR,hf]
   refine loop_rule (α:=Unit) [] (fun _ => []) (fun _ => []) (fun _ => setM h a b (m.gX x)) (fun _ => True) (fun _ => 0) () trivial .refl ?_
   rintro X2 _ _ _
   refine run_sound (Tab.ok_Γ _) 100 _ _ _ _ ?_
   simp (maxSteps:=9999999) only [EV0,zy,zx,zw,zv,zu,zq,zp,zj,zk,leT,zg,rvC,zZ,zY,zX,zW,↓zV,↓zU,reduceCtorEq,zQ,yz,yY,yy,yx,yw,yv,yu,yq,yX,yj,yk,yg,yW,yV,yU,yZ,yQ,xz,TRe,Int.lt_irrefl]
   simp only [Option.getD_none,List.not_mem_nil,decide_false] at hS
   refine fin_of (v:=.s (.b false)) (ls:=[]) (h:=setM h a b (m.gX x)) rfl ?_ ?_
   ·exact Wk.keep 0 rfl rfl (by simp (maxSteps:=9999999) only [EV0,zy,zx,zw,zv,zu,zq,zp,zj,zk,leT,zg,rvC,zZ,zY,zX,zW,↓zV,↓zU,reduceCtorEq,zQ,yz,yY,yy,yx,yw,yv,yu,yq,yX,yj,yk,yg,yW,yV,yU,yZ,yQ,xz]) (by rfl) (by rfl)
   ·simp (maxSteps:=9999999) only [EV0,zy,zx,zw,zv,zu,zq,zp,zj,zk,leT,zg,rvC,zZ,zY,zX,zW,↓zV,↓zU,reduceCtorEq,zQ,yz,yY,yy,yx,yw,yv,yu,yq,yX,yj,yk,yg,yW,yV,yU,yZ,yQ,xz]
    exact hS
 ·exact hS.elim

def M.rdecX : M → List Int → M
 | m,[] => m
 | m,x :: l => (if m.gE x = 0 then (m.gX x).pX x (depC (m.gV x)) else m.gX x).rdecX l
def M.rremT (m : M) (x : Int) (s : Slot) : M:=(if s.prev = 0 then (if m.fst = x then (m.fstX.pX x slotZ).lkX s.prev s.next else m.fstX.pX x slotZ) else (m.pX x slotZ).lkX s.prev s.next).bkX s.prev s.next
def M.rrem (m : M) (x : Int) : Int × M:=if m.fE x = 0 then (match rdW (m.gV x).depth (m.w.length / 4) (m.w.length / 4 + 2) (m.gV x).next ((m.gX x).gX x) [] with
 | (none,m2) => (110,m2)
 | (some l,m2) => (0,(m2.rdecX l).rremT x (m.gV x))) else (m.fE x,m.gX x)
def rremM (b : Nat) (m : M) (st : M → List Blk) : List V → Res
 | [.s (.i .i64 x)] => .ok (.s (.i .i64 (m.rrem x).1)) [] (st (m.rrem x).2)
 | _ => .bad
noncomputable def rremG:=memF rremM
theorem rdecX_drop {m : M} {l : List Int} {i : Nat} (h : i < l.length) : m.rdecX (l.drop i) = (if m.gE (nth 0 l i) = 0 then (m.gX (nth 0 l i)).pX (nth 0 l i) (depC (m.gV (nth 0 l i))) else m.gX (nth 0 l i)).rdecX (l.drop (i + 1)):=by
 rw [← List.getElem_cons_drop h,nth_eq h]; rfl
noncomputable def TRr : Tab:=addT 98 fullG (addT 129 rdscG (addT 126 get2G (addT 118 put2G (addT 122 firstG (addT 123 linksG (addT 124 backG (noT)))))))
theorem TRr_snd : TRr.Snd Tryz.prog:=addT_snd ok98 rfull_snd (addT_snd ok129 rdsc_snd (addT_snd ok126 rget2_snd (addT_snd ok118 rput2_snd (addT_snd ok122 rfirst_snd (addT_snd ok123 links_snd (addT_snd ok124 back_snd ((noT_snd _))))))))
theorem rrem_snd : Snd Tryz.prog 57 (FSpec.of rremG):=(fwp_sound (Tab.snd_Γ TRr_snd) mixed Tryz.func57 dc57).weaken fun args h K hc hS => by
 refine fwp_runW (Tab.ok_Γ _) 200 ?_
 obtain ⟨a,b,m,rest,rfl,H,hS1⟩:=memF_spec (f:=rremM) hS
 clear hS
 have hS:=hS1
 clear hS1
 unfold rremM at hS
 split at hS
 ·rename_i x
  simp only [spec_ok,M.rrem] at hS
  have hlm : ∀ m2,(setM h a b m2).length = h.length:=fun _ => setM_len
  have hcm : ∀ m2,clean (setM h a b m2).length (setM h a b m2) = true:=fun _ => by rw [setM_len]; exact setM_clean H hc H.ltb
  have hml:=m.l
  obtain ⟨s,hs⟩ : ∃ s,m.gV x = s:=⟨_,rfl⟩
  by_cases hf : m.fE x = 0
  ·simp only [hf,if_true,hs] at hS
   have hs2 : (m.gX x).gV x = s:=by rw [gX_gV]; exact hs
   have hf2 : (m.gX x).fE x = 0:=by rw [gX_fE]; exact hf
   have hwl : (m.gX x).w.length = m.w.length:=by rw [gX_w]
   obtain ⟨o,ho⟩ : ∃ o,rdW s.depth (m.w.length / 4) (m.w.length / 4 + 2) s.next ((m.gX x).gX x) [] = o:=⟨_,rfl⟩
   rw [ho] at hS
   obtain ⟨⟨c0,c1,c2,c3,c4,c5,c6,c7,c8,c9,c10⟩,p0,q0,r0⟩:=s
   have hslz : (slotZ : Slot) = ⟨⟨0,0,0,0,0,0,0,0,0,0,0⟩,0,0,0⟩:=rfl
   rcases o with ⟨_ | l,m2⟩
   ·simp only at hS
    simp (maxSteps:=9999999) only [EV0,zy,zx,zw,zv,zu,zq,zp,zj,zk,leT,zg,rvC,zZ,zY,zX,zW,↓zV,↓zU,reduceCtorEq,zQ,yz,yY,yy,yx,yw,yv,yu,yq,yX,yj,yk,yg,yW,yV,yU,yZ,yQ,xz,df57,TRr,fullG,rdscG,memF_eq H,memF_set H,fullM,rdscM,dscR,hs,hs2,hf,hf2,hwl,ho,bne,Slot.cl,Cap.cl,put,fillP,sub,EVt]
    refine fin_of (v:=.s (.i .i64 110)) (ls:=[]) (h:=setM h a b m2) rfl ?_ ?_
    ·exact Wk.keep 0 rfl rfl (by simp (maxSteps:=9999999) only [EV0,zy,zx,zw,zv,zu,zq,zp,zj,zk,leT,zg,rvC,zZ,zY,zX,zW,↓zV,↓zU,reduceCtorEq,zQ,yz,yY,yy,yx,yw,yv,yu,yq,yX,yj,yk,yg,yW,yV,yU,yZ,yQ,xz]) (by rfl) (by rfl)
    ·simp (maxSteps:=9999999) only [EV0,zy,zx,zw,zv,zu,zq,zp,zj,zk,leT,zg,rvC,zZ,zY,zX,zW,↓zV,↓zU,reduceCtorEq,zQ,yz,yY,yy,yx,yw,yv,yu,yq,yX,yj,yk,yg,yW,yV,yU,yZ,yQ,xz]
     exact hS
   ·simp only at hS
    obtain ⟨m3,hm3⟩ : ∃ m3,m2.rdecX l = m3:=⟨_,rfl⟩
    rw [hm3] at hS
    simp only [M.rremT] at hS
    cases l with
    | nil =>
     simp only [M.rdecX] at hm3
     subst hm3
     simp (maxSteps:=9999999) only [EV0,zy,zx,zw,zv,zu,zq,zp,zj,zk,leT,zg,rvC,zZ,zY,zX,zW,↓zV,↓zU,reduceCtorEq,zQ,yz,yY,yy,yx,yw,yv,yu,yq,yX,yj,yk,yg,yW,yV,yU,yZ,yQ,xz,df57,TRr,fullG,rdscG,memF_eq H,memF_set H,fullM,rdscM,dscR,hs,hs2,hf,hf2,hwl,ho,bne,Slot.cl,Cap.cl,put,fillP,sub,EVt]
     refine loop_rule (α:=Unit) [] (fun _ => []) (fun _ => [⟨.rw,(⟨⟨c0,c1,c2,c3,c4,c5,c6,c7,c8,c9,c10⟩,p0,q0,r0⟩ : Slot).cl,14⟩]) (fun _ => setM h a b m2) (fun _ => True) (fun _ => 0) () trivial .refl ?_
     rintro X2 _ _ _
     simp only [Slot.cl,Cap.cl]
     by_cases hp : p0 = 0
     ·have hp0 : (p0 == 0) = true:=by simpa using hp
      rw [if_pos hp] at hS
      by_cases hx : m2.fst = x
      ·have hx0 : (m2.fst == x) = true:=by simpa using hx
       rw [if_pos hx] at hS
       refine run_sound (Tab.ok_Γ _) 100 _ _ _ _ ?_
       simp (maxSteps:=9999999) only [EV0,zy,zx,zw,zv,zu,zq,zp,zj,zk,leT,zg,rvC,zZ,zY,zX,zW,↓zV,↓zU,reduceCtorEq,zQ,yz,yY,yy,yx,yw,yv,yu,yq,yX,yj,yk,yg,yW,yV,yU,yZ,yQ,xz,TRr,fullG,firstG,linksG,backG,rdscG,get2G,put2G,memF_set H,memF_app H,setM_fun H,fullM,firstM,linksM,backM,get2M,put2M,slotF,slot_eta,cap_eta,bne,Slot.cl,Cap.cl,← hslz,hp0,setM_len,put,fillP,sub,EVt,hx0,Int.lt_irrefl]
       refine fin_of (v:=.s (.i .i64 0)) (ls:=[]) (h:=setM h a b (((m2.fstX.pX x slotZ).lkX p0 q0).bkX p0 q0)) rfl ?_ ?_
       ·exact Wk.keep 0 rfl rfl (by simp (maxSteps:=9999999) only [EV0,zy,zx,zw,zv,zu,zq,zp,zj,zk,leT,zg,rvC,zZ,zY,zX,zW,↓zV,↓zU,reduceCtorEq,zQ,yz,yY,yy,yx,yw,yv,yu,yq,yX,yj,yk,yg,yW,yV,yU,yZ,yQ,xz]) (by rfl) (by rfl)
       ·simp (maxSteps:=9999999) only [EV0,zy,zx,zw,zv,zu,zq,zp,zj,zk,leT,zg,rvC,zZ,zY,zX,zW,↓zV,↓zU,reduceCtorEq,zQ,yz,yY,yy,yx,yw,yv,yu,yq,yX,yj,yk,yg,yW,yV,yU,yZ,yQ,xz]
        exact hS
      ·have hx0 : (m2.fst == x) = false:=by simpa using hx
       rw [if_neg hx] at hS
       refine run_sound (Tab.ok_Γ _) 100 _ _ _ _ ?_
       simp (maxSteps:=9999999) only [EV0,zy,zx,zw,zv,zu,zq,zp,zj,zk,leT,zg,rvC,zZ,zY,zX,zW,↓zV,↓zU,reduceCtorEq,zQ,yz,yY,yy,yx,yw,yv,yu,yq,yX,yj,yk,yg,yW,yV,yU,yZ,yQ,xz,TRr,fullG,firstG,linksG,backG,rdscG,get2G,put2G,memF_set H,memF_app H,setM_fun H,fullM,firstM,linksM,backM,get2M,put2M,slotF,slot_eta,cap_eta,bne,Slot.cl,Cap.cl,← hslz,hp0,setM_len,put,fillP,sub,EVt,hx0,Int.lt_irrefl]
       refine fin_of (v:=.s (.i .i64 0)) (ls:=[]) (h:=setM h a b ((m2.fstX.pX x slotZ).bkX p0 q0)) rfl ?_ ?_
       ·exact Wk.keep 0 rfl rfl (by simp (maxSteps:=9999999) only [EV0,zy,zx,zw,zv,zu,zq,zp,zj,zk,leT,zg,rvC,zZ,zY,zX,zW,↓zV,↓zU,reduceCtorEq,zQ,yz,yY,yy,yx,yw,yv,yu,yq,yX,yj,yk,yg,yW,yV,yU,yZ,yQ,xz]) (by rfl) (by rfl)
       ·simp (maxSteps:=9999999) only [EV0,zy,zx,zw,zv,zu,zq,zp,zj,zk,leT,zg,rvC,zZ,zY,zX,zW,↓zV,↓zU,reduceCtorEq,zQ,yz,yY,yy,yx,yw,yv,yu,yq,yX,yj,yk,yg,yW,yV,yU,yZ,yQ,xz]
        exact hS
     ·have hp0 : (p0 == 0) = false:=by simpa using hp
      rw [if_neg hp] at hS
      refine run_sound (Tab.ok_Γ _) 100 _ _ _ _ ?_
      simp (maxSteps:=9999999) only [EV0,zy,zx,zw,zv,zu,zq,zp,zj,zk,leT,zg,rvC,zZ,zY,zX,zW,↓zV,↓zU,reduceCtorEq,zQ,yz,yY,yy,yx,yw,yv,yu,yq,yX,yj,yk,yg,yW,yV,yU,yZ,yQ,xz,TRr,fullG,firstG,linksG,backG,rdscG,get2G,put2G,memF_set H,memF_app H,setM_fun H,fullM,firstM,linksM,backM,get2M,put2M,slotF,slot_eta,cap_eta,bne,Slot.cl,Cap.cl,← hslz,hp0,setM_len,put,fillP,sub,EVt,Int.lt_irrefl]
      refine fin_of (v:=.s (.i .i64 0)) (ls:=[]) (h:=setM h a b (((m2.pX x slotZ).lkX p0 q0).bkX p0 q0)) rfl ?_ ?_
      ·exact Wk.keep 0 rfl rfl (by simp (maxSteps:=9999999) only [EV0,zy,zx,zw,zv,zu,zq,zp,zj,zk,leT,zg,rvC,zZ,zY,zX,zW,↓zV,↓zU,reduceCtorEq,zQ,yz,yY,yy,yx,yw,yv,yu,yq,yX,yj,yk,yg,yW,yV,yU,yZ,yQ,xz]) (by rfl) (by rfl)
      ·simp (maxSteps:=9999999) only [EV0,zy,zx,zw,zv,zu,zq,zp,zj,zk,leT,zg,rvC,zZ,zY,zX,zW,↓zV,↓zU,reduceCtorEq,zQ,yz,yY,yy,yx,yw,yv,yu,yq,yX,yj,yk,yg,yW,yV,yU,yZ,yQ,xz]
       exact hS
    | cons y l =>
     have hl:=rdW_len _ _ _ _ ho
     simp only [List.length_cons,List.length_nil] at hl
     obtain ⟨L,hL⟩ : ∃ L,y :: l = L:=⟨_,rfl⟩
     have hLl : L.length = l.length + 1:=by rw [← hL]; rfl
     obtain ⟨B,hB⟩ : ∃ B,intsB (y :: l) = B:=⟨_,rfl⟩
     have hbB : ∀ m' c,(setM h a b m' ++ [⟨.rw,B,c⟩])[h.length]? = some (⟨.rw,B,c⟩ : Blk):=fun m' c => by rw [List.getElem?_append_right (by rw [setM_len]; omega),setM_len,Nat.sub_self]; rfl
     have hB1 : ∀ i,i < L.length → B[i]? = some (.i .i64 (nth 0 L i)):=fun i hi => by
      rw [← hB,hL]; exact intsB_get hi
     simp (maxSteps:=9999999) only [EV0,zy,zx,zw,zv,zu,zq,zp,zj,zk,leT,zg,rvC,zZ,zY,zX,zW,↓zV,↓zU,reduceCtorEq,zQ,yz,yY,yy,yx,yw,yv,yu,yq,yX,yj,yk,yg,yW,yV,yU,yZ,yQ,xz,df57,TRr,fullG,rdscG,memF_eq H,memF_set H,fullM,rdscM,dscR,hs,hs2,hf,hf2,hwl,ho,hB,setM_len,bne,Slot.cl,Cap.cl,put,fillP,sub,EVt]
     intro c hc1
     have l1 : L.length ≤ 9223372036854775807:=by omega
     rw [hL] at hm3
     rw [← hLl]
     clear hs hs2 hf hf2 hwl ho hL hB
     refine loop_rule (α:=Nat × M) [8,9,10,30,31,32,33,34,35,36,37,38,39,40,41,42,43,44,45,46,47,48,49,50,51,52,53,54,55,56,57] (fun z => [(8, .s (.i .i64 (z.1 : Int)))]) (fun _ => [⟨.rw,(⟨⟨c0,c1,c2,c3,c4,c5,c6,c7,c8,c9,c10⟩,p0,q0,r0⟩ : Slot).cl,14⟩]) (fun z => setM h a b z.2 ++ [⟨.rw,B,c⟩]) (fun z => z.1 ≤ L.length ∧ z.2.rdecX (L.drop z.1) = m3) (fun z => L.length - z.1) (0,m2) ⟨Nat.zero_le _,hm3⟩ ?_ ?_
     ·refine Wk.same (by rfl) rfl ?_
      simp (maxSteps:=9999999) only [EV0,zy,zx,zw,zv,zu,zq,zp,zj,zk,leT,zg,rvC,zZ,zY,zX,zW,↓zV,↓zU,reduceCtorEq,zQ,yz,yY,yy,yx,yw,yv,yu,yq,yX,yj,yk,yg,yW,yV,yU,yZ,yQ,xz,Int.natCast_zero]
     ·rintro X ⟨i,m'⟩ ⟨hi,hm'⟩ IH
      simp only at hi hm' ⊢
      simp only [Slot.cl,Cap.cl]
      by_cases h1 : i < L.length
      ·obtain ⟨d1,d2,d3,d4⟩:=idx h1 l1
       have g1:=hB1 i h1
       rw [rdecX_drop h1] at hm'
       obtain ⟨q,hq⟩ : ∃ q,nth 0 L i = q:=⟨_,rfl⟩
       rw [hq] at hm' g1
       obtain ⟨⟨⟨e0,e1,e2,e3,e4,e5,e6,e7,e8,e9,e10⟩,p1,q1,r1⟩,hs1⟩ : ∃ s,m'.gV q = s:=⟨_,rfl⟩
       rw [hs1] at hm'
       simp only [depC] at hm'
       by_cases hg : m'.gE q = 0
       ·have hg' : (m'.gE q == 0) = true:=by simpa using hg
        rw [if_pos hg] at hm'
        refine run_sound (Tab.ok_Γ _) 100 _ _ _ _ ?_
        simp (maxSteps:=9999999) only [EV0,zy,zx,zw,zv,zu,zq,zp,zj,zk,leT,zg,rvC,zZ,zY,zX,zW,↓zV,↓zU,reduceCtorEq,zQ,yz,yY,yy,yx,yw,yv,yu,yq,yX,yj,yk,yg,yW,yV,yU,yZ,yQ,xz,TRr,get2G,put2G,memF_app H,get2M,put2M,slotF,slot_eta,cap_eta,Slot.cl,Cap.cl,hs1,hg,hg',hbB,g1,d1,d2,d3,d4,Int.toNat_natCast,put,fillP,sub,EVt]
        refine IH (i + 1,(m'.gX q).pX q ⟨⟨e0,e1,e2,e3,e4,e5,e6,e7,e8,e9,e10⟩,p1,q1,IntKind.i64.wrap (r1 - 1)⟩) _ (by simp only; omega) ⟨by simp only; omega,hm'⟩ (Wk.keep 1 (by rfl) rfl ?_ ?_ ?_)
        ·simp (maxSteps:=9999999) only [EV0,zy,zx,zw,zv,zu,zq,zp,zj,zk,leT,zg,rvC,zZ,zY,zX,zW,↓zV,↓zU,reduceCtorEq,zQ,yz,yY,yy,yx,yw,yv,yu,yq,yX,yj,yk,yg,yW,yV,yU,yZ,yQ,xz]
        ·simp (maxSteps:=9999999) only [EV0,zy,zx,zw,zv,zu,zq,zp,zj,zk,leT,zg,rvC,zZ,zY,zX,zW,↓zV,↓zU,reduceCtorEq,zQ,yz,yY,yy,yx,yw,yv,yu,yq,yX,yj,yk,yg,yW,yV,yU,yZ,yQ,xz,S_below]
        ·simp (maxSteps:=9999999) only [EV0,zy,zx,zw,zv,zu,zq,zp,zj,zk,leT,zg,rvC,zZ,zY,zX,zW,↓zV,↓zU,reduceCtorEq,zQ,yz,yY,yy,yx,yw,yv,yu,yq,yX,yj,yk,yg,yW,yV,yU,yZ,yQ,xz,S_below,Slot.cl,Cap.cl]
       ·have hg' : (m'.gE q == 0) = false:=by simpa using hg
        rw [if_neg hg] at hm'
        refine run_sound (Tab.ok_Γ _) 100 _ _ _ _ ?_
        simp (maxSteps:=9999999) only [EV0,zy,zx,zw,zv,zu,zq,zp,zj,zk,leT,zg,rvC,zZ,zY,zX,zW,↓zV,↓zU,reduceCtorEq,zQ,yz,yY,yy,yx,yw,yv,yu,yq,yX,yj,yk,yg,yW,yV,yU,yZ,yQ,xz,TRr,get2G,put2G,memF_app H,get2M,put2M,slotF,slot_eta,cap_eta,Slot.cl,Cap.cl,hs1,hg',hbB,g1,d1,d2,d3,d4,Int.toNat_natCast,put,fillP,sub,EVt]
        refine IH (i + 1,m'.gX q) _ (by simp only; omega) ⟨by simp only; omega,hm'⟩ (Wk.keep 1 (by rfl) rfl ?_ ?_ ?_)
        ·simp (maxSteps:=9999999) only [EV0,zy,zx,zw,zv,zu,zq,zp,zj,zk,leT,zg,rvC,zZ,zY,zX,zW,↓zV,↓zU,reduceCtorEq,zQ,yz,yY,yy,yx,yw,yv,yu,yq,yX,yj,yk,yg,yW,yV,yU,yZ,yQ,xz]
        ·simp (maxSteps:=9999999) only [EV0,zy,zx,zw,zv,zu,zq,zp,zj,zk,leT,zg,rvC,zZ,zY,zX,zW,↓zV,↓zU,reduceCtorEq,zQ,yz,yY,yy,yx,yw,yv,yu,yq,yX,yj,yk,yg,yW,yV,yU,yZ,yQ,xz,S_below]
        ·simp (maxSteps:=9999999) only [EV0,zy,zx,zw,zv,zu,zq,zp,zj,zk,leT,zg,rvC,zZ,zY,zX,zW,↓zV,↓zU,reduceCtorEq,zQ,yz,yY,yy,yx,yw,yv,yu,yq,yX,yj,yk,yg,yW,yV,yU,yZ,yQ,xz,S_below,Slot.cl,Cap.cl]
      ·have e0 : i = L.length:=by omega
       subst e0
       rw [List.drop_length] at hm'
       simp only [M.rdecX] at hm'
       subst hm'
       have h1 : ¬ ((L.length : Int) < (L.length : Int)):=by omega
       by_cases hp : p0 = 0
       ·have hp0 : (p0 == 0) = true:=by simpa using hp
        rw [if_pos hp] at hS
        by_cases hx : m'.fst = x
        ·have hx0 : (m'.fst == x) = true:=by simpa using hx
         rw [if_pos hx] at hS
         refine run_sound (Tab.ok_Γ _) 100 _ _ _ _ ?_
         simp (maxSteps:=9999999) only [EV0,zy,zx,zw,zv,zu,zq,zp,zj,zk,leT,zg,rvC,zZ,zY,zX,zW,↓zV,↓zU,reduceCtorEq,zQ,yz,yY,yy,yx,yw,yv,yu,yq,yX,yj,yk,yg,yW,yV,yU,yZ,yQ,xz,TRr,fullG,firstG,linksG,backG,rdscG,get2G,put2G,memF_set H,memF_app H,setM_fun H,fullM,firstM,linksM,backM,get2M,put2M,slotF,slot_eta,cap_eta,bne,Slot.cl,Cap.cl,← hslz,hp0,setM_len,put,fillP,sub,EVt,hx0,h1]
         refine fin_of (v:=.s (.i .i64 0)) (ls:=[]) (h:=setM h a b (((m'.fstX.pX x slotZ).lkX p0 q0).bkX p0 q0)) rfl ?_ ?_
         ·exact drop_i (by simp (maxSteps:=9999999) only [EV0,zy,zx,zw,zv,zu,zq,zp,zj,zk,leT,zg,rvC,zZ,zY,zX,zW,↓zV,↓zU,reduceCtorEq,zQ,yz,yY,yy,yx,yw,yv,yu,yq,yX,yj,yk,yg,yW,yV,yU,yZ,yQ,xz]) (hcm _) (Nat.le_of_eq (hlm _).symm)
         ·simp (maxSteps:=9999999) only [EV0,zy,zx,zw,zv,zu,zq,zp,zj,zk,leT,zg,rvC,zZ,zY,zX,zW,↓zV,↓zU,reduceCtorEq,zQ,yz,yY,yy,yx,yw,yv,yu,yq,yX,yj,yk,yg,yW,yV,yU,yZ,yQ,xz]
          exact hS
        ·have hx0 : (m'.fst == x) = false:=by simpa using hx
         rw [if_neg hx] at hS
         refine run_sound (Tab.ok_Γ _) 100 _ _ _ _ ?_
         simp (maxSteps:=9999999) only [EV0,zy,zx,zw,zv,zu,zq,zp,zj,zk,leT,zg,rvC,zZ,zY,zX,zW,↓zV,↓zU,reduceCtorEq,zQ,yz,yY,yy,yx,yw,yv,yu,yq,yX,yj,yk,yg,yW,yV,yU,yZ,yQ,xz,TRr,fullG,firstG,linksG,backG,rdscG,get2G,put2G,memF_set H,memF_app H,setM_fun H,fullM,firstM,linksM,backM,get2M,put2M,slotF,slot_eta,cap_eta,bne,Slot.cl,Cap.cl,← hslz,hp0,setM_len,put,fillP,sub,EVt,hx0,h1]
         refine fin_of (v:=.s (.i .i64 0)) (ls:=[]) (h:=setM h a b ((m'.fstX.pX x slotZ).bkX p0 q0)) rfl ?_ ?_
         ·exact drop_i (by simp (maxSteps:=9999999) only [EV0,zy,zx,zw,zv,zu,zq,zp,zj,zk,leT,zg,rvC,zZ,zY,zX,zW,↓zV,↓zU,reduceCtorEq,zQ,yz,yY,yy,yx,yw,yv,yu,yq,yX,yj,yk,yg,yW,yV,yU,yZ,yQ,xz]) (hcm _) (Nat.le_of_eq (hlm _).symm)
         ·simp (maxSteps:=9999999) only [EV0,zy,zx,zw,zv,zu,zq,zp,zj,zk,leT,zg,rvC,zZ,zY,zX,zW,↓zV,↓zU,reduceCtorEq,zQ,yz,yY,yy,yx,yw,yv,yu,yq,yX,yj,yk,yg,yW,yV,yU,yZ,yQ,xz]
          exact hS
       ·have hp0 : (p0 == 0) = false:=by simpa using hp
        rw [if_neg hp] at hS
        refine run_sound (Tab.ok_Γ _) 100 _ _ _ _ ?_
        simp (maxSteps:=9999999) only [EV0,zy,zx,zw,zv,zu,zq,zp,zj,zk,leT,zg,rvC,zZ,zY,zX,zW,↓zV,↓zU,reduceCtorEq,zQ,yz,yY,yy,yx,yw,yv,yu,yq,yX,yj,yk,yg,yW,yV,yU,yZ,yQ,xz,TRr,fullG,firstG,linksG,backG,rdscG,get2G,put2G,memF_set H,memF_app H,setM_fun H,fullM,firstM,linksM,backM,get2M,put2M,slotF,slot_eta,cap_eta,bne,Slot.cl,Cap.cl,← hslz,hp0,setM_len,put,fillP,sub,EVt,h1]
        refine fin_of (v:=.s (.i .i64 0)) (ls:=[]) (h:=setM h a b (((m'.pX x slotZ).lkX p0 q0).bkX p0 q0)) rfl ?_ ?_
        ·exact drop_i (by simp (maxSteps:=9999999) only [EV0,zy,zx,zw,zv,zu,zq,zp,zj,zk,leT,zg,rvC,zZ,zY,zX,zW,↓zV,↓zU,reduceCtorEq,zQ,yz,yY,yy,yx,yw,yv,yu,yq,yX,yj,yk,yg,yW,yV,yU,yZ,yQ,xz]) (hcm _) (Nat.le_of_eq (hlm _).symm)
        ·simp (maxSteps:=9999999) only [EV0,zy,zx,zw,zv,zu,zq,zp,zj,zk,leT,zg,rvC,zZ,zY,zX,zW,↓zV,↓zU,reduceCtorEq,zQ,yz,yY,yy,yx,yw,yv,yu,yq,yX,yj,yk,yg,yW,yV,yU,yZ,yQ,xz]
         exact hS
  ·have hf' : (m.fE x == 0) = false:=by simpa using hf
   simp only [hf,if_false] at hS
   simp (maxSteps:=9999999) only [EV0,zy,zx,zw,zv,zu,zq,zp,zj,zk,leT,zg,rvC,zZ,zY,zX,zW,↓zV,↓zU,reduceCtorEq,zQ,yz,yY,yy,yx,yw,yv,yu,yq,yX,yj,yk,yg,yW,yV,yU,yZ,yQ,xz,df57,TRr,fullG,memF_eq H,memF_set H,fullM,hs,hf',hf,bne,Slot.cl,Cap.cl,put,fillP,sub,EVt]
   refine fin_of (v:=.s (.i .i64 (m.fE x))) (ls:=[]) (h:=setM h a b (m.gX x)) rfl ?_ ?_
   ·exact Wk.keep 0 rfl rfl (by simp (maxSteps:=9999999) only [EV0,zy,zx,zw,zv,zu,zq,zp,zj,zk,leT,zg,rvC,zZ,zY,zX,zW,↓zV,↓zU,reduceCtorEq,zQ,yz,yY,yy,yx,yw,yv,yu,yq,yX,yj,yk,yg,yW,yV,yU,yZ,yQ,xz]) (by rfl) (by rfl)
   ·simp (maxSteps:=9999999) only [EV0,zy,zx,zw,zv,zu,zq,zp,zj,zk,leT,zg,rvC,zZ,zY,zX,zW,↓zV,↓zU,reduceCtorEq,zQ,yz,yY,yy,yx,yw,yv,yu,yq,yX,yj,yk,yg,yW,yV,yU,yZ,yQ,xz]
    exact hS
 ·exact hS.elim
end Go.Proofs.YtcdfofeolgbnbaaGreat

