/- Law 12: laid as a child; a cap set. -/
import Derived.Test.YtcdfofeolgbnbaaGreatZ13
import Derived.Test.YtcdfofeolgbnbaaGreatZ28
import Derived.Test.YtcdfofeolgbnbaaGreatZ21
import Derived.Test.YtcdfofeolgbnbaaGreatZ26
/- Law 12: places,the world of two memories,what an act does. -/
namespace Go.Proofs.YtcdfofeolgbnbaaGreat
open Go.D
open Nat (reduceAdd reducePow reduceMul reduceSub reduceLeDiff reduceLT reduceEqDiff)
open Int (reduceNeg reduceLE reduceEq reduceNe reduceToNat)
open Go.D renaming istep → zy,pickR → zx,bin1R → zw,un1R → zv,eqS → zu,eq1 → zq,cmpS → zp,cmp1 → zj,isNil → zk,shows → zg,result → zZ,q_cond_t → zV,q_cond_f → zU
open List renaming set → zY,replicate → zX
open Option renaming map → zW
open Nat renaming reduceAdd → zQ,reducePow → yz,reduceMul → yy,reduceSub → yx,reduceLeDiff → yw,reduceLT → yv,reduceEqDiff → yu
open Int renaming reduceNeg → yq,reduceLE → yj,reduceEq → yk,reduceNe → yg,reduceToNat → yZ,reducePow → yY,reduceLT → yX,reduceAdd → yW,reduceSub → yV,reduceMul → yU,reduceBEq → yQ,reduceBNe → xz
set_option linter.all false
set_option maxRecDepth 100000
set_option maxHeartbeats 8000000

def pickV (c n : Int) : Int:=(if c < 0 then IntKind.i64.wrap (0 - IntKind.i64.wrap (c + 1)) else c).tmod n
def pickG : List V → List Blk → Res
 | [.s (.i .i64 c), .s (.i .i64 n)],h => .ob (n ≠ 0) (.ok (.s (.i .i64 (pickV c n))) [] h)
 | _,_ => .bad
theorem pick_snd : Snd Tryz.prog 18 (FSpec.of pickG):=snd_run (noT_snd _) mixed Tryz.func18 dc18 100 fun args h K hc hS => by
 unfold pickG at hS
 split at hS
 ·rename_i c n
  obtain ⟨hn,hS⟩:=hS
  have hn : ¬ n = 0:=hn
  simp only [spec_ok,pickV] at hS
  by_cases c1 : c < 0
  ·simp only [c1,if_true] at hS
   simp (maxSteps:=9999999) only [EV0,zy,zx,zw,zv,zu,zq,zp,zj,zk,leT,zg,rvC,zZ,zY,zX,zW,↓zV,↓zU,reduceCtorEq,zQ,yz,yY,yy,yx,yw,yv,yu,yq,yX,yj,yk,yg,yW,yV,yU,yZ,yQ,xz,df18,c1,hn]
   exact hS
  ·simp only [c1,if_false] at hS
   simp (maxSteps:=9999999) only [EV0,zy,zx,zw,zv,zu,zq,zp,zj,zk,leT,zg,rvC,zZ,zY,zX,zW,↓zV,↓zU,reduceCtorEq,zQ,yz,yY,yy,yx,yw,yv,yu,yq,yX,yj,yk,yg,yW,yV,yU,yZ,yQ,xz,df18,c1,hn]
   exact hS
 ·exact hS.elim
def plcV (n : Int) : Int:=if pickV n 44 < 32 then IntKind.i64.wrap (2048 + IntKind.i64.wrap (4 * pickV n 44)) else if pickV n 44 < 40 then IntKind.i64.wrap (3072 + IntKind.i64.wrap (4 * IntKind.i64.wrap (pickV n 44 - 32)))
 else IntKind.i64.wrap (3104 + IntKind.i64.wrap (4 * IntKind.i64.wrap (pickV n 44 - 40)))
def plcG : List V → List Blk → Res
 | [.s (.i .i64 n)],h => .ok (.s (.i .i64 (plcV n))) [] h
 | _,_ => .bad
noncomputable def TPk : Tab:=addT 18 pickG (noT)
theorem TPk_snd : TPk.Snd Tryz.prog:=addT_snd ok18 pick_snd ((noT_snd _))
theorem plc_snd : Snd Tryz.prog 39 (FSpec.of plcG):=snd_run TPk_snd mixed Tryz.func39 dc39 100 fun args h K hc hS => by
 unfold plcG at hS
 split at hS
 ·rename_i n
  simp only [spec_ok,plcV] at hS
  by_cases c1 : pickV n 44 < 32
  ·simp only [c1,if_true] at hS
   simp (maxSteps:=9999999) only [EV0,zy,zx,zw,zv,zu,zq,zp,zj,zk,leT,zg,rvC,zZ,zY,zX,zW,↓zV,↓zU,reduceCtorEq,zQ,yz,yY,yy,yx,yw,yv,yu,yq,yX,yj,yk,yg,yW,yV,yU,yZ,yQ,xz,df39,TPk,pickG,c1]
   exact hS
  ·by_cases c2 : pickV n 44 < 40
   ·simp only [c1,c2,if_true,if_false] at hS
    simp (maxSteps:=9999999) only [EV0,zy,zx,zw,zv,zu,zq,zp,zj,zk,leT,zg,rvC,zZ,zY,zX,zW,↓zV,↓zU,reduceCtorEq,zQ,yz,yY,yy,yx,yw,yv,yu,yq,yX,yj,yk,yg,yW,yV,yU,yZ,yQ,xz,df39,TPk,pickG,c1,c2]
    exact hS
   ·simp only [c1,c2,if_false] at hS
    simp (maxSteps:=9999999) only [EV0,zy,zx,zw,zv,zu,zq,zp,zj,zk,leT,zg,rvC,zZ,zY,zX,zW,↓zV,↓zU,reduceCtorEq,zQ,yz,yY,yy,yx,yw,yv,yu,yq,yX,yj,yk,yg,yW,yV,yU,yZ,yQ,xz,df39,TPk,pickG,c1,c2]
    exact hS
 ·exact hS.elim

/-! ### a world -/
def wB (n : Nat) : Blk:=⟨.rw,[.p (.g (n + 2)) 0, .p (.g n) 0],2⟩
def wH (h : List Blk) (m r : M) (X : List Blk) : List Blk:=memH (memH h r) m ++ (wB h.length :: X)
theorem wH_at (h : List Blk) (m r : M) (X : List Blk) : (wH h m r X)[h.length + 4]? = some (wB h.length):=by
 unfold wH
 rw [List.getElem?_append_right (by simp only [memH_len]; omega)]
 simp only [memH_len,show h.length + 4 - (h.length + 2 + 2) = 0 by omega,List.getElem?_cons_zero]
theorem wH_ism (h : List Blk) (m r : M) (X : List Blk) : IsMem (wH h m r X) (h.length + 2) (h.length + 3) m:=(memH_is2 h r m).app
theorem wH_isr (h : List Blk) (m r : M) (X : List Blk) : IsMem (wH h m r X) h.length (h.length + 1) r:=(memH_is1 h r m).app
theorem wH_m {f : Nat → M → (M → List Blk) → List V → Res} {h X : List Blk} {m r : M} {rest : List V} : memF f (.s (.p (.g (h.length + 2)) 0) :: rest) (wH h m r X) = f (h.length + 3) m (fun m => wH h m r X) rest:=memF_new2A
theorem wH_r {f : Nat → M → (M → List Blk) → List V → Res} {h X : List Blk} {m r : M} {rest : List V} : memF f (.s (.p (.g h.length) 0) :: rest) (wH h m r X) = f (h.length + 1) r (fun r => wH h m r X) rest:=memF_new1A
theorem wH_inj {h h' : List Blk} {m m' r r' : M} {X X' : List Blk} (e : wH h m r X = wH h' m' r' X') (hl : h.length = h'.length) : h = h' ∧ m = m' ∧ r = r' ∧ X = X':=by
 have e1 : h = h':=by
  have:=congrArg (List.take h.length) e
  simp only [wH,memH,List.append_assoc] at this
  rw [List.take_left,hl,List.take_left] at this
  exact this
 subst e1
 have a1:=wH_ism h m r X
 have a2:=wH_ism h m' r' X'
 have b1:=wH_isr h m r X
 have b2:=wH_isr h m' r' X'
 rw [← e] at a2 b2
 have hm : m = m':=by
  have x1:=a1.ha.symm.trans a2.ha
  have x2:=a1.hb.symm.trans a2.hb
  simp only [Option.some.injEq] at x1 x2
  exact M.ext' (MW_inj x2) (MB_inj x1)
 have hr : r = r':=by
  have x1:=b1.ha.symm.trans b2.ha
  have x2:=b1.hb.symm.trans b2.hb
  simp only [Option.some.injEq] at x1 x2
  exact M.ext' (MW_inj x2) (MB_inj x1)
 subst hm
 subst hr
 refine ⟨rfl,rfl,rfl, ?_⟩
 unfold wH at e
 have:=List.append_cancel_left e
 simpa using this
open Classical in
noncomputable def wldOf (H : List Blk) (w : Nat) : Option (List Blk × M × M × List Blk):=if hx : ∃ x : List Blk × M × M × List Blk,H = wH x.1 x.2.1 x.2.2.1 x.2.2.2 ∧ w = x.1.length + 4 then some (Classical.choose hx) else none
theorem wldOf_eq (h : List Blk) (m r : M) (X : List Blk) : wldOf (wH h m r X) (h.length + 4) = some (h,m,r,X):=by
 have hx : ∃ x : List Blk × M × M × List Blk,wH h m r X = wH x.1 x.2.1 x.2.2.1 x.2.2.2 ∧ h.length + 4 = x.1.length + 4:=⟨(h,m,r,X),rfl,rfl⟩
 unfold wldOf
 rw [dif_pos hx]
 have:=Classical.choose_spec hx
 obtain ⟨e1,e2⟩:=this
 obtain ⟨a,b,c,d⟩:=wH_inj e1 (by omega)
 generalize Classical.choose hx = y at a b c d
 obtain ⟨y1,y2,y3,y4⟩:=y
 simp only at a b c d
 subst a; subst b; subst c; subst d; rfl
theorem wldOf_some {H h X : List Blk} {w : Nat} {m r : M} (e : wldOf H w = some (h,m,r,X)) : H = wH h m r X ∧ w = h.length + 4:=by
 unfold wldOf at e
 split at e
 ·rename_i hx
  have:=Classical.choose_spec hx
  rw [Option.some.injEq] at e
  rw [e] at this
  exact this
 ·cases e
noncomputable def wldF (f : M → M → (M → M → List Blk) → List V → Res) : List V → List Blk → Res
 | .s (.p (.g w) 0) :: rest,H => match wldOf H w with
  | some (h,m,r,X) => f m r (fun m r => wH h m r X) rest
  | none => .bad
 | _,_ => .bad
theorem wldF_spec {f : M → M → (M → M → List Blk) → List V → Res} {args : List V} {H : List Blk} {K : V → List Blk → Prop} (hS : (wldF f args H).spec K) :
  ∃ h m r X rest,args = .s (.p (.g (h.length + 4)) 0) :: rest ∧ H = wH h m r X ∧ (f m r (fun m r => wH h m r X) rest).spec K:=by
 unfold wldF at hS
 split at hS
 ·split at hS
  ·rename_i e
   obtain ⟨e1,e2⟩:=wldOf_some e
   subst e2
   exact ⟨_,_,_,_,_,rfl,e1,hS⟩
  ·exact hS.elim
 ·exact hS.elim
theorem wldF_eq {f : M → M → (M → M → List Blk) → List V → Res} {h X : List Blk} {m r : M} {rest : List V} : wldF f (.s (.p (.g (h.length + 4)) 0) :: rest) (wH h m r X) = f m r (fun m r => wH h m r X) rest:=by
 simp only [wldF,wldOf_eq]

/-! ### an act -/
structure Act where
 wh : Int
 a : Int
 b : Int
 c : Int
 rg : Int
 bd : Int
 g : Int
 n : Int
def Act.cl (x : Act) : List S:=[.i .i64 x.wh, .i .i64 x.a, .i .i64 x.b, .i .i64 x.c, .i .i64 x.rg, .i .i64 x.bd, .i .i64 x.g, .i .i64 x.n]
def actF (f : Act → Res) : List V → Res
 | [.agg [.i .i64 a, .i .i64 b, .i .i64 c, .i .i64 d, .i .i64 e, .i .i64 g, .i .i64 i, .i .i64 j]] => f ⟨a,b,c,d,e,g,i,j⟩
 | _ => .bad
theorem actF_spec {f : Act → Res} {args : List V} {K : V → List Blk → Prop} (h : (actF f args).spec K) : ∃ x : Act,args = [.agg x.cl] ∧ (f x).spec K:=by
 unfold actF at h
 split at h
 ·exact ⟨_,rfl,h⟩
 ·exact h.elim
def M.act (m : M) (x : Act) : Int × M :=
 if x.wh = 1 then (m.coE (plcV x.a) (plcV x.b),m.cpX M.enX M.layX (plcV x.a) (plcV x.b) x.rg)
 else if x.wh = 2 then (m.miE (plcV x.a) (plcV x.b) x.rg x.bd x.g x.n,m.miX M.enX M.layX (plcV x.a) (plcV x.b) x.rg x.bd x.g x.n)
 else if x.wh = 3 then (m.moE (plcV x.a) (plcV x.b),m.mvX M.enX M.mov (plcV x.a) (plcV x.b))
 else if x.wh = 4 then (m.muE (plcV x.a) (plcV x.b) x.g x.n,m.muX M.enX M.mov (plcV x.a) (plcV x.b) x.g x.n)
 else if x.wh = 5 then (m.roE (plcV x.a) (plcV x.b) (plcV x.c),m.roX (plcV x.a) (plcV x.b) (plcV x.c))
 else (0,m)
def M.ract (m : M) (x : Act) : Int × M :=
 if x.wh = 1 then (m.coE (plcV x.a) (plcV x.b),m.cpX M.renX M.rlayX (plcV x.a) (plcV x.b) x.rg)
 else if x.wh = 2 then (m.miE (plcV x.a) (plcV x.b) x.rg x.bd x.g x.n,m.miX M.renX M.rlayX (plcV x.a) (plcV x.b) x.rg x.bd x.g x.n)
 else if x.wh = 3 then (m.moE (plcV x.a) (plcV x.b),m.mvX M.renX M.rmov (plcV x.a) (plcV x.b))
 else if x.wh = 4 then (m.muE (plcV x.a) (plcV x.b) x.g x.n,m.muX M.renX M.rmov (plcV x.a) (plcV x.b) x.g x.n)
 else if x.wh = 5 then (m.roE (plcV x.a) (plcV x.b) (plcV x.c),m.rroX (plcV x.a) (plcV x.b) (plcV x.c))
 else (0,m)
def doesM (m r : M) (st : M → M → List Blk) : List V → Res:=actF fun x => .ok (.s (.b ((m.act x).1 == (r.ract x).1))) [] (st (m.act x).2 (r.ract x).2)
noncomputable def doesG:=wldF doesM
noncomputable def TDo : Tab:=addT 39 plcG (addT 40 cp9G (addT 104 rcp9G (addT 102 mi9G (addT 105 rmi9G (addT 103 mv9G (addT 106 rmv9G (addT 107 mu9G (addT 108 rmu9G (addT 109 ro9G (addT 110 rro9G (noT)))))))))))
theorem TDo_snd : TDo.Snd Tryz.prog:=addT_snd ok39 plc_snd (addT_snd ok40 cp9_snd (addT_snd ok104 rcp9_snd (addT_snd ok102 mi9_snd (addT_snd ok105 rmi9_snd (addT_snd ok103 mv9_snd (addT_snd ok106 rmv9_snd (addT_snd ok107 mu9_snd (addT_snd ok108 rmu9_snd (addT_snd ok109 ro9_snd (addT_snd ok110 rro9_snd ((noT_snd _))))))))))))
theorem does_snd : Snd Tryz.prog 38 (FSpec.of doesG):=snd_run TDo_snd mixed Tryz.func38 dc38 300 fun args H K hc hS => by
 obtain ⟨h,m,r,X,rest,rfl,rfl,hS1⟩:=wldF_spec hS
 clear hS
 obtain ⟨x,rfl,hS⟩:=actF_spec hS1
 clear hS1
 simp only [spec_ok,M.act,M.ract] at hS
 have hw:=wH_at h m r X
 have hw':=fun m' => wH_at h m' r X
 have hB : ∀ m' : M,(wH h m' r X)[h.length + 4]? = some ⟨.rw,[.p (.g (h.length + 2)) 0, .p (.g h.length) 0],2⟩:=fun m' => wH_at h m' r X
 by_cases k1 : x.wh = 1
 ·have k : (x.wh == 1) = true:=by simpa using k1
  rw [if_pos k1,if_pos k1] at hS
  simp (maxSteps:=9999999) only [EV0,zy,zx,zw,zv,zu,zq,zp,zj,zk,leT,zg,rvC,zZ,zY,zX,zW,↓zV,↓zU,reduceCtorEq,zQ,yz,yY,yy,yx,yw,yv,yu,yq,yX,yj,yk,yg,yW,yV,yU,yZ,yQ,xz,df38,TDo,plcG,Act.cl,hB,cp9G,rcp9G,cp9M,wH_m,wH_r,k,sub,put,fillP,EVt]
  exact hS
 have q1 : (x.wh == 1) = false:=by simpa using k1
 rw [if_neg k1,if_neg k1] at hS
 by_cases k2 : x.wh = 2
 ·have k : (x.wh == 2) = true:=by simpa using k2
  rw [if_pos k2,if_pos k2] at hS
  simp (maxSteps:=9999999) only [EV0,zy,zx,zw,zv,zu,zq,zp,zj,zk,leT,zg,rvC,zZ,zY,zX,zW,↓zV,↓zU,reduceCtorEq,zQ,yz,yY,yy,yx,yw,yv,yu,yq,yX,yj,yk,yg,yW,yV,yU,yZ,yQ,xz,df38,TDo,plcG,Act.cl,hB,mi9G,rmi9G,mi9M,wH_m,wH_r,q1,k,sub,put,fillP,EVt]
  exact hS
 have q2 : (x.wh == 2) = false:=by simpa using k2
 rw [if_neg k2,if_neg k2] at hS
 by_cases k3 : x.wh = 3
 ·have k : (x.wh == 3) = true:=by simpa using k3
  rw [if_pos k3,if_pos k3] at hS
  simp (maxSteps:=9999999) only [EV0,zy,zx,zw,zv,zu,zq,zp,zj,zk,leT,zg,rvC,zZ,zY,zX,zW,↓zV,↓zU,reduceCtorEq,zQ,yz,yY,yy,yx,yw,yv,yu,yq,yX,yj,yk,yg,yW,yV,yU,yZ,yQ,xz,df38,TDo,plcG,Act.cl,hB,mv9G,rmv9G,mv9M,wH_m,wH_r,q1,q2,k,sub,put,fillP,EVt]
  exact hS
 have q3 : (x.wh == 3) = false:=by simpa using k3
 rw [if_neg k3,if_neg k3] at hS
 by_cases k4 : x.wh = 4
 ·have k : (x.wh == 4) = true:=by simpa using k4
  rw [if_pos k4,if_pos k4] at hS
  simp (maxSteps:=9999999) only [EV0,zy,zx,zw,zv,zu,zq,zp,zj,zk,leT,zg,rvC,zZ,zY,zX,zW,↓zV,↓zU,reduceCtorEq,zQ,yz,yY,yy,yx,yw,yv,yu,yq,yX,yj,yk,yg,yW,yV,yU,yZ,yQ,xz,df38,TDo,plcG,Act.cl,hB,mu9G,rmu9G,mu9M,wH_m,wH_r,q1,q2,q3,k,sub,put,fillP,EVt]
  exact hS
 have q4 : (x.wh == 4) = false:=by simpa using k4
 rw [if_neg k4,if_neg k4] at hS
 by_cases k5 : x.wh = 5
 ·have k : (x.wh == 5) = true:=by simpa using k5
  rw [if_pos k5,if_pos k5] at hS
  simp (maxSteps:=9999999) only [EV0,zy,zx,zw,zv,zu,zq,zp,zj,zk,leT,zg,rvC,zZ,zY,zX,zW,↓zV,↓zU,reduceCtorEq,zQ,yz,yY,yy,yx,yw,yv,yu,yq,yX,yj,yk,yg,yW,yV,yU,yZ,yQ,xz,df38,TDo,plcG,Act.cl,hB,ro9G,rro9G,ro9M,rro9M,wH_m,wH_r,q1,q2,q3,q4,k,sub,put,fillP,EVt]
  exact hS
 have q5 : (x.wh == 5) = false:=by simpa using k5
 rw [if_neg k5,if_neg k5] at hS
 simp (maxSteps:=9999999) only [EV0,zy,zx,zw,zv,zu,zq,zp,zj,zk,leT,zg,rvC,zZ,zY,zX,zW,↓zV,↓zU,reduceCtorEq,zQ,yz,yY,yy,yx,yw,yv,yu,yq,yX,yj,yk,yg,yW,yV,yU,yZ,yQ,xz,df38,TDo,plcG,Act.cl,hB,q1,q2,q3,q4,q5,sub,put,fillP,EVt]
 exact hS
end Go.Proofs.YtcdfofeolgbnbaaGreat

/- Law 12: the memories that acts make of the plan's: in order,whatever is done; code and document make the same words. -/
namespace Go.Proofs.YtcdfofeolgbnbaaGreat
open Go.D
set_option linter.all false
set_option maxRecDepth 100000
set_option maxHeartbeats 4000000

/-! ### the places -/
def PL : List Int:=(List.range 32).map (fun k : Nat => 2048 + 4 * (k : Int)) ++ ((List.range 8).map (fun k : Nat => 3072 + 4 * (k : Int)) ++ (List.range 4).map fun k : Nat => 3104 + 4 * (k : Int))
def PB : List Int:=32 :: 36 :: 40 :: 44 :: 1024 :: 1088 :: 1152 :: 1216 :: PL
def placeN (k : Nat) : Int:=if k < 32 then 2048 + 4 * (k : Int) else if k < 40 then 3072 + 4 * ((k : Int) - 32) else 3104 + 4 * ((k : Int) - 40)
theorem placeN_PL : ∀ k,k < 44 → placeN k ∈ PL:=by decide
theorem PL_PB {x : Int} (h : x ∈ PL) : x ∈ PB:=by unfold PB; simp [h]
theorem pick_lt {c : Int} (hc : -9223372036854775808 ≤ c ∧ c < 9223372036854775808) : 0 ≤ pickV c 44 ∧ pickV c 44 < 44:=by
 unfold pickV
 have : 0 ≤ (if c < 0 then IntKind.i64.wrap (0 - IntKind.i64.wrap (c + 1)) else c):=by
  split
  ·rw [wrap64 (n:=c + 1) (by omega) (by omega),wrap64 (by omega) (by omega)]; omega
  ·omega
 rw [Int.tmod_eq_emod_of_nonneg this]
 omega
theorem plc_is {c : Int} (hc : -9223372036854775808 ≤ c ∧ c < 9223372036854775808) : ∃ k : Nat,k < 44 ∧ plcV c = placeN k:=by
 obtain ⟨h1,h2⟩:=pick_lt hc
 refine ⟨(pickV c 44).toNat,by omega, ?_⟩
 have e : ((pickV c 44).toNat : Int) = pickV c 44:=by omega
 unfold plcV placeN
 generalize pickV c 44 = q at *
 rw [e]
 by_cases c1 : q < 32
 ·have c2 : q.toNat < 32:=by omega
  rw [if_pos c1,if_pos c2,wrap64 (n:=4 * q) (by omega) (by omega),wrap64 (by omega) (by omega)]
 ·have c2 : ¬ q.toNat < 32:=by omega
  rw [if_neg c1,if_neg c2]
  by_cases c3 : q < 40
  ·have c4 : q.toNat < 40:=by omega
   rw [if_pos c3,if_pos c4,wrap64 (n:=q - 32) (by omega) (by omega),wrap64 (n:=4 * (q - 32)) (by omega) (by omega),wrap64 (by omega) (by omega)]
  ·have c4 : ¬ q.toNat < 40:=by omega
   rw [if_neg c3,if_neg c4,wrap64 (n:=q - 40) (by omega) (by omega),wrap64 (n:=4 * (q - 40)) (by omega) (by omega),wrap64 (by omega) (by omega)]
theorem plc_PL {c : Int} (hc : -9223372036854775808 ≤ c ∧ c < 9223372036854775808) : plcV c ∈ PL:=by
 obtain ⟨k,h1,h2⟩:=plc_is hc
 rw [h2]; exact placeN_PL k h1

/-! ### what stays -/
structure DI (m : M) (L : List Int) : Prop where
 inv : m.Inv (· ∈ PB) L
 sub : ∀ x,x ∈ L → x ∈ PB
 z : ∀ x,x ∈ PB → x ∉ L → m.gV x = slotZ
 dep : ∀ (i : Nat) (x : Int),L[i]? = some x → (m.gV x).depth ≤ i
 len : m.w.length = 8192
theorem DI.of_w {m m' : M} {L : List Int} (D : DI m L) (e : m'.w = m.w) : DI m' L :=
 ⟨D.inv.of_w e,D.sub,fun x h1 h2 => by rw [gV_w e]; exact D.z x h1 h2,fun i x h => by rw [gV_w e]; exact D.dep i x h,by rw [e]; exact D.len⟩
theorem DI.dep_lt {m : M} {L : List Int} (D : DI m L) {x : Int} (h : x ∈ L) : (m.gV x).depth ≠ 65535:=by
 obtain ⟨i,hi⟩:=List.getElem?_of_mem h
 have h1:=D.dep i x hi
 have h2:=(List.getElem?_eq_some_iff.1 hi).1
 have h3:=len_sub D.inv.nd D.sub
 have h4 : PB.length = 52:=by decide
 omega
theorem DI.gE {m : M} {L : List Int} (D : DI m L) {x : Int} (h : x ∈ PB) : m.gE x = 0:=(D.inv.out x h).1
theorem DI.em {m : M} {L : List Int} (D : DI m L) {x : Int} (h : x ∈ PB) : m.emB x = true ↔ x ∉ L:=by
 unfold M.emB
 constructor
 ·intro e hx
  exact (D.inv.gE hx).2 (by simpa using e)
 ·intro hx
  rw [D.z x h hx]; rfl
theorem DI.emf {m : M} {L : List Int} (D : DI m L) {x : Int} (h : x ∈ PB) : m.emB x = false ↔ x ∈ L:=by
 have:=D.em h
 cases e : m.emB x with
 | true => simp only [Bool.true_eq_false,false_iff]; exact this.1 e
 | false =>
  simp only [true_iff]
  exact Decidable.not_not.1 fun h2 => by have:=this.2 h2; rw [e] at this; cases this
theorem DI.n0 {m : M} {L : List Int} (D : DI m L) {x : Int} (h : x ∈ PB) : x ≠ 0:=there_ne0 (gE_there (D.gE h)).1

structure Did (m m1 r1 : M) (C : Int → Cap) : Prop where
 w : r1.w = m1.w
 L : ∃ L,DI m1 L
 cap : ∀ x,x ≠ 0 → (m1.gV x).cap = C x
theorem Did.of_w {m m1 r1 m2 r2 : M} {C : Int → Cap} (D : Did m m1 r1 C) (e : m2.w = m1.w) (f : r2.w = r1.w) : Did m m2 r2 C:=by
 obtain ⟨L,hL⟩:=D.L
 exact ⟨f.trans (D.w.trans e.symm),⟨L,hL.of_w e⟩,fun x hx => by rw [gV_w e]; exact D.cap x hx⟩
theorem DI.same {m m1 r1 : M} {L : List Int} (D : DI m L) (e : m1.w = m.w) (f : r1.w = m.w) : Did m m1 r1 fun x => (m.gV x).cap :=
 ⟨f.trans e.symm,⟨L,D.of_w e⟩,fun x _ => by rw [gV_w e]⟩

theorem DI.mov {m r : M} {L : List Int} (D : DI m L) (hr : r.w = m.w) {f t : Int} (hf : f ∈ L) (htP : t ∈ PB) (htL : t ∉ L) :
  (m.mov f t).1 = 0 ∧ (r.rmov f t).1 = 0 ∧ (r.rmov f t).2.w = (m.mov f t).2.w ∧ m.To (m.mov f t).2 (m.movV f t) (m.movF f t) ∧ DI (m.mov f t).2 (L.map (rho f t)) ∧ ∀ x,x ≠ 0 → ((m.mov f t).2.gV x).cap = if x = f then capZ else if x = t then (m.gV f).cap else (m.gV x).cap:=by
 have ht:=D.gE htP
 have hz:=D.z t htP htL
 obtain ⟨e1,T1⟩:=D.inv.mov_to hf ht hz
 have I2:=D.inv.of_w hr
 obtain ⟨e2,T2⟩:=I2.rmov_to hf (by rw [gE_w hr]; exact ht) (by rw [gV_w hr]; exact hz)
 have hft : f ≠ t:=fun e => htL (e ▸ hf)
 have hVf : ∀ x,(m.movV f t x).cap = if x = f then capZ else if x = t then (m.gV f).cap else (m.gV x).cap:=fun x => by
  unfold M.movV
  rw [jnV_cap]
  by_cases h1 : x = f
  ·simp only [h1,if_true]; rfl
  ·by_cases h2 : x = t
   ·simp only [if_neg h1,if_pos h2]
   ·simp only [if_neg h1,if_neg h2]
 have hVd : ∀ x,(m.movV f t x).depth = if x = f then 0 else if x = t then (m.gV f).depth else (m.gV x).depth:=fun x => by
  unfold M.movV
  rw [jnV_depth]
  by_cases h1 : x = f
  ·simp only [h1,if_true]; rfl
  ·by_cases h2 : x = t
   ·simp only [if_neg h1,if_pos h2]
   ·simp only [if_neg h1,if_neg h2]
 have hI:=D.inv.mov_inv hf ht hz T1
 refine ⟨e1,e2, ?_,T1,⟨hI, ?_, ?_, ?_,T1.fr.len.trans D.len⟩,fun x hx => by rw [T1.V x hx]; exact hVf x⟩
 ·refine (T1.det T2 hr (fun x _ => ?_) ?_ D.inv.len.2 D.inv.two).symm
  ·simp only [M.movV,gV_fun hr]
  ·simp only [M.movF,gV_fun hr,fst_w hr]
 ·intro x hx
  obtain ⟨y,hy,rfl⟩:=List.mem_map.1 hx
  unfold rho; split
  ·exact htP
  ·exact D.sub y hy
 ·intro x hx hxL
  have x0:=D.n0 hx
  rw [T1.V x x0]
  have hxt : x ≠ t:=fun e => hxL (by rw [e]; exact List.mem_map.2 ⟨f,hf,by simp [rho]⟩)
  have hg:=hI.out x hx
  have:=hg.2 hxL
  rw [T1.V x x0] at this
  obtain ⟨k1,k2,k3⟩:=this
  refine Slot.ext4 ?_ k1 k2 k3
  rw [hVf]
  by_cases h1 : x = f
  ·rw [if_pos h1]; rfl
  ·rw [if_neg h1,if_neg hxt,D.z x hx fun h2 => hxL (List.mem_map.2 ⟨x,h2,by simp [rho,h1]⟩)]
 ·intro i x hx
  rw [List.getElem?_map] at hx
  cases hL : L[i]? with
  | none => rw [hL] at hx; cases hx
  | some y =>
   rw [hL] at hx
   simp only [Option.map_some,Option.some.injEq] at hx
   have hy:=List.mem_of_getElem? hL
   have d:=D.dep i y hL
   have hyt : y ≠ t:=fun e => htL (e ▸ hy)
   subst hx
   have r0 : rho f t y ≠ 0:=by
    unfold rho; split
    ·exact D.n0 htP
    ·exact fun e => D.inv.no0 (e ▸ hy)
   rw [T1.V _ r0,hVd]
   unfold rho
   by_cases h1 : y = f
   ·rw [if_pos h1,if_neg (Ne.symm hft),if_pos rfl,← h1]; exact d
   ·rw [if_neg h1,if_neg h1,if_neg hyt]; exact d
theorem DI.swp {m r : M} {L : List Int} (D : DI m L) (hr : r.w = m.w) {a b : Int} (ha : a ∈ L) (hb : b ∈ L) (hne : a ≠ b) :
  (m.swp a b).1 = 0 ∧ (r.rswp a b).1 = 0 ∧ (r.rswp a b).2.w = (m.swp a b).2.w ∧ m.To (m.swp a b).2 (m.swV a b) (m.swF a b) ∧ DI (m.swp a b).2 (L.map (oth a b)) ∧ ∀ x,x ≠ 0 → ((m.swp a b).2.gV x).cap = if x = a then (m.gV b).cap else if x = b then (m.gV a).cap else (m.gV x).cap:=by
 obtain ⟨e1,T1⟩:=D.inv.sw_to ha hb hne
 have I2:=D.inv.of_w hr
 obtain ⟨e2,T2⟩:=I2.rsw_to ha hb hne
 have hVf : ∀ x,(m.swV a b x).cap = if x = a then (m.gV b).cap else if x = b then (m.gV a).cap else (m.gV x).cap:=fun x => by
  unfold M.swV; split
  ·rfl
  ·split
   ·rfl
   ·rfl
 have hVd : ∀ x,(m.swV a b x).depth = (m.gV (oth a b x)).depth:=fun x => by
  unfold M.swV
  by_cases h1 : x = a
  ·rw [if_pos h1,h1,oth_of_a]; rfl
  ·by_cases h2 : x = b
   ·rw [if_neg h1,if_pos h2,h2,oth_of_b hne]; rfl
   ·rw [if_neg h1,if_neg h2,oth_of h1 h2]
 have hI:=D.inv.sw_inv ha hb hne T1
 have om : ∀ y,y ∈ L → oth a b y ∈ L:=fun y hy => by
  by_cases h1 : y = a
  ·rw [h1,oth_of_a]; exact hb
  ·by_cases h2 : y = b
   ·rw [h2,oth_of_b hne]; exact ha
   ·rw [oth_of h1 h2]; exact hy
 refine ⟨e1,e2, ?_,T1,⟨hI, ?_, ?_, ?_,T1.fr.len.trans D.len⟩,fun x hx => by rw [T1.V x hx]; exact hVf x⟩
 ·refine (T1.det T2 hr (fun x _ => ?_) ?_ D.inv.len.2 D.inv.two).symm
  ·simp only [M.swV,gV_fun hr]
  ·simp only [M.swF,fst_w hr]
 ·intro x hx
  obtain ⟨y,hy,rfl⟩:=List.mem_map.1 hx
  exact D.sub _ (om y hy)
 ·intro x hx hxL
  have x0:=D.n0 hx
  have hxL2 : x ∉ L:=fun h => hxL (List.mem_map.2 ⟨oth a b x,om x h,oth_oth hne x⟩)
  have hxa : x ≠ a:=fun e => hxL2 (e ▸ ha)
  have hxb : x ≠ b:=fun e => hxL2 (e ▸ hb)
  have hg:=(hI.out x hx).2 hxL
  rw [T1.V x x0] at hg ⊢
  obtain ⟨k1,k2,k3⟩:=hg
  refine Slot.ext4 ?_ k1 k2 k3
  rw [hVf,if_neg hxa,if_neg hxb,D.z x hx hxL2]
 ·intro i x hx
  rw [List.getElem?_map] at hx
  cases hL : L[i]? with
  | none => rw [hL] at hx; cases hx
  | some y =>
   rw [hL] at hx
   simp only [Option.map_some,Option.some.injEq] at hx
   have hy:=List.mem_of_getElem? hL
   have d:=D.dep i y hL
   subst hx
   have r0 : oth a b y ≠ 0:=fun e => D.inv.no0 (e ▸ om y hy)
   rw [T1.V _ r0,hVd,oth_oth hne]; exact d

theorem insL_get {p a : Int} : ∀ {L : List Int} {i : Nat} {x : Int},(insL p a L)[i]? = some x → L[i]? = some x ∨ (x = a ∧ ∃ j,i = j + 1 ∧ L[j]? = some p) ∨ ∃ j,i = j + 1 ∧ L[j]? = some x
 | [],i,x,h => by simp [insL] at h
 | y :: L,i,x,h => by
  unfold insL at h
  split at h
  ·rename_i e
   match i with
   | 0 => exact .inl h
   | 1 =>
    simp only [List.getElem?_cons_succ,List.getElem?_cons_zero,Option.some.injEq] at h
    exact .inr (.inl ⟨h.symm,0,rfl,by rw [e]; rfl⟩)
   | i + 2 =>
    simp only [List.getElem?_cons_succ] at h
    exact .inr (.inr ⟨i + 1,rfl,by simpa using h⟩)
  ·match i with
   | 0 => exact .inl h
   | i + 1 =>
    simp only [List.getElem?_cons_succ] at h
    rcases insL_get h with h | ⟨h1,j,h2,h3⟩ | ⟨j,h2,h3⟩
    ·exact .inl (by simpa using h)
    ·exact .inr (.inl ⟨h1,j + 1,by omega,by simpa using h3⟩)
    ·exact .inr (.inr ⟨j + 1,by omega,by simpa using h3⟩)
theorem insL_mem {p a x : Int} : ∀ {L : List Int},x ∈ insL p a L → x = a ∨ x ∈ L
 | [],h => by simp [insL] at h
 | y :: L,h => by
  unfold insL at h
  split at h
  ·rcases List.mem_cons.1 h with e | h
   ·exact .inr (by rw [e]; exact List.mem_cons_self)
   ·rcases List.mem_cons.1 h with e | h
    ·exact .inl e
    ·exact .inr (List.mem_cons_of_mem _ h)
  ·rcases List.mem_cons.1 h with e | h
   ·exact .inr (by rw [e]; exact List.mem_cons_self)
   ·exact (insL_mem h).imp id fun h => List.mem_cons_of_mem _ h
theorem mem_insL {p a x : Int} : ∀ {L : List Int},x ∈ L → x ∈ insL p a L
 | y :: L,h => by
  unfold insL
  split
  ·rcases List.mem_cons.1 h with e | h
   ·rw [e]; exact List.mem_cons_self
   ·exact List.mem_cons_of_mem _ (List.mem_cons_of_mem _ h)
  ·rcases List.mem_cons.1 h with e | h
   ·rw [e]; exact List.mem_cons_self
   ·exact List.mem_cons_of_mem _ (mem_insL h)
theorem a_insL {p a : Int} : ∀ {L : List Int},p ∈ L → a ∈ insL p a L
 | y :: L,h => by
  unfold insL
  split
  ·simp
  ·rename_i e
   rcases List.mem_cons.1 h with h | h
   ·exact absurd h.symm e
   ·exact List.mem_cons_of_mem _ (a_insL h)

theorem pX_no {m : M} {a : Int} {s : Slot} (h : slotRB s = false) : m.pX a s = m:=by
 unfold M.pX
 rw [if_neg fun h2 => by rw [h] at h2; cases h2.2]
theorem DI.lay_no {m : M} {L : List Int} (D : DI m L) {p a : Int} (haP : a ∈ PB) (haL : a ∉ L) {c : Cap} (hr : slotRB ⟨c,0,0,0⟩ = false) : (m.layX p a c).w = m.w ∧ (m.rlayX p a c).w = m.w:=by
 have e : m.fE a = 121:=by unfold M.fE; rw [if_pos ⟨D.gE haP,by rw [D.z a haP haL]; rfl⟩]
 have e2 : ¬ m.fE a = 0:=by rw [e]; decide
 unfold M.layX M.rlayX M.ins M.rins
 rw [pX_no hr,if_neg e2,if_neg e2]
 exact ⟨gX_w _ _,gX_w _ _⟩
theorem DI.lay {m r : M} {L : List Int} (D : DI m L) (hw : r.w = m.w) {p a : Int} (hp : p = 0 ∨ p ∈ L) (haP : a ∈ PB) (haL : a ∉ L) {c : Cap} (hc : c.ty ≠ 0) (hr : slotRB ⟨c,0,0,0⟩ = true) :
  (r.rlayX p a c).w = (m.layX p a c).w ∧ DI (m.layX p a c) (insLL p a L) ∧ (∀ x,(m.layX p a c).gE x = m.gE x) ∧ (m.layX p a c).fst = m.insF p a ∧
  ∀ x,x ≠ 0 → (m.layX p a c).gV x = jnV (fun x => if x = a then ⟨c,p,m.nx p,if p = 0 then 0 else (m.gV p).depth + 1⟩ else m.gV x) p a (m.nx p) x:=by
 have hga:=D.gE haP
 have hta:=(gE_there hga).1
 have a0:=D.n0 haP
 have key : ∀ m' : M,m'.w = m.w → m.To (m'.pX a ⟨c,0,0,0⟩) (fun x => if x = a then ⟨c,0,0,0⟩ else m.gV x) m.fst:=fun m' hw' => ((M.To.refl m).of_w hw').pX hga hr
 have hI : ∀ m' : M,m'.w = m.w → (m'.pX a ⟨c,0,0,0⟩).Inv (· ∈ PB) L:=fun m' hw' => by
  refine D.inv.to (key m' hw') D.inv.nd (fun x hx => ?_) (chain_congr (fun x hx => ?_) D.inv.ch) D.inv.fst fun x hx hn => ?_
  ·have : x ≠ a:=fun e => haL (e ▸ hx)
   simp only [if_neg this]
   exact D.inv.gE hx
  ·have : x ≠ a:=fun e => haL (e ▸ hx)
   simp only [if_neg this,and_self]
  ·by_cases e : x = a
   ·simp only [e,if_true,and_self]
   ·simp only [if_neg e]
    rw [D.z x hx hn]
    exact ⟨rfl,rfl,rfl⟩
 have hV : ∀ m' : M,m'.w = m.w → ∀ x,x ≠ 0 → (m'.pX a ⟨c,0,0,0⟩).gV x = if x = a then ⟨c,0,0,0⟩ else m.gV x:=fun m' hw' x hx => (key m' hw').V x hx
 have hfE : ∀ m' : M,m'.w = m.w → (m'.pX a ⟨c,0,0,0⟩).fE a = 0:=fun m' hw' => (key m' hw').full hga (by simp only [if_true]; exact hc)
 have hp2 : ∀ m' : M,m'.w = m.w → p = 0 ∨ (p ∈ L ∧ ((m'.pX a ⟨c,0,0,0⟩).gV p).depth ≠ 65535):=fun m' hw' => hp.imp id fun h => by
  have h1 : p ≠ a:=fun e => haL (e ▸ h)
  have h0 : p ≠ 0:=fun e => D.inv.no0 (e ▸ h)
  rw [hV m' hw' p h0,if_neg h1]
  exact ⟨h,D.dep_lt h⟩
 obtain ⟨_,T1⟩:=(hI m rfl).ins_to haP (hfE m rfl) haL (hp2 m rfl)
 obtain ⟨_,T2⟩:=(hI r hw).rins_to haP (hfE r hw) haL (hp2 r hw)
 have ewa : (r.pX a ⟨c,0,0,0⟩).w = (m.pX a ⟨c,0,0,0⟩).w:=((key m rfl).det (key r hw) rfl (fun _ _ => rfl) rfl D.inv.len.2 D.inv.two).symm
 have hnx : (m.pX a ⟨c,0,0,0⟩).nx p = m.nx p:=by
  unfold M.nx
  by_cases h0 : p = 0
  ·rw [if_pos h0,if_pos h0,(key m rfl).F]
  ·have h1 : p ≠ a:=fun e => haL (e ▸ hp.resolve_left h0)
   rw [if_neg h0,if_neg h0,hV m rfl p h0,if_neg h1]
 have hVV : ∀ x,x ≠ 0 → (m.layX p a c).gV x = jnV (fun x => if x = a then ⟨c,p,m.nx p,if p = 0 then 0 else (m.gV p).depth + 1⟩ else m.gV x) p a (m.nx p) x:=fun x hx => by
  unfold M.layX
  rw [T1.V x hx]
  have e : ∀ y,y ≠ 0 → (fun x => if x = a then (m.pX a ⟨c,0,0,0⟩).insS p a else (m.pX a ⟨c,0,0,0⟩).gV x) y = (fun x => if x = a then ⟨c,p,m.nx p,if p = 0 then 0 else (m.gV p).depth + 1⟩ else m.gV x) y:=fun y hy => by
   by_cases e : y = a
   ·simp only [e,if_true,M.insS]
    rw [hV m rfl a a0,if_pos rfl,hnx]
    by_cases h0 : p = 0
    ·simp only [h0,if_true]
    ·have h1 : p ≠ a:=fun e => haL (e ▸ hp.resolve_left h0)
     rw [hV m rfl p h0,if_neg h1]
   ·simp only [if_neg e]
    rw [hV m rfl y hy,if_neg e]
  unfold M.insV
  rw [hnx]
  unfold jnV
  by_cases c1 : x = p
  ·rw [if_pos c1,if_pos c1,e p (c1 ▸ hx)]
  ·rw [if_neg c1,if_neg c1]
   by_cases c2 : x = m.nx p
   ·rw [if_pos c2,if_pos c2,e _ (c2 ▸ hx)]
   ·rw [if_neg c2,if_neg c2,e x hx]
 have hJ:=(hI m rfl).ins_inv haP (hfE m rfl) haL hp T1
 have hlen : (m.layX p a c).w.length = 8192:=by unfold M.layX; exact T1.fr.len.trans ((key m rfl).fr.len.trans D.len)
 have hd : ∀ x,x ≠ 0 → ((m.layX p a c).gV x).depth = if x = a then (if p = 0 then 0 else (m.gV p).depth + 1) else (m.gV x).depth:=fun x hx => by
  rw [hVV x hx,jnV_depth]
  by_cases e : x = a
  ·simp only [if_pos e]
  ·simp only [if_neg e]
 have hmem : ∀ x,x ∈ insLL p a L → x = a ∨ x ∈ L:=fun x hx => by
  unfold insLL at hx
  split at hx
  ·exact List.mem_cons.1 hx
  ·exact insL_mem hx
 have hmem2 : ∀ x,x ∈ L → x ∈ insLL p a L:=fun x hx => by
  unfold insLL; split
  ·exact List.mem_cons_of_mem _ hx
  ·exact mem_insL hx
 have ham : a ∈ insLL p a L:=by
  unfold insLL; split
  ·exact List.mem_cons_self
  ·rename_i h0; exact a_insL (hp.resolve_left h0)
 refine ⟨?_,⟨hJ,fun x hx => ?_,fun x hx hn => ?_,fun i x hx => ?_,hlen⟩,fun x => ?_, ?_,hVV⟩
 ·unfold M.rlayX M.layX
  refine (T1.det T2 ewa (fun x _ => ?_) ?_ (hI m rfl).len.2 (hI m rfl).two).symm
  ·simp only [M.insV,M.insS,M.nx,gV_fun ewa,fst_w ewa]
  ·simp only [M.insF,fst_w ewa]
 ·rcases hmem x hx with e | h
  ·rw [e]; exact haP
  ·exact D.sub x h
 ·have x0:=D.n0 hx
  have hxa : x ≠ a:=fun e => hn (e ▸ ham)
  have hxL : x ∉ L:=fun h => hn (hmem2 x h)
  obtain ⟨k1,k2,k3⟩:=(hJ.out x hx).2 hn
  refine Slot.ext4 ?_ k1 k2 k3
  have:=hVV x x0
  unfold M.layX at this
  have h2:=congrArg Slot.cap this
  rw [jnV_cap] at h2
  simp only [if_neg hxa,D.z x hx hxL] at h2
  exact h2
 ·have x0 : x ≠ 0:=by
   rcases hmem x (List.mem_of_getElem? hx) with e | h
   ·rw [e]; exact a0
   ·exact fun e => D.inv.no0 (e ▸ h)
  rw [hd x x0]
  unfold insLL at hx
  by_cases h0 : p = 0
  ·rw [if_pos h0] at hx
   rw [if_pos h0]
   cases i with
   | zero =>
    simp only [List.getElem?_cons_zero,Option.some.injEq] at hx
    rw [if_pos hx.symm]; exact Int.le_refl _
   | succ i =>
    simp only [List.getElem?_cons_succ] at hx
    have h1 : x ≠ a:=fun e => haL (e ▸ List.mem_of_getElem? hx)
    rw [if_neg h1]
    have:=D.dep i x hx
    omega
  ·rw [if_neg h0] at hx
   rw [if_neg h0]
   rcases insL_get hx with h | ⟨h1,j,h2,h3⟩ | ⟨j,h2,h3⟩
   ·have h1 : x ≠ a:=fun e => haL (e ▸ List.mem_of_getElem? h)
    rw [if_neg h1]; exact D.dep i x h
   ·rw [if_pos h1]
    have:=D.dep j p h3
    omega
   ·have h1 : x ≠ a:=fun e => haL (e ▸ List.mem_of_getElem? h3)
    rw [if_neg h1]
    have:=D.dep j x h3
    omega
 ·unfold M.layX
  exact (T1.E x).trans ((key m rfl).E x)
 ·unfold M.layX
  rw [T1.F]
  simp only [M.insF,(key m rfl).F]
theorem DI.lay_did {m r : M} {L : List Int} (D : DI m L) (hw : r.w = m.w) {p a : Int} (hp : p = 0 ∨ p ∈ L) (haP : a ∈ PB) (haL : a ∉ L) {c : Cap} (hc : c.ty ≠ 0) (hr : slotRB ⟨c,0,0,0⟩ = true) : Did m (m.layX p a c) (r.rlayX p a c) fun x => if x = a then c else (m.gV x).cap:=by
 obtain ⟨h1,h2,_,_,h3⟩:=D.lay hw hp haP haL hc hr
 refine ⟨h1,⟨_,h2⟩,fun x hx => ?_⟩
 rw [h3 x hx,jnV_cap]
 by_cases e : x = a
 ·simp only [if_pos e]
 ·simp only [if_neg e]
theorem DI.scX {m r : M} {L : List Int} (D : DI m L) (hw : r.w = m.w) {a : Int} (ha : a ∈ L) {c : Cap} (hc : c.ty ≠ 0) : (∃ C,Did m (m.scX a c) (r.scX a c) C ∧ ((∀ x,C x = (m.gV x).cap) ∨ (∀ x,C x = if x = a then c else (m.gV x).cap))):=by
 have hga:=(D.inv.gE ha).1
 have a0 : a ≠ 0:=fun e => D.inv.no0 (e ▸ ha)
 cases hr : slotRB ⟨c,(m.gV a).prev,(m.gV a).next,(m.gV a).depth⟩ with
 | false =>
  refine ⟨_,D.same (m1:=m.scX a c) (r1:=r.scX a c) ?_ ?_, .inl fun _ => rfl⟩
  ·unfold M.scX; rw [pX_no hr]; exact gX_w _ _
  ·unfold M.scX; rw [gV_w hw,pX_no hr]; exact (gX_w _ _).trans hw
 | true =>
  have T1 : m.To (m.scX a c) (fun x => if x = a then ⟨c,(m.gV a).prev,(m.gV a).next,(m.gV a).depth⟩ else m.gV x) m.fst:=((M.To.refl m).gX a).pX hga hr
  have T2 : m.To (r.scX a c) (fun x => if x = a then ⟨c,(m.gV a).prev,(m.gV a).next,(m.gV a).depth⟩ else m.gV x) m.fst:=by
   unfold M.scX; rw [gV_w hw]
   exact (((M.To.refl m).of_w hw).gX a).pX hga hr
  have hI:=D.inv.to T1 D.inv.nd (fun x hx => by
   by_cases e : x = a
   ·simp only [if_pos e]; exact ⟨e ▸ hga,hc⟩
   ·simp only [if_neg e]; exact D.inv.gE hx) (chain_congr (fun x hx => by
   by_cases e : x = a
   ·simp only [e,if_true,and_self]
   ·simp only [if_neg e,and_self]) D.inv.ch) D.inv.fst (fun x hx hn => by
   have e : x ≠ a:=fun e => hn (e ▸ ha)
   simp only [if_neg e]
   rw [D.z x hx hn]; exact ⟨rfl,rfl,rfl⟩)
  refine ⟨_,⟨(T1.det T2 rfl (fun _ _ => rfl) rfl D.inv.len.2 D.inv.two).symm,⟨L,hI,D.sub,fun x hx hn => ?_,fun i x hx => ?_,T1.fr.len.trans D.len⟩,fun x hx => ?_⟩, .inr fun x => rfl⟩
  ·have e : x ≠ a:=fun e => hn (e ▸ ha)
   rw [T1.V x (D.n0 hx)]
   simp only [if_neg e]
   exact D.z x hx hn
  ·have x0 : x ≠ 0:=fun e => D.inv.no0 (e ▸ List.mem_of_getElem? hx)
   rw [T1.V x x0]
   have:=D.dep i x hx
   by_cases e : x = a
   ·simp only [if_pos e,← e]; exact this
   ·simp only [if_neg e]; exact this
  ·rw [T1.V x hx]
   by_cases e : x = a
   ·simp only [if_pos e]
   ·simp only [if_neg e]
end Go.Proofs.YtcdfofeolgbnbaaGreat

