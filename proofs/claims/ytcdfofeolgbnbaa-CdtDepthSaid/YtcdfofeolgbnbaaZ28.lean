/- Lists whose links agree. -/
import Derived.Test.YtcdfofeolgbnbaaZ13
import Derived.Test.YtcdfofeolgbnbaaZ27
import Derived.Test.YtcdfofeolgbnbaaZ24
/- Law 11: a cap laid; what is promised. -/
namespace Go.Proofs.Ytcdfofeolgbnbaa
open Go.D
open Nat (reduceAdd reducePow reduceMul reduceSub reduceLeDiff reduceLT reduceEqDiff)
open Int (reduceNeg reduceLE reduceEq reduceNe reduceToNat)
open Go.D renaming istep → zy,pickR → zx,bin1R → zw,un1R → zv,eqS → zu,eq1 → zq,cmpS → zp,cmp1 → zj,isNil → zk,shows → zg,result → zZ,q_cond_t → zV,q_cond_f → zU
open List renaming set → zY,replicate → zX
open Option renaming map → zW
open Nat renaming reduceAdd → zQ,reducePow → yz,reduceMul → yy,reduceSub → yx,reduceLeDiff → yv,reduceLT → yu,reduceEqDiff → yq
open Int renaming reduceNeg → yp,reduceLE → yj,reduceEq → yk,reduceNe → yg,reduceToNat → yZ,reducePow → yY,reduceLT → yX,reduceAdd → yW,reduceSub → yV,reduceMul → yU,reduceBEq → yQ,reduceBNe → xz
set_option linter.all false
set_option maxRecDepth 100000
set_option maxHeartbeats 8000000

def hndS (n : Int) : Slot:=⟨hndV n,0,0,0⟩
def laysV (m r : M) (a n : Int) : Bool:=if r.gE a = 0 ∧ r.eB a = true then m.pE a (hndS n) == (r.gX a).pE a (hndS n) else true
def laysX (m r : M) (a n : Int) : M × M:=if r.gE a = 0 ∧ r.eB a = true then (m.pX a (hndS n),(r.gX a).pX a (hndS n)) else (m,r.gX a)
def laysM (m r : M) (st : M → M → List Blk) : List V → Res
 | [.s (.i .i64 a), .s (.i .i64 n)] => .ob (-9223372036854775808 ≤ n ∧ n < 9223372036854775808) (.ok (.s (.b (laysV m r a n))) [] (st (laysX m r a n).1 (laysX m r a n).2))
 | _ => .bad
noncomputable def laysG:=bothF laysM
noncomputable def TLa : Tab:=addT 27 empty2G (addT 52 hndG (addT 38 put2G (addT 53 put2G (noT))))
theorem TLa_snd : TLa.Snd Try.prog:=addT_snd ok27 rempty2_snd (addT_snd ok52 hnd_snd (addT_snd ok38 put2_snd (addT_snd ok53 rput2_snd ((noT_snd _)))))
theorem lays_snd : Snd Try.prog 23 (FSpec.of laysG):=snd_run TLa_snd mixed Try.func23 dc23 200 fun args H K hc hS => by
 obtain ⟨H0,c,a,b,p,q,m,r,rest,rfl,rfl,I,hS1⟩:=bothF_spec hS
 clear hS
 unfold laysM at hS1
 split at hS1
 ·rename_i x n
  obtain ⟨hn,hS⟩:=hS1
  simp only [spec_ok,laysV,laysX] at hS
  obtain ⟨⟨⟨c0,c1,c2,c3,c4,c5,c6,c7,c8,c9,c10⟩,p0,q0,r0⟩,hs⟩ : ∃ s,hndS n = s:=⟨_,rfl⟩
  have hcap : hndV n = ⟨c0,c1,c2,c3,c4,c5,c6,c7,c8,c9,c10⟩:=by have:=congrArg Slot.cap hs; exact this
  have hl : (0 : Int) = p0 ∧ (0 : Int) = q0 ∧ (0 : Int) = r0:=⟨congrArg Slot.prev hs,congrArg Slot.next hs,congrArg Slot.depth hs⟩
  obtain ⟨rfl,rfl,rfl⟩:=hl
  rw [hs] at hS
  by_cases h1 : r.gE x = 0
  ·have h1' : (r.gE x == 0) = true:=by simpa using h1
   cases h2 : r.eB x
   ·rw [if_neg (by simp [h2]),if_neg (by simp [h2])] at hS
    simp (maxSteps:=9999999) only [EV0,zy,zx,zw,zv,zu,zq,zp,zj,zk,leT,zg,rvC,zZ,zY,zX,zW,↓zV,↓zU,reduceCtorEq,zQ,yz,yY,yy,yx,yv,yu,yq,yp,yX,yj,yk,yg,yW,yV,yU,yZ,yQ,xz,df23,TLa,empty2G,empty2M,I.at_c,I.fm,I.fr,h1,h2,bne]
    exact hS
   ·rw [if_pos ⟨h1,h2⟩,if_pos ⟨h1,h2⟩] at hS
    simp (maxSteps:=9999999) only [EV0,zy,zx,zw,zv,zu,zq,zp,zj,zk,leT,zg,rvC,zZ,zY,zX,zW,↓zV,↓zU,reduceCtorEq,zQ,yz,yY,yy,yx,yv,yu,yq,yp,yX,yj,yk,yg,yW,yV,yU,yZ,yQ,xz,df23,TLa,empty2G,empty2M,hndG,put2G,put2M,slotF,hcap,I.at_c,I.fm,I.fr,h1,h2,hn,bne,Slot.cl,Cap.cl,put,fillP,sub,EVt]
    exact hS
  ·have h1' : (r.gE x == 0) = false:=by simpa using h1
   rw [if_neg (fun h => h1 h.1),if_neg (fun h => h1 h.1)] at hS
   simp (maxSteps:=9999999) only [EV0,zy,zx,zw,zv,zu,zq,zp,zj,zk,leT,zg,rvC,zZ,zY,zX,zW,↓zV,↓zU,reduceCtorEq,zQ,yz,yY,yy,yx,yv,yu,yq,yp,yX,yj,yk,yg,yW,yV,yU,yZ,yQ,xz,df23,TLa,empty2G,empty2M,I.at_c,I.fm,I.fr,h1',h1,bne]
   exact hS
 ·exact hS1.elim
structure Op where
 wh : Int
 a : Int
 b : Int
 n : Int
def Op.cl (x : Op) : List S:=[.i .i64 x.wh, .i .i64 x.a, .i .i64 x.b, .i .i64 x.n]
theorem Op.cl_len (x : Op) : x.cl.length = 4:=rfl
theorem Op.inj {x y : Op} (e : x.cl = y.cl) : x = y:=by
 obtain ⟨a,b,c,d⟩:=x
 obtain ⟨a',b',c',d'⟩:=y
 simp only [Op.cl,List.cons.injEq,S.i.injEq,true_and,and_true] at e
 obtain ⟨rfl,rfl,rfl,rfl⟩:=e
 rfl
instance : Cells Op.cl:=⟨⟨4,Op.cl_len⟩,fun x y e => Op.inj e⟩
def opF (f : Op → Res) : List V → Res
 | [.agg [.i .i64 a, .i .i64 b, .i .i64 c, .i .i64 d]] => f ⟨a,b,c,d⟩
 | _ => .bad
theorem opF_spec {f : Op → Res} {args : List V} {K : V → List Blk → Prop} (h : (opF f args).spec K) : ∃ x : Op,args = [.agg x.cl] ∧ (f x).spec K:=by
 unfold opF at h
 split at h
 ·exact ⟨_,rfl,h⟩
 ·exact h.elim
def M.rli (r : M) : Option (List Int) × M:=rdW (-1) (r.w.length / 4) (r.w.length / 4 + 2) r.fst r.fstX []
def promV (r : M) (x : Op) : Bool:=match r.rli with
 | (none,_) => false
 | (some L,_) => (x.wh == 1 || (!(r.gE x.a == 0) || (r.eB x.a || decide (x.a ∈ L)))) && (!(r.gE x.b == 0) || (r.eB x.b || (decide (x.b ∈ L) || (x.wh == 1 && x.b == 0))))
def promX (r : M) (x : Op) : M:=match r.rli with
 | (none,r2) => r2
 | (some _,r2) => (r2.gX x.a).gX x.b
def promM (m r : M) (st : M → M → List Blk) : List V → Res:=opF fun x => .ok (.s (.b (promV r x))) [] (st m (promX r x))
noncomputable def promG:=bothF promM
theorem rdW_w {d : Int} {N : Nat} : ∀ (k : Nat) (x : Int) (m : M) (l : List Int),(rdW d N k x m l).2.w = m.w
 | 0,x,m,l => rfl
 | k + 1,x,m,l => by
  simp only [rdW]
  split
  ·rfl
  ·split
   ·split
    ·exact gX_w _ _
    ·exact (rdW_w k _ _ _).trans (gX_w _ _)
   ·exact gX_w _ _
noncomputable def TPr : Tab:=addT 49 rlisG (addT 27 empty2G (addT 51 containsG (noT)))
theorem TPr_snd : TPr.Snd Try.prog:=addT_snd ok49 rlis_snd (addT_snd ok27 rempty2_snd (addT_snd ok51 has_snd ((noT_snd _))))
theorem prom_snd : Snd Try.prog 24 (FSpec.of promG):=(fwp_sound (Tab.snd_Γ TPr_snd) mixed Try.func24 dc24).weaken fun args H K hc hS => by
 refine fwp_runW (Tab.ok_Γ _) 300 ?_
 obtain ⟨H0,c,a,b,p,q,m,r,rest,rfl,rfl,I,hS1⟩:=bothF_spec hS
 clear hS
 obtain ⟨⟨xw,xa,xb,xn⟩,rfl,hS⟩:=opF_spec hS1
 clear hS1
 simp only [spec_ok,promV,promX] at hS
 obtain ⟨o,ho⟩ : ∃ o,r.rli = o:=⟨_,rfl⟩
 rw [ho] at hS
 have ho2:=ho
 unfold M.rli at ho
 have hw : o.2.w = r.w:=by rw [← ho]; exact (rdW_w _ _ _ _).trans (fstX_w _)
 have hE : ∀ x,o.2.gE x = r.gE x:=fun x => gE_w hw x
 have hB : ∀ x,o.2.eB x = r.eB x:=fun x => eB_w hw x
 have hrl:=r.l
 have hcl:=I.clean hc
 have hln : ∀ m' r' X,(twoH H0 a b p q m r []).length = (twoH H0 a b p q m' r' X).length - X.length:=fun m' r' X => by rw [twoH_len,twoH_len]; simp
 rcases o with ⟨_ | _ | ⟨z,l⟩,r2⟩
 ·simp only at hS
  simp (maxSteps:=9999999) only [EV0,zy,zx,zw,zv,zu,zq,zp,zj,zk,leT,zg,rvC,zZ,zY,zX,zW,↓zV,↓zU,reduceCtorEq,zQ,yz,yY,yy,yx,yv,yu,yq,yp,yX,yj,yk,yg,yW,yV,yU,yZ,yQ,xz,df24,TPr,rlisG,rlisM,dscR,ho,I.at_c,I.fr,Op.cl,bne]
  refine fin_of (v:=.s (.b false)) (ls:=[]) (h:=twoH H0 a b p q m r2 []) rfl ?_ ?_
  ·exact Wk.keep 0 rfl rfl (by simp (maxSteps:=9999999) only [EV0,zy,zx,zw,zv,zu,zq,zp,zj,zk,leT,zg,rvC,zZ,zY,zX,zW,↓zV,↓zU,reduceCtorEq,zQ,yz,yY,yy,yx,yv,yu,yq,yp,yX,yj,yk,yg,yW,yV,yU,yZ,yQ,xz]) (by rfl) (by rfl)
  ·simp (maxSteps:=9999999) only [EV0,zy,zx,zw,zv,zu,zq,zp,zj,zk,leT,zg,rvC,zZ,zY,zX,zW,↓zV,↓zU,reduceCtorEq,zQ,yz,yY,yy,yx,yv,yu,yq,yp,yX,yj,yk,yg,yW,yV,yU,yZ,yQ,xz]
   exact hS
 ·simp only at hS hE hB
  cases k : xw == 1
  ·simp only [k,List.not_mem_nil,decide_false,Bool.false_or,Bool.or_false,Bool.true_or,Bool.true_and,Bool.false_and] at hS
   simp (maxSteps:=9999999) only [EV0,zy,zx,zw,zv,zu,zq,zp,zj,zk,leT,zg,rvC,zZ,zY,zX,zW,↓zV,↓zU,reduceCtorEq,zQ,yz,yY,yy,yx,yv,yu,yq,yp,yX,yj,yk,yg,yW,yV,yU,yZ,yQ,xz,df24,TPr,rlisG,rlisM,dscR,empty2G,empty2M,containsG,intsOf_ns,ho,I.at_c,I.fr,Op.cl,hE,hB,gX_gE,gX_eB,bne,List.not_mem_nil,decide_false,k]
   refine fin_of (v:=.s (.b ((!r.gE xa == 0 || r.eB xa) && (!r.gE xb == 0 || r.eB xb)))) (ls:=[]) (h:=twoH H0 a b p q m ((r2.gX xa).gX xb) []) rfl (Wk.keep 0 rfl rfl (by simp (maxSteps:=9999999) only [EV0,zy,zx,zw,zv,zu,zq,zp,zj,zk,leT,zg,rvC,zZ,zY,zX,zW,↓zV,↓zU,reduceCtorEq,zQ,yz,yY,yy,yx,yv,yu,yq,yp,yX,yj,yk,yg,yW,yV,yU,yZ,yQ,xz]) (by rfl) (by rfl)) ?_
   simp (maxSteps:=9999999) only [EV0,zy,zx,zw,zv,zu,zq,zp,zj,zk,leT,zg,rvC,zZ,zY,zX,zW,↓zV,↓zU,reduceCtorEq,zQ,yz,yY,yy,yx,yv,yu,yq,yp,yX,yj,yk,yg,yW,yV,yU,yZ,yQ,xz]
   exact hS
  ·simp only [k,List.not_mem_nil,decide_false,Bool.false_or,Bool.or_false,Bool.true_or,Bool.true_and,Bool.false_and] at hS
   simp (maxSteps:=9999999) only [EV0,zy,zx,zw,zv,zu,zq,zp,zj,zk,leT,zg,rvC,zZ,zY,zX,zW,↓zV,↓zU,reduceCtorEq,zQ,yz,yY,yy,yx,yv,yu,yq,yp,yX,yj,yk,yg,yW,yV,yU,yZ,yQ,xz,df24,TPr,rlisG,rlisM,dscR,empty2G,empty2M,containsG,intsOf_ns,ho,I.at_c,I.fr,Op.cl,hE,hB,gX_gE,gX_eB,bne,List.not_mem_nil,decide_false,k]
   refine fin_of (v:=.s (.b (!r.gE xb == 0 || (r.eB xb || xb == 0)))) (ls:=[]) (h:=twoH H0 a b p q m ((r2.gX xa).gX xb) []) rfl (Wk.keep 0 rfl rfl (by simp (maxSteps:=9999999) only [EV0,zy,zx,zw,zv,zu,zq,zp,zj,zk,leT,zg,rvC,zZ,zY,zX,zW,↓zV,↓zU,reduceCtorEq,zQ,yz,yY,yy,yx,yv,yu,yq,yp,yX,yj,yk,yg,yW,yV,yU,yZ,yQ,xz]) (by rfl) (by rfl)) ?_
   simp (maxSteps:=9999999) only [EV0,zy,zx,zw,zv,zu,zq,zp,zj,zk,leT,zg,rvC,zZ,zY,zX,zW,↓zV,↓zU,reduceCtorEq,zQ,yz,yY,yy,yx,yv,yu,yq,yp,yX,yj,yk,yg,yW,yV,yU,yZ,yQ,xz]
   exact hS
 ·simp only at hS hE hB
  have hl:=rdW_len _ _ _ _ ho
  simp only [List.length_cons,List.length_nil] at hl
  have hl2 : (z :: l).length ≤ 8796093022208:=by simp only [List.length_cons]; omega
  have hA : ∀ r' c,arrOf In.c (twoH H0 a b p q m r' [⟨.rw,intsB (z :: l),c⟩]) (.sl (.g H0.length) 0 (l.length + 1) c) = some (z :: l):=fun r' c => intsOf_at (IsB.at_x _ _ _ _)
  obtain ⟨d1,hd1⟩ : ∃ d,decide (xa ∈ z :: l) = d:=⟨_,rfl⟩
  obtain ⟨d2,hd2⟩ : ∃ d,decide (xb ∈ z :: l) = d:=⟨_,rfl⟩
  rw [hd1,hd2] at hS
  cases k : xw == 1
  ·simp only [k,Bool.true_or,Bool.true_and,Bool.false_and,Bool.false_or,Bool.or_false] at hS
   simp (maxSteps:=9999999) only [EV0,zy,zx,zw,zv,zu,zq,zp,zj,zk,leT,zg,rvC,zZ,zY,zX,zW,↓zV,↓zU,reduceCtorEq,zQ,yz,yY,yy,yx,yv,yu,yq,yp,yX,yj,yk,yg,yW,yV,yU,yZ,yQ,xz,df24,TPr,rlisG,rlisM,dscR,empty2G,empty2M,containsG,ho,I.at_c,I.fr,Op.cl,hE,hB,gX_gE,gX_eB,bne,k,twoH_app,twoH_len,List.length_nil,Nat.add_zero,List.nil_append,hA,hd1,hd2,hl2]
   intro c1 _
   refine ⟨fun _ _ => by omega,fun _ _ => by omega, ?_⟩
   have e0:=twoH_len (H:=H0) (X:=[]) (a:=a) (b:=b) (p:=p) (q:=q) m ((r2.gX xa).gX xb)
   refine fin_of (v:=.s (.b ((!r.gE xa == 0 || (r.eB xa || d1)) && (!r.gE xb == 0 || (r.eB xb || d2))))) (ls:=[]) (h:=twoH H0 a b p q m ((r2.gX xa).gX xb) []) rfl ?_ ?_
   ·rw [twoH_x m _ [_]]
    exact drop_b (by simp (maxSteps:=9999999) only [EV0,zy,zx,zw,zv,zu,zq,zp,zj,zk,leT,zg,rvC,zZ,zY,zX,zW,↓zV,↓zU,reduceCtorEq,zQ,yz,yY,yy,yx,yv,yu,yq,yp,yX,yj,yk,yg,yW,yV,yU,yZ,yQ,xz]) (hcl _ _) (Nat.le_of_eq (by rw [e0]; rfl))
   ·simp (maxSteps:=9999999) only [EV0,zy,zx,zw,zv,zu,zq,zp,zj,zk,leT,zg,rvC,zZ,zY,zX,zW,↓zV,↓zU,reduceCtorEq,zQ,yz,yY,yy,yx,yv,yu,yq,yp,yX,yj,yk,yg,yW,yV,yU,yZ,yQ,xz]
    exact hS
  ·simp only [k,Bool.true_or,Bool.true_and,Bool.false_and,Bool.false_or,Bool.or_false] at hS
   simp (maxSteps:=9999999) only [EV0,zy,zx,zw,zv,zu,zq,zp,zj,zk,leT,zg,rvC,zZ,zY,zX,zW,↓zV,↓zU,reduceCtorEq,zQ,yz,yY,yy,yx,yv,yu,yq,yp,yX,yj,yk,yg,yW,yV,yU,yZ,yQ,xz,df24,TPr,rlisG,rlisM,dscR,empty2G,empty2M,containsG,ho,I.at_c,I.fr,Op.cl,hE,hB,gX_gE,gX_eB,bne,k,twoH_app,twoH_len,List.length_nil,Nat.add_zero,List.nil_append,hA,hd1,hd2,hl2]
   intro c1 _
   refine ⟨fun _ _ => by omega,fun _ _ => by omega, ?_⟩
   have e0:=twoH_len (H:=H0) (X:=[]) (a:=a) (b:=b) (p:=p) (q:=q) m ((r2.gX xa).gX xb)
   refine fin_of (v:=.s (.b (!r.gE xb == 0 || (r.eB xb || (d2 || xb == 0))))) (ls:=[]) (h:=twoH H0 a b p q m ((r2.gX xa).gX xb) []) rfl ?_ ?_
   ·rw [twoH_x m _ [_]]
    exact drop_b (by simp (maxSteps:=9999999) only [EV0,zy,zx,zw,zv,zu,zq,zp,zj,zk,leT,zg,rvC,zZ,zY,zX,zW,↓zV,↓zU,reduceCtorEq,zQ,yz,yY,yy,yx,yv,yu,yq,yp,yX,yj,yk,yg,yW,yV,yU,yZ,yQ,xz]) (hcl _ _) (Nat.le_of_eq (by rw [e0]; rfl))
   ·simp (maxSteps:=9999999) only [EV0,zy,zx,zw,zv,zu,zq,zp,zj,zk,leT,zg,rvC,zZ,zY,zX,zW,↓zV,↓zU,reduceCtorEq,zQ,yz,yY,yy,yx,yv,yu,yq,yp,yX,yj,yk,yg,yW,yV,yU,yZ,yQ,xz]
    exact hS
end Go.Proofs.Ytcdfofeolgbnbaa

/- Links turned at a place's neighbours; Insert and Move,of the code and of the document,at slots that are in order. -/
namespace Go.Proofs.Ytcdfofeolgbnbaa
open Go.D
set_option linter.all false
set_option maxRecDepth 100000
set_option maxHeartbeats 4000000

theorem fE_zero {m : M} {x : Int} : m.fE x = 0 ↔ m.gE x = 0 ∧ (m.gV x).cap.ty ≠ 0:=by
 unfold M.fE
 constructor
 ·intro h
  split at h
  ·cases h
  ·rename_i hn
   exact ⟨h,fun e => hn ⟨h,e⟩⟩
 ·intro h
  rw [if_neg fun h2 => h.2 h2.2]
  exact h.1
theorem fE_there {m : M} {x : Int} (h : m.fE x = 0) : thereB m x = true:=(gE_there (fE_zero.1 h).1).1
theorem link_there {m : M} {x : Int} (h : thereB m x = true) : linkB x = true:=by
 have hl:=m.l
 have hb:=there_iff.1 h
 simp only [linkB,Bool.and_eq_true,decide_eq_true_eq,beq_iff_eq]
 omega
theorem link_0 : linkB 0 = true:=by decide
theorem full_mk {m : M} {x : Int} (h : m.fE x = 0) {p n d : Int} (hp : linkB p = true) (hn : linkB n = true) (h0 : 0 ≤ d) (h1 : d < 65536) : slotRB ⟨(m.gV x).cap,p,n,d⟩ = true:=by
 have h2:=(slotRB_iff (m.gV_u x)).1
 have h3:=(fE_zero.1 h).2
 have h4 : ((m.gV x).cap.ty == 0) = false:=by simpa using h3
 simp only [slotRB,h2,h4,hp,hn,h0,h1,Bool.false_and,Bool.not_false,decide_true,Bool.and_self]
theorem gV_links (m : M) (x : Int) : linkB (m.gV x).prev = true ∧ linkB (m.gV x).next = true ∧ 0 ≤ (m.gV x).depth ∧ (m.gV x).depth < 65536:=by
 have h:=m.gV_u x
 simp only [slotRB,Bool.and_eq_true,decide_eq_true_eq] at h
 exact ⟨h.2.2.1,h.2.2.2.1,h.2.2.2.2⟩
theorem gV_zero (m : M) : m.gV 0 = slotZ:=by
 unfold M.gV
 rw [if_neg]
 intro h
 exact there_ne0 h.1 rfl
def Slot.toN (s : Slot) (a : Int) : Slot:=⟨s.cap,s.prev,a,s.depth⟩
def Slot.toP (s : Slot) (a : Int) : Slot:=⟨s.cap,a,s.next,s.depth⟩
def jnV (V : Int → Slot) (p a n : Int) (x : Int) : Slot:=if x = p then (V p).toN a else if x = n then (V n).toP a else V x

structure M.To (m m' : M) (V : Int → Slot) (F : Int) : Prop where
 fr : M.Fr m m'
 E : ∀ x,m'.gE x = m.gE x
 V : ∀ x,x ≠ 0 → m'.gV x = V x
 F : m'.fst = F
theorem M.To.refl (m : M) : M.To m m m.gV m.fst:=⟨.refl m,fun _ => rfl,fun _ _ => rfl,rfl⟩
theorem M.To.of_w {m m1 m2 : M} {V : Int → Slot} {F : Int} (h : M.To m m1 V F) (e : m2.w = m1.w) : M.To m m2 V F :=
 ⟨h.fr.of_w e,fun x => (gE_w e x).trans (h.E x),fun x hx => (gV_w e x).trans (h.V x hx),(fst_w e).trans h.F⟩
theorem M.To.from_w {m m' m1 : M} {V : Int → Slot} {F : Int} (h : M.To m m1 V F) (e : m'.w = m.w) : M.To m' m1 V F :=
 ⟨h.fr.from_w e,fun x => (h.E x).trans (gE_w e x).symm,h.V,h.F⟩
theorem M.To.val {m m' : M} {V : Int → Slot} {F : Int} (h : M.To m m' V F) {V' : Int → Slot} (e : ∀ x,x ≠ 0 → V x = V' x) {F' : Int} (f : F = F') : M.To m m' V' F' :=
 ⟨h.fr,h.E,fun x hx => (h.V x hx).trans (e x hx),h.F.trans f⟩
theorem M.To.gX {m m' : M} {V : Int → Slot} {F : Int} (h : M.To m m' V F) (a : Int) : M.To m (m'.gX a) V F:=h.of_w (gX_w _ _)
theorem M.To.fstX {m m' : M} {V : Int → Slot} {F : Int} (h : M.To m m' V F) : M.To m m'.fstX V F:=h.of_w (fstX_w _)
theorem M.To.liX {m m' : M} {V : Int → Slot} {F : Int} (h : M.To m m' V F) (s : Slot) : M.To m (m'.liX s) V F:=h.of_w (liX_w _ _)
theorem M.To.there {m m' : M} {V : Int → Slot} {F : Int} (h : M.To m m' V F) (x : Int) : thereB m' x = thereB m x:=h.fr.there x
theorem M.To.fE {m m' : M} {V : Int → Slot} {F : Int} (h : M.To m m' V F) {x : Int} (hx : x ≠ 0) : m'.fE x = if m.gE x = 0 ∧ (V x).cap.ty = 0 then 121 else m.gE x:=by
 simp only [M.fE,h.E,h.V x hx]
theorem M.To.pX {m m' : M} {V : Int → Slot} {F : Int} (h : M.To m m' V F) {a : Int} {s : Slot} (ha : m.gE a = 0) (hr : slotRB s = true) : M.To m (m'.pX a s) (fun x => if x = a then s else V x) F:=by
 have ht : thereB m' a = true:=by rw [h.there]; exact (gE_there ha).1
 refine ⟨h.fr.pX a s,fun x => ?_,fun x hx => ?_,(pX_fst ht hr).trans h.F⟩
 ·rw [pX_gE ht hr]
  split
  ·rename_i e; rw [e,ha]
  ·exact h.E x
 ·rw [pX_gV ht hr]
  split
  ·rfl
  ·exact h.V x hx
theorem M.To.sfX {m m' : M} {V : Int → Slot} {F : Int} (h : M.To m m' V F) (hl : 4 ≤ m.w.length) {n : Int} (hn : n = 0 ∨ thereB m n = true) : M.To m (m'.sfX n) V n :=
 ⟨h.fr.sfX hl,fun x => (sfX_gE _ _ _).trans (h.E x),fun x hx => (sfX_gV _ _ _).trans (h.V x hx),sfX_fst (by rw [h.there]; exact hn) (by rw [h.fr.len]; exact hl)⟩
theorem M.To.trans {m m1 m2 : M} {V V' : Int → Slot} {F F' : Int} (h : M.To m m1 V F) (h2 : M.To m1 m2 V' F') : M.To m m2 V' F':=by
 refine ⟨⟨h2.fr.len.trans h.fr.len,fun j hj => (h2.fr.low j hj).trans (h.fr.low j hj),fun x hx => ?_,fun e => h2.fr.two (h.fr.two e)⟩,fun x => (h2.E x).trans (h.E x),h2.V,h2.F⟩
 by_cases e : m.gE x = 0
 ·exact .inl (by rw [h2.E,h.E]; exact e)
 ·right
  have e1 : ¬ m1.gE x = 0:=by rw [h.E]; exact e
  have e2 : ¬ m2.gE x = 0:=by rw [h2.E,h.E]; exact e
  have w1:=(h.fr.slot x hx).resolve_left e1
  have w2:=(h2.fr.slot x (by rw [h.there]; exact hx)).resolve_left e2
  exact fun k k1 k2 => (w2 k k1 k2).trans (w1 k k1 k2)
theorem M.To.det {m m' m1 m2 : M} {V V' : Int → Slot} {F F' : Int} (h1 : M.To m m1 V F) (h2 : M.To m' m2 V' F') (hw : m'.w = m.w) (hV : ∀ x,x ≠ 0 → V x = V' x) (hF : F = F') (h4 : m.w.length % 4 = 0) (htwo : m.at 2 = m.fst) : m1.w = m2.w:=by
 have h2:=h2.from_w hw.symm
 refine h1.fr.det h2.fr (fun x => (h1.E x).trans (h2.E x).symm) (fun x => ?_) (h1.F.trans (hF.trans h2.F.symm)) h4 htwo
 by_cases e : x = 0
 ·subst e; rw [gV_zero,gV_zero]
 ·rw [h1.V x e,h2.V x e,hV x e]

theorem M.To.full {m m' : M} {V : Int → Slot} {F : Int} (h : M.To m m' V F) {x : Int} (hx : m.gE x = 0) (ht : (V x).cap.ty ≠ 0) : m'.fE x = 0:=by
 have h0:=there_ne0 (gE_there hx).1
 exact fE_zero.2 ⟨(h.E x).trans hx,by rw [h.V x h0]; exact ht⟩
theorem M.To.turn {m m' : M} {V : Int → Slot} {F : Int} (h : M.To m m' V F) {x : Int} (hx : m.gE x = 0) (ht : (V x).cap.ty ≠ 0) {g : Slot → Slot} (hr : slotRB (g (V x)) = true) : M.To m (m'.turnX x g) (fun y => if y = x then g (V x) else V y) F:=by
 have h0:=there_ne0 (gE_there hx).1
 unfold M.turnX
 rw [if_neg h0,if_pos (h.full hx ht),h.V x h0]
 exact (h.gX x).pX hx hr
theorem M.To.turn0 {m m' : M} {V : Int → Slot} {F : Int} (h : M.To m m' V F) {g : Slot → Slot} : M.To m (m'.turnX 0 g) V F:=by
 unfold M.turnX
 rw [if_pos rfl]; exact h
theorem M.To.vlinks {m m' : M} {V : Int → Slot} {F : Int} (h : M.To m m' V F) {x : Int} (h0 : x ≠ 0) (ht : (V x).cap.ty ≠ 0) {p n d : Int} (hp : linkB p = true) (hn : linkB n = true) (d0 : 0 ≤ d) (d1 : d < 65536) : slotRB ⟨(V x).cap,p,n,d⟩ = true:=by
 have h2:=(slotRB_iff (m'.gV_u x)).1
 rw [h.V x h0] at h2
 have h4 : ((V x).cap.ty == 0) = false:=by simpa using ht
 simp only [slotRB,h2,h4,hp,hn,d0,d1,Bool.false_and,Bool.not_false,decide_true,Bool.and_self]
theorem M.To.lk {m m' : M} {V : Int → Slot} {F : Int} (h : M.To m m' V F) {x : Int} (h0 : x ≠ 0) : linkB (V x).prev = true ∧ linkB (V x).next = true ∧ 0 ≤ (V x).depth ∧ (V x).depth < 65536:=by
 have:=gV_links m' x
 rw [h.V x h0] at this
 exact this
theorem M.To.join {m m' : M} {V : Int → Slot} {F : Int} (h : M.To m m' V F) (hl : 4 ≤ m.w.length) {p a n : Int} (hp : p = 0 ∨ (m.gE p = 0 ∧ (V p).cap.ty ≠ 0)) (hn : n = 0 ∨ (m.gE n = 0 ∧ (V n).cap.ty ≠ 0)) (hpn : n = 0 ∨ p ≠ n) (ha : a = 0 ∨ thereB m a = true) :
  M.To m (m'.joinX p a n) (jnV V p a n) (if p = 0 then a else F):=by
 have la : linkB a = true:=by
  rcases ha with rfl | ha
  ·exact link_0
  ·exact link_there ha
 have h1 : M.To m ((if p = 0 then m'.sfX a else m').turnX p fun s => ⟨s.cap,s.prev,a,s.depth⟩) (fun x => if x = p then (V p).toN a else V x) (if p = 0 then a else F):=by
  by_cases hp0 : p = 0
  ·subst hp0
   simp only [if_true]
   exact ((h.sfX hl ha).turn0).val (fun x hx => by simp only [hx,if_false]) rfl
  ·obtain ⟨e1,e2⟩:=hp.resolve_left hp0
   obtain ⟨k1,k2,k3,k4⟩:=h.lk hp0
   simp only [if_neg hp0]
   exact h.turn e1 e2 (h.vlinks hp0 e2 k1 la k3 k4)
 unfold M.joinX
 by_cases hn0 : n = 0
 ·subst hn0
  exact h1.turn0.val (fun x hx => by simp only [jnV,hx,if_false]) rfl
 ·obtain ⟨e1,e2⟩:=hn.resolve_left hn0
  have hne:=hpn.resolve_left hn0
  have ev : (fun x => if x = p then (V p).toN a else V x) n = V n:=by simp only [if_neg (Ne.symm hne)]
  obtain ⟨k1,k2,k3,k4⟩:=h.lk hn0
  have:=h1.turn (x:=n) (g:=fun s => ⟨s.cap,a,s.next,s.depth⟩) e1 (by simp only [if_neg (Ne.symm hne)]; exact e2) (by simp only [if_neg (Ne.symm hne)]; exact h.vlinks hn0 e2 la k2 k3 k4)
  refine this.val (fun x hx => ?_) rfl
  simp only [jnV,if_neg (Ne.symm hne)]
  by_cases c1 : x = n
  ·subst c1
   rw [if_pos rfl,if_neg (Ne.symm hne),if_pos rfl]; rfl
  ·rw [if_neg c1]
   by_cases c2 : x = p
   ·rw [if_pos c2,if_pos c2]
   ·rw [if_neg c2,if_neg c2,if_neg c1]
theorem M.To.nk {m m' : M} {V : Int → Slot} {F : Int} (h : M.To m m' V F) {p a : Int} (hp : m.gE p = 0 ∧ (V p).cap.ty ≠ 0) (ha : a = 0 ∨ thereB m a = true) : M.To m (m'.nkX p a) (fun x => if x = p then (V p).toN a else V x) F:=by
 have la : linkB a = true:=by
  rcases ha with rfl | ha
  ·exact link_0
  ·exact link_there ha
 have h0:=there_ne0 (gE_there hp.1).1
 obtain ⟨k1,k2,k3,k4⟩:=h.lk h0
 unfold M.nkX
 rw [if_pos ((h.E p).trans hp.1),h.V p h0]
 exact (h.gX p).pX hp.1 (h.vlinks h0 hp.2 k1 la k3 k4)
theorem M.To.bk {m m' : M} {V : Int → Slot} {F : Int} (h : M.To m m' V F) {n a : Int} (hn : n = 0 ∨ (m.gE n = 0 ∧ (V n).cap.ty ≠ 0)) (ha : a = 0 ∨ thereB m a = true) : M.To m (m'.bkX a n) (fun x => if x = n then (V n).toP a else V x) F:=by
 have la : linkB a = true:=by
  rcases ha with rfl | ha
  ·exact link_0
  ·exact link_there ha
 by_cases h0 : n = 0
 ·subst h0
  unfold M.bkX
  rw [if_neg fun h => h.1 rfl]
  exact (h.gX 0).val (fun x hx => by simp only [hx,if_false]) rfl
 ·obtain ⟨e1,e2⟩:=hn.resolve_left h0
  obtain ⟨k1,k2,k3,k4⟩:=h.lk h0
  unfold M.bkX
  rw [if_pos ⟨h0,(h.E n).trans e1⟩,h.V n h0]
  exact (h.gX n).pX e1 (h.vlinks h0 e2 la k2 k3 k4)
theorem M.To.lkX {m m' : M} {V : Int → Slot} {F : Int} (h : M.To m m' V F) (hl : 4 ≤ m.w.length) {p a : Int} (hp : p = 0 ∨ (m.gE p = 0 ∧ (V p).cap.ty ≠ 0)) (ha : a = 0 ∨ thereB m a = true) : M.To m (m'.lkX p a) (fun x => if x = p then (V p).toN a else V x) (if p = 0 then a else F):=by
 unfold M.lkX
 by_cases h0 : p = 0
 ·subst h0
  simp only [if_true]
  exact (h.sfX hl ha).val (fun x hx => by simp only [hx,if_false]) rfl
 ·simp only [if_neg h0]
  exact h.nk (hp.resolve_left h0) ha

def chain (V : Int → Slot) (nx : Int) : Int → List Int → Prop
 | _,[] => True
 | pr,x :: L => (V x).prev = pr ∧ (V x).next = L.headD nx ∧ chain V nx x L
theorem headD_app {α : Type} (L1 L2 : List α) (d : α) : (L1 ++ L2).headD d = L1.headD (L2.headD d):=by cases L1 <;> rfl
theorem getLastD_cons' {α : Type} (x d : α) (L : List α) : (x :: L).getLastD d = L.getLastD x:=by cases L <;> rfl
theorem chain_app {V : Int → Slot} {nx : Int} : ∀ {L1 : List Int} {pr : Int} {L2 : List Int},chain V nx pr (L1 ++ L2) ↔ chain V (L2.headD nx) pr L1 ∧ chain V nx (L1.getLastD pr) L2
 | [],pr,L2 => by simp [chain]
 | x :: L1,pr,L2 => by
  rw [getLastD_cons']
  simp only [List.cons_append,chain,chain_app (L1:=L1),headD_app]
  constructor
  ·rintro ⟨h1,h2,h3,h4⟩; exact ⟨⟨h1,h2,h3⟩,h4⟩
  ·rintro ⟨⟨h1,h2,h3⟩,h4⟩; exact ⟨h1,h2,h3,h4⟩
theorem chain_congr {V V' : Int → Slot} {nx : Int} : ∀ {L : List Int} {pr : Int},(∀ x,x ∈ L → (V' x).prev = (V x).prev ∧ (V' x).next = (V x).next) → chain V nx pr L → chain V' nx pr L
 | [],_,_,_ => trivial
 | x :: L,pr,h,⟨h1,h2,h3⟩ => ⟨(h x List.mem_cons_self).1.trans h1,(h x List.mem_cons_self).2.trans h2,chain_congr (fun y hy => h y (List.mem_cons_of_mem _ hy)) h3⟩
theorem headD_map (ρ : Int → Int) (L : List Int) (d : Int) : (L.map ρ).headD (ρ d) = ρ (L.headD d):=by cases L <;> rfl
theorem chain_map {V V' : Int → Slot} {ρ : Int → Int} {nx : Int} : ∀ {L : List Int} {pr : Int},(∀ x,x ∈ L → (V' (ρ x)).prev = ρ (V x).prev ∧ (V' (ρ x)).next = ρ (V x).next) → chain V nx pr L → chain V' (ρ nx) (ρ pr) (L.map ρ)
 | [],_,_,_ => trivial
 | x :: L,pr,h,⟨h1,h2,h3⟩ => by
  refine ⟨?_, ?_,chain_map (fun y hy => h y (List.mem_cons_of_mem _ hy)) h3⟩
  ·rw [(h x List.mem_cons_self).1,h1]
  ·rw [(h x List.mem_cons_self).2,h2,headD_map]
theorem chain_at {V : Int → Slot} {nx : Int} : ∀ {L : List Int} {pr : Int},chain V nx pr L → ∀ (i : Nat) (x : Int),L[i]? = some x → (V x).prev = (if i = 0 then pr else L.getD (i - 1) 0) ∧ (V x).next = L.getD (i + 1) nx
 | [],_,_,i,x,h => by simp at h
 | y :: L,pr,⟨h1,h2,h3⟩,0,x,h => by
  simp only [List.getElem?_cons_zero,Option.some.injEq] at h
  subst h
  refine ⟨h1,h2.trans ?_⟩
  cases L <;> rfl
 | y :: L,pr,⟨h1,h2,h3⟩,i + 1,x,h => by
  simp only [List.getElem?_cons_succ] at h
  obtain ⟨k1,k2⟩:=chain_at h3 i x h
  refine ⟨k1.trans ?_,k2.trans ?_⟩
  ·cases i with
   | zero => rfl
   | succ i => simp
  ·simp
theorem nodup_at {L : List Int} (hn : L.Nodup) {i j : Nat} {x : Int} (h1 : L[i]? = some x) (h2 : L[j]? = some x) : i = j:=by
 obtain ⟨a1,a2⟩:=List.getElem?_eq_some_iff.1 h1
 obtain ⟨b1,b2⟩:=List.getElem?_eq_some_iff.1 h2
 exact (List.getElem_inj hn).1 (a2.trans b2.symm)
theorem chain_two {V : Int → Slot} {L : List Int} (hc : chain V 0 0 L) (hn : L.Nodup) (h0 : (0 : Int) ∉ L) {x y : Int} (hx : x ∈ L) (hy : y ∈ L) : (V x).next = y ↔ (V y).prev = x:=by
 obtain ⟨i,hi⟩:=List.getElem?_of_mem hx
 obtain ⟨j,hj⟩:=List.getElem?_of_mem hy
 have x0 : x ≠ 0:=fun e => h0 (e ▸ hx)
 have y0 : y ≠ 0:=fun e => h0 (e ▸ hy)
 rw [(chain_at hc i x hi).2,(chain_at hc j y hj).1]
 constructor
 ·intro h
  have hj2 : L[i + 1]? = some y:=by
   rw [List.getD_eq_getElem?_getD] at h
   cases e : L[i + 1]? with
   | none => rw [e] at h; exact absurd h.symm y0
   | some z => rw [e] at h; simp only [Option.getD_some] at h; rw [h]
  have:=nodup_at hn hj hj2
  subst this
  simp only [Nat.add_one_ne_zero,if_false,Nat.add_sub_cancel]
  rw [List.getD_eq_getElem?_getD,hi]; rfl
 ·intro h
  by_cases e : j = 0
  ·rw [if_pos e] at h; exact absurd h.symm x0
  ·rw [if_neg e] at h
   have hi2 : L[j - 1]? = some x:=by
    rw [List.getD_eq_getElem?_getD] at h
    cases e2 : L[j - 1]? with
    | none => rw [e2] at h; exact absurd h.symm x0
    | some z => rw [e2] at h; simp only [Option.getD_some] at h; rw [h]
   have:=nodup_at hn hi hi2
   rw [this,show j - 1 + 1 = j by omega,List.getD_eq_getElem?_getD,hj]; rfl
theorem chain_next {V : Int → Slot} {nx pr : Int} {L : List Int} (hc : chain V nx pr L) {x : Int} (hx : x ∈ L) : (V x).next = nx ∨ (V x).next ∈ L:=by
 obtain ⟨i,hi⟩:=List.getElem?_of_mem hx
 rw [(chain_at hc i x hi).2,List.getD_eq_getElem?_getD]
 cases e : L[i + 1]? with
 | none => exact .inl rfl
 | some z => exact .inr (List.mem_of_getElem? e)
theorem chain_prev {V : Int → Slot} {nx pr : Int} {L : List Int} (hc : chain V nx pr L) {x : Int} (hx : x ∈ L) : (V x).prev = pr ∨ (V x).prev ∈ L:=by
 obtain ⟨i,hi⟩:=List.getElem?_of_mem hx
 rw [(chain_at hc i x hi).1]
 by_cases h : i = 0
 ·rw [if_pos h]; exact .inl rfl
 ·rw [if_neg h,List.getD_eq_getElem?_getD]
  cases e : L[i - 1]? with
  | none =>
   have:=List.getElem?_eq_none_iff.1 e
   have:=(List.getElem?_eq_some_iff.1 hi).1
   omega
  | some z => exact .inr (List.mem_of_getElem? e)
theorem chain_head {V : Int → Slot} {nx pr : Int} {L : List Int} (hc : chain V nx pr L) (hn : L.Nodup) (hpr : pr ∉ L) {x : Int} (hx : x ∈ L) : (V x).prev = pr ↔ L.headD nx = x:=by
 cases L with
 | nil => cases hx
 | cons y L =>
  obtain ⟨h1,h2,h3⟩:=hc
  simp only [List.headD_cons]
  rcases List.mem_cons.1 hx with rfl | hx'
  ·exact ⟨fun _ => rfl,fun _ => h1⟩
  ·constructor
   ·intro h
    rcases chain_prev h3 hx' with e | e
    ·rw [h] at e
     exact absurd (e ▸ List.mem_cons_self) hpr
    ·rw [h] at e
     exact absurd (List.mem_cons_of_mem _ e) hpr
   ·intro h
    rw [h] at hn
    exact absurd hx' (List.nodup_cons.1 hn).1

structure M.Inv (m : M) (P : Int → Prop) (L : List Int) : Prop where
 len : 4 ≤ m.w.length ∧ m.w.length % 4 = 0
 two : m.at 2 = m.fst
 nd : L.Nodup
 full : ∀ x,x ∈ L → m.fE x = 0
 ch : chain m.gV 0 0 L
 fst : m.fst = L.headD 0
 out : ∀ x,P x → m.gE x = 0 ∧ (x ∉ L → (m.gV x).prev = 0 ∧ (m.gV x).next = 0 ∧ (m.gV x).depth = 0)
section
variable {m : M} {P : Int → Prop} {L : List Int}
theorem M.Inv.no0 (I : m.Inv P L) : (0 : Int) ∉ L:=fun h => there_ne0 (fE_there (I.full 0 h)) rfl
theorem M.Inv.gE (I : m.Inv P L) {x : Int} (h : x ∈ L) : m.gE x = 0 ∧ (m.gV x).cap.ty ≠ 0:=fE_zero.1 (I.full x h)
theorem M.Inv.next (I : m.Inv P L) {x : Int} (h : x ∈ L) : (m.gV x).next = 0 ∨ (m.gV x).next ∈ L:=chain_next I.ch h
theorem M.Inv.prev (I : m.Inv P L) {x : Int} (h : x ∈ L) : (m.gV x).prev = 0 ∨ (m.gV x).prev ∈ L:=chain_prev I.ch h
theorem M.Inv.two_way (I : m.Inv P L) {x y : Int} (hx : x ∈ L) (hy : y ∈ L) : (m.gV x).next = y ↔ (m.gV y).prev = x:=chain_two I.ch I.nd I.no0 hx hy
theorem M.Inv.first (I : m.Inv P L) {x : Int} (hx : x ∈ L) : (m.gV x).prev = 0 ↔ m.fst = x:=by
 rw [I.fst]; exact chain_head I.ch I.nd I.no0 hx
theorem M.Inv.fst_mem (I : m.Inv P L) : m.fst = 0 ∨ m.fst ∈ L:=by
 rw [I.fst]
 cases L with
 | nil => exact .inl rfl
 | cons x L => exact .inr List.mem_cons_self
theorem M.Inv.irr_next (I : m.Inv P L) {x : Int} (hx : x ∈ L) : (m.gV x).next ≠ x:=by
 intro e
 obtain ⟨i,hi⟩:=List.getElem?_of_mem hx
 have h:=(chain_at I.ch i x hi).2
 rw [e,List.getD_eq_getElem?_getD] at h
 cases e2 : L[i + 1]? with
 | none => rw [e2] at h; exact I.no0 (by simp only [Option.getD_none] at h; rw [← h]; exact hx)
 | some z =>
  rw [e2] at h
  simp only [Option.getD_some] at h
  rw [← h] at e2
  have:=nodup_at I.nd hi e2
  omega
theorem M.Inv.irr_prev (I : m.Inv P L) {x : Int} (hx : x ∈ L) : (m.gV x).prev ≠ x:=fun e => I.irr_next hx ((I.two_way hx hx).2 e)
theorem M.Inv.prev_next (I : m.Inv P L) {x : Int} (hx : x ∈ L) : (m.gV x).next = 0 ∨ (m.gV x).prev ≠ (m.gV x).next:=by
 rcases I.next hx with e | e
 ·exact .inl e
 ·right
  intro h
  obtain ⟨i,hi⟩:=List.getElem?_of_mem hx
  obtain ⟨h1,h2⟩:=chain_at I.ch i x hi
  obtain ⟨y,hy⟩ : ∃ y,y = (m.gV x).next:=⟨_,rfl⟩
  rw [h,← hy] at h1
  rw [← hy] at h2 e
  have y0 : y ≠ 0:=fun e2 => I.no0 (e2 ▸ e)
  have j1 : L[i + 1]? = some y:=by
   rw [List.getD_eq_getElem?_getD] at h2
   cases e2 : L[i + 1]? with
   | none => rw [e2] at h2; exact absurd h2 y0
   | some z => rw [e2] at h2; simp only [Option.getD_some] at h2; rw [h2]
  by_cases e0 : i = 0
  ·rw [if_pos e0] at h1; exact y0 h1
  ·rw [if_neg e0,List.getD_eq_getElem?_getD] at h1
   cases e2 : L[i - 1]? with
   | none => rw [e2] at h1; exact y0 h1
   | some z =>
    rw [e2] at h1
    simp only [Option.getD_some] at h1
    rw [← h1] at e2
    have:=nodup_at I.nd j1 e2
    omega
theorem M.Inv.listed (I : m.Inv P L) {x : Int} (hx : x ∈ L) : m.liB x (m.gV x) = true:=by
 unfold M.liB
 by_cases e : (m.gV x).prev = 0
 ·rw [(I.first hx).1 e]; simp
 ·have : ((m.gV x).prev == 0) = false:=by simpa using e
  rw [this]; rfl
theorem M.Inv.unlisted (I : m.Inv P L) {x : Int} (hP : P x) (hx : x ∉ L) : m.liB x (m.gV x) = false:=by
 obtain ⟨g,h⟩:=I.out x hP
 obtain ⟨h1,h2,h3⟩:=h hx
 have x0:=there_ne0 (gE_there g).1
 have : ¬ m.fst = x:=fun e => by
  rcases I.fst_mem with h4 | h4
  ·exact x0 (e ▸ h4)
  ·exact hx (e ▸ h4)
 simp only [M.liB,h1,h2,h3,beq_self_eq_true,Bool.and_self,Bool.not_true,Bool.false_or,beq_eq_false_iff_ne,ne_eq,this,not_false_eq_true]
end
end Go.Proofs.Ytcdfofeolgbnbaa

