/- Move and Swap,of the code and of the document,tell the same of a memory in order; and it stays in order. -/
import Derived.Test.YtcdfofeolgbnbaaZ8
import Derived.Test.YtcdfofeolgbnbaaZ16
import Derived.Test.YtcdfofeolgbnbaaZ15
import Derived.Test.YtcdfofeolgbnbaaZ14
/- Law 11: a cap laid; what is promised. -/
namespace Go.Proofs.Ytcdfofeolgbnbaa
open Go.D
open Nat (reduceAdd reducePow reduceMul reduceSub reduceLeDiff reduceLT reduceEqDiff)
open Int (reduceNeg reduceLE reduceEq reduceNe reduceToNat)
open Go.D renaming istep → zx,pickR → zw,bin1R → zv,un1R → zu,eqS → zq,eq1 → zp,cmpS → zj,cmp1 → zk,isNil → zg,shows → zZ,result → zY,q_cond_t → zU,q_cond_f → zQ
open List renaming set → zX,replicate → zW
open Option renaming map → zV
open Nat renaming reduceAdd → yz,reducePow → yy,reduceMul → yx,reduceSub → yw,reduceLeDiff → yv,reduceLT → yu,reduceEqDiff → yq
open Int renaming reduceNeg → yp,reduceLE → yj,reduceEq → yk,reduceNe → yg,reduceToNat → yZ,reducePow → yY,reduceLT → yX,reduceAdd → yW,reduceSub → yV,reduceMul → yU,reduceBEq → yQ,reduceBNe → xz
set_option linter.all false
set_option maxRecDepth 100000
set_option maxHeartbeats 8000000

def hndS (n : Int) : Slot:=⟨hndV n,0,0,0⟩
def laysV (m r : M) (a n : Int) : Bool:=if r.gE a = 0 ∧ r.eB a = true then m.pE a (hndS n) == (r.gX a).pE a (hndS n) else true
def laysX (m r : M) (a n : Int) : M × M:=if r.gE a = 0 ∧ r.eB a = true then (m.pX a (hndS n),(r.gX a).pX a (hndS n)) else (m,r.gX a)
def laysM (m r : M) (st : M → M → List Blk) : List V → Res
 | [.s (.i .i64 a), .s (.i .i64 n)] => .ob (-9223372036854775808 ≤ n ∧ n < 9223372036854775808) (.ok (.s (.b (laysV m r a n))) [] (st (laysX m r a n).1 (laysX m r a n).2))
 | _ => .bad
noncomputable def laysG:=bothF laysM
noncomputable def TLa : Tab:=addT 27 empty2G (addT 52 hndG (addT 38 put2G (addT 53 put2G (noT))))
theorem TLa_snd : TLa.Snd Try.prog:=addT_snd ok27 rempty2_snd (addT_snd ok52 hnd_snd (addT_snd ok38 put2_snd (addT_snd ok53 rput2_snd ((noT_snd _)))))
theorem lays_snd : Snd Try.prog 23 (FSpec.of laysG):=snd_run TLa_snd mixed Try.func23 dc23 200 fun args H K hc hS => by
 obtain ⟨H0,c,a,b,p,q,m,r,rest,rfl,rfl,I,hS1⟩:=bothF_spec hS
 clear hS
 unfold laysM at hS1
 split at hS1
 ·rename_i x n
  obtain ⟨hn,hS⟩:=hS1
  simp only [spec_ok,laysV,laysX] at hS
  obtain ⟨⟨⟨c0,c1,c2,c3,c4,c5,c6,c7,c8,c9,c10⟩,p0,q0,r0⟩,hs⟩ : ∃ s,hndS n = s:=⟨_,rfl⟩
  have hcap : hndV n = ⟨c0,c1,c2,c3,c4,c5,c6,c7,c8,c9,c10⟩:=by have:=congrArg Slot.cap hs; exact this
  have hl : (0 : Int) = p0 ∧ (0 : Int) = q0 ∧ (0 : Int) = r0:=⟨congrArg Slot.prev hs,congrArg Slot.next hs,congrArg Slot.depth hs⟩
  obtain ⟨rfl,rfl,rfl⟩:=hl
  rw [hs] at hS
  by_cases h1 : r.gE x = 0
  ·have h1' : (r.gE x == 0) = true:=by simpa using h1
   cases h2 : r.eB x
   ·rw [if_neg (by simp [h2]),if_neg (by simp [h2])] at hS
    simp (maxSteps:=9999999) only [EV0,zx,zw,zv,zu,zq,zp,zj,zk,zg,leT,zZ,rvC,zY,zX,zW,zV,↓zU,↓zQ,reduceCtorEq,yz,yy,yY,yx,yw,yv,yu,yq,yp,yX,yj,yk,yg,yW,yV,yU,yZ,yQ,xz,df23,TLa,empty2G,empty2M,I.at_c,I.fm,I.fr,h1,h2,bne]
    exact hS
   ·rw [if_pos ⟨h1,h2⟩,if_pos ⟨h1,h2⟩] at hS
    simp (maxSteps:=9999999) only [EV0,zx,zw,zv,zu,zq,zp,zj,zk,zg,leT,zZ,rvC,zY,zX,zW,zV,↓zU,↓zQ,reduceCtorEq,yz,yy,yY,yx,yw,yv,yu,yq,yp,yX,yj,yk,yg,yW,yV,yU,yZ,yQ,xz,df23,TLa,empty2G,empty2M,hndG,put2G,put2M,slotF,hcap,I.at_c,I.fm,I.fr,h1,h2,hn,bne,Slot.cl,Cap.cl,put,fillP,sub,EVt]
    exact hS
  ·have h1' : (r.gE x == 0) = false:=by simpa using h1
   rw [if_neg (fun h => h1 h.1),if_neg (fun h => h1 h.1)] at hS
   simp (maxSteps:=9999999) only [EV0,zx,zw,zv,zu,zq,zp,zj,zk,zg,leT,zZ,rvC,zY,zX,zW,zV,↓zU,↓zQ,reduceCtorEq,yz,yy,yY,yx,yw,yv,yu,yq,yp,yX,yj,yk,yg,yW,yV,yU,yZ,yQ,xz,df23,TLa,empty2G,empty2M,I.at_c,I.fm,I.fr,h1',h1,bne]
   exact hS
 ·exact hS1.elim
structure Op where
 wh : Int
 a : Int
 b : Int
 n : Int
def Op.cl (x : Op) : List S:=[.i .i64 x.wh, .i .i64 x.a, .i .i64 x.b, .i .i64 x.n]
theorem Op.cl_len (x : Op) : x.cl.length = 4:=rfl
theorem Op.inj {x y : Op} (e : x.cl = y.cl) : x = y:=by
 obtain ⟨a,b,c,d⟩:=x
 obtain ⟨a',b',c',d'⟩:=y
 simp only [Op.cl,List.cons.injEq,S.i.injEq,true_and,and_true] at e
 obtain ⟨rfl,rfl,rfl,rfl⟩:=e
 rfl
instance : Cells Op.cl:=⟨⟨4,Op.cl_len⟩,fun x y e => Op.inj e⟩
def opF (f : Op → Res) : List V → Res
 | [.agg [.i .i64 a, .i .i64 b, .i .i64 c, .i .i64 d]] => f ⟨a,b,c,d⟩
 | _ => .bad
theorem opF_spec {f : Op → Res} {args : List V} {K : V → List Blk → Prop} (h : (opF f args).spec K) : ∃ x : Op,args = [.agg x.cl] ∧ (f x).spec K:=by
 unfold opF at h
 split at h
 ·exact ⟨_,rfl,h⟩
 ·exact h.elim
def M.rli (r : M) : Option (List Int) × M:=rdW (-1) (r.w.length / 4) (r.w.length / 4 + 2) r.fst r.fstX []
def promV (r : M) (x : Op) : Bool:=match r.rli with
 | (none,_) => false
 | (some L,_) => (x.wh == 1 || (!(r.gE x.a == 0) || (r.eB x.a || decide (x.a ∈ L)))) && (!(r.gE x.b == 0) || (r.eB x.b || (decide (x.b ∈ L) || (x.wh == 1 && x.b == 0))))
def promX (r : M) (x : Op) : M:=match r.rli with
 | (none,r2) => r2
 | (some _,r2) => (r2.gX x.a).gX x.b
def promM (m r : M) (st : M → M → List Blk) : List V → Res:=opF fun x => .ok (.s (.b (promV r x))) [] (st m (promX r x))
noncomputable def promG:=bothF promM
theorem rdW_w {d : Int} {N : Nat} : ∀ (k : Nat) (x : Int) (m : M) (l : List Int),(rdW d N k x m l).2.w = m.w
 | 0,x,m,l => rfl
 | k + 1,x,m,l => by
  simp only [rdW]
  split
  ·rfl
  ·split
   ·split
    ·exact gX_w _ _
    ·exact (rdW_w k _ _ _).trans (gX_w _ _)
   ·exact gX_w _ _
noncomputable def TPr : Tab:=addT 49 rlisG (addT 27 empty2G (addT 51 containsG (noT)))
theorem TPr_snd : TPr.Snd Try.prog:=addT_snd ok49 rlis_snd (addT_snd ok27 rempty2_snd (addT_snd ok51 has_snd ((noT_snd _))))
theorem prom_snd : Snd Try.prog 24 (FSpec.of promG):=(fwp_sound (Tab.snd_Γ TPr_snd) mixed Try.func24 dc24).weaken fun args H K hc hS => by
 refine fwp_runW (Tab.ok_Γ _) 300 ?_
 obtain ⟨H0,c,a,b,p,q,m,r,rest,rfl,rfl,I,hS1⟩:=bothF_spec hS
 clear hS
 obtain ⟨⟨xw,xa,xb,xn⟩,rfl,hS⟩:=opF_spec hS1
 clear hS1
 simp only [spec_ok,promV,promX] at hS
 obtain ⟨o,ho⟩ : ∃ o,r.rli = o:=⟨_,rfl⟩
 rw [ho] at hS
 have ho2:=ho
 unfold M.rli at ho
 have hw : o.2.w = r.w:=by rw [← ho]; exact (rdW_w _ _ _ _).trans (fstX_w _)
 have hE : ∀ x,o.2.gE x = r.gE x:=fun x => gE_w hw x
 have hB : ∀ x,o.2.eB x = r.eB x:=fun x => eB_w hw x
 have hrl:=r.l
 have hcl:=I.clean hc
 have hln : ∀ m' r' X,(twoH H0 a b p q m r []).length = (twoH H0 a b p q m' r' X).length - X.length:=fun m' r' X => by rw [twoH_len,twoH_len]; simp
 rcases o with ⟨_ | _ | ⟨z,l⟩,r2⟩
 ·simp only at hS
  simp (maxSteps:=9999999) only [EV0,zx,zw,zv,zu,zq,zp,zj,zk,zg,leT,zZ,rvC,zY,zX,zW,zV,↓zU,↓zQ,reduceCtorEq,yz,yy,yY,yx,yw,yv,yu,yq,yp,yX,yj,yk,yg,yW,yV,yU,yZ,yQ,xz,df24,TPr,rlisG,rlisM,dscR,ho,I.at_c,I.fr,Op.cl,bne]
  refine fin_of (v:=.s (.b false)) (ls:=[]) (h:=twoH H0 a b p q m r2 []) rfl ?_ ?_
  ·exact Wk.keep 0 rfl rfl (by simp (maxSteps:=9999999) only [EV0,zx,zw,zv,zu,zq,zp,zj,zk,zg,leT,zZ,rvC,zY,zX,zW,zV,↓zU,↓zQ,reduceCtorEq,yz,yy,yY,yx,yw,yv,yu,yq,yp,yX,yj,yk,yg,yW,yV,yU,yZ,yQ,xz]) (by rfl) (by rfl)
  ·simp (maxSteps:=9999999) only [EV0,zx,zw,zv,zu,zq,zp,zj,zk,zg,leT,zZ,rvC,zY,zX,zW,zV,↓zU,↓zQ,reduceCtorEq,yz,yy,yY,yx,yw,yv,yu,yq,yp,yX,yj,yk,yg,yW,yV,yU,yZ,yQ,xz]
   exact hS
 ·simp only at hS hE hB
  cases k : xw == 1
  ·simp only [k,List.not_mem_nil,decide_false,Bool.false_or,Bool.or_false,Bool.true_or,Bool.true_and,Bool.false_and] at hS
   simp (maxSteps:=9999999) only [EV0,zx,zw,zv,zu,zq,zp,zj,zk,zg,leT,zZ,rvC,zY,zX,zW,zV,↓zU,↓zQ,reduceCtorEq,yz,yy,yY,yx,yw,yv,yu,yq,yp,yX,yj,yk,yg,yW,yV,yU,yZ,yQ,xz,df24,TPr,rlisG,rlisM,dscR,empty2G,empty2M,containsG,intsOf_ns,ho,I.at_c,I.fr,Op.cl,hE,hB,gX_gE,gX_eB,bne,List.not_mem_nil,decide_false,k]
   refine fin_of (v:=.s (.b ((!r.gE xa == 0 || r.eB xa) && (!r.gE xb == 0 || r.eB xb)))) (ls:=[]) (h:=twoH H0 a b p q m ((r2.gX xa).gX xb) []) rfl (Wk.keep 0 rfl rfl (by simp (maxSteps:=9999999) only [EV0,zx,zw,zv,zu,zq,zp,zj,zk,zg,leT,zZ,rvC,zY,zX,zW,zV,↓zU,↓zQ,reduceCtorEq,yz,yy,yY,yx,yw,yv,yu,yq,yp,yX,yj,yk,yg,yW,yV,yU,yZ,yQ,xz]) (by rfl) (by rfl)) ?_
   simp (maxSteps:=9999999) only [EV0,zx,zw,zv,zu,zq,zp,zj,zk,zg,leT,zZ,rvC,zY,zX,zW,zV,↓zU,↓zQ,reduceCtorEq,yz,yy,yY,yx,yw,yv,yu,yq,yp,yX,yj,yk,yg,yW,yV,yU,yZ,yQ,xz]
   exact hS
  ·simp only [k,List.not_mem_nil,decide_false,Bool.false_or,Bool.or_false,Bool.true_or,Bool.true_and,Bool.false_and] at hS
   simp (maxSteps:=9999999) only [EV0,zx,zw,zv,zu,zq,zp,zj,zk,zg,leT,zZ,rvC,zY,zX,zW,zV,↓zU,↓zQ,reduceCtorEq,yz,yy,yY,yx,yw,yv,yu,yq,yp,yX,yj,yk,yg,yW,yV,yU,yZ,yQ,xz,df24,TPr,rlisG,rlisM,dscR,empty2G,empty2M,containsG,intsOf_ns,ho,I.at_c,I.fr,Op.cl,hE,hB,gX_gE,gX_eB,bne,List.not_mem_nil,decide_false,k]
   refine fin_of (v:=.s (.b (!r.gE xb == 0 || (r.eB xb || xb == 0)))) (ls:=[]) (h:=twoH H0 a b p q m ((r2.gX xa).gX xb) []) rfl (Wk.keep 0 rfl rfl (by simp (maxSteps:=9999999) only [EV0,zx,zw,zv,zu,zq,zp,zj,zk,zg,leT,zZ,rvC,zY,zX,zW,zV,↓zU,↓zQ,reduceCtorEq,yz,yy,yY,yx,yw,yv,yu,yq,yp,yX,yj,yk,yg,yW,yV,yU,yZ,yQ,xz]) (by rfl) (by rfl)) ?_
   simp (maxSteps:=9999999) only [EV0,zx,zw,zv,zu,zq,zp,zj,zk,zg,leT,zZ,rvC,zY,zX,zW,zV,↓zU,↓zQ,reduceCtorEq,yz,yy,yY,yx,yw,yv,yu,yq,yp,yX,yj,yk,yg,yW,yV,yU,yZ,yQ,xz]
   exact hS
 ·simp only at hS hE hB
  have hl:=rdW_len _ _ _ _ ho
  simp only [List.length_cons,List.length_nil] at hl
  have hl2 : (z :: l).length ≤ 8796093022208:=by simp only [List.length_cons]; omega
  have hA : ∀ r' c,arrOf In.c (twoH H0 a b p q m r' [⟨.rw,intsB (z :: l),c⟩]) (.sl (.g H0.length) 0 (l.length + 1) c) = some (z :: l):=fun r' c => intsOf_at (IsB.at_x _ _ _ _)
  obtain ⟨d1,hd1⟩ : ∃ d,decide (xa ∈ z :: l) = d:=⟨_,rfl⟩
  obtain ⟨d2,hd2⟩ : ∃ d,decide (xb ∈ z :: l) = d:=⟨_,rfl⟩
  rw [hd1,hd2] at hS
  cases k : xw == 1
  ·simp only [k,Bool.true_or,Bool.true_and,Bool.false_and,Bool.false_or,Bool.or_false] at hS
   simp (maxSteps:=9999999) only [EV0,zx,zw,zv,zu,zq,zp,zj,zk,zg,leT,zZ,rvC,zY,zX,zW,zV,↓zU,↓zQ,reduceCtorEq,yz,yy,yY,yx,yw,yv,yu,yq,yp,yX,yj,yk,yg,yW,yV,yU,yZ,yQ,xz,df24,TPr,rlisG,rlisM,dscR,empty2G,empty2M,containsG,ho,I.at_c,I.fr,Op.cl,hE,hB,gX_gE,gX_eB,bne,k,twoH_app,twoH_len,List.length_nil,Nat.add_zero,List.nil_append,hA,hd1,hd2,hl2]
   intro c1 _
   refine ⟨fun _ _ => by omega,fun _ _ => by omega, ?_⟩
   have e0:=twoH_len (H:=H0) (X:=[]) (a:=a) (b:=b) (p:=p) (q:=q) m ((r2.gX xa).gX xb)
   refine fin_of (v:=.s (.b ((!r.gE xa == 0 || (r.eB xa || d1)) && (!r.gE xb == 0 || (r.eB xb || d2))))) (ls:=[]) (h:=twoH H0 a b p q m ((r2.gX xa).gX xb) []) rfl ?_ ?_
   ·rw [twoH_x m _ [_]]
    exact drop_b (by simp (maxSteps:=9999999) only [EV0,zx,zw,zv,zu,zq,zp,zj,zk,zg,leT,zZ,rvC,zY,zX,zW,zV,↓zU,↓zQ,reduceCtorEq,yz,yy,yY,yx,yw,yv,yu,yq,yp,yX,yj,yk,yg,yW,yV,yU,yZ,yQ,xz]) (hcl _ _) (Nat.le_of_eq (by rw [e0]; rfl))
   ·simp (maxSteps:=9999999) only [EV0,zx,zw,zv,zu,zq,zp,zj,zk,zg,leT,zZ,rvC,zY,zX,zW,zV,↓zU,↓zQ,reduceCtorEq,yz,yy,yY,yx,yw,yv,yu,yq,yp,yX,yj,yk,yg,yW,yV,yU,yZ,yQ,xz]
    exact hS
  ·simp only [k,Bool.true_or,Bool.true_and,Bool.false_and,Bool.false_or,Bool.or_false] at hS
   simp (maxSteps:=9999999) only [EV0,zx,zw,zv,zu,zq,zp,zj,zk,zg,leT,zZ,rvC,zY,zX,zW,zV,↓zU,↓zQ,reduceCtorEq,yz,yy,yY,yx,yw,yv,yu,yq,yp,yX,yj,yk,yg,yW,yV,yU,yZ,yQ,xz,df24,TPr,rlisG,rlisM,dscR,empty2G,empty2M,containsG,ho,I.at_c,I.fr,Op.cl,hE,hB,gX_gE,gX_eB,bne,k,twoH_app,twoH_len,List.length_nil,Nat.add_zero,List.nil_append,hA,hd1,hd2,hl2]
   intro c1 _
   refine ⟨fun _ _ => by omega,fun _ _ => by omega, ?_⟩
   have e0:=twoH_len (H:=H0) (X:=[]) (a:=a) (b:=b) (p:=p) (q:=q) m ((r2.gX xa).gX xb)
   refine fin_of (v:=.s (.b (!r.gE xb == 0 || (r.eB xb || (d2 || xb == 0))))) (ls:=[]) (h:=twoH H0 a b p q m ((r2.gX xa).gX xb) []) rfl ?_ ?_
   ·rw [twoH_x m _ [_]]
    exact drop_b (by simp (maxSteps:=9999999) only [EV0,zx,zw,zv,zu,zq,zp,zj,zk,zg,leT,zZ,rvC,zY,zX,zW,zV,↓zU,↓zQ,reduceCtorEq,yz,yy,yY,yx,yw,yv,yu,yq,yp,yX,yj,yk,yg,yW,yV,yU,yZ,yQ,xz]) (hcl _ _) (Nat.le_of_eq (by rw [e0]; rfl))
   ·simp (maxSteps:=9999999) only [EV0,zx,zw,zv,zu,zq,zp,zj,zk,zg,leT,zZ,rvC,zY,zX,zW,zV,↓zU,↓zQ,reduceCtorEq,yz,yy,yY,yx,yw,yv,yu,yq,yp,yX,yj,yk,yg,yW,yV,yU,yZ,yQ,xz]
    exact hS
end Go.Proofs.Ytcdfofeolgbnbaa

/- Links turned at a place's neighbours; Insert and Move,of the code and of the document,at slots that are in order. -/
namespace Go.Proofs.Ytcdfofeolgbnbaa
open Go.D
set_option linter.all false
set_option maxRecDepth 100000
set_option maxHeartbeats 4000000

theorem fE_zero {m : M} {x : Int} : m.fE x = 0 ↔ m.gE x = 0 ∧ (m.gV x).cap.ty ≠ 0:=by
 unfold M.fE
 constructor
 ·intro h
  split at h
  ·cases h
  ·rename_i hn
   exact ⟨h,fun e => hn ⟨h,e⟩⟩
 ·intro h
  rw [if_neg fun h2 => h.2 h2.2]
  exact h.1
theorem fE_there {m : M} {x : Int} (h : m.fE x = 0) : thereB m x = true:=(gE_there (fE_zero.1 h).1).1
theorem link_there {m : M} {x : Int} (h : thereB m x = true) : linkB x = true:=by
 have hl:=m.l
 have hb:=there_iff.1 h
 simp only [linkB,Bool.and_eq_true,decide_eq_true_eq,beq_iff_eq]
 omega
theorem link_0 : linkB 0 = true:=by decide
theorem full_mk {m : M} {x : Int} (h : m.fE x = 0) {p n d : Int} (hp : linkB p = true) (hn : linkB n = true) (h0 : 0 ≤ d) (h1 : d < 65536) : slotRB ⟨(m.gV x).cap,p,n,d⟩ = true:=by
 have h2:=(slotRB_iff (m.gV_u x)).1
 have h3:=(fE_zero.1 h).2
 have h4 : ((m.gV x).cap.ty == 0) = false:=by simpa using h3
 simp only [slotRB,h2,h4,hp,hn,h0,h1,Bool.false_and,Bool.not_false,decide_true,Bool.and_self]
theorem gV_links (m : M) (x : Int) : linkB (m.gV x).prev = true ∧ linkB (m.gV x).next = true ∧ 0 ≤ (m.gV x).depth ∧ (m.gV x).depth < 65536:=by
 have h:=m.gV_u x
 simp only [slotRB,Bool.and_eq_true,decide_eq_true_eq] at h
 exact ⟨h.2.2.1,h.2.2.2.1,h.2.2.2.2⟩
theorem gV_zero (m : M) : m.gV 0 = slotZ:=by
 unfold M.gV
 rw [if_neg]
 intro h
 exact there_ne0 h.1 rfl
def Slot.toN (s : Slot) (a : Int) : Slot:=⟨s.cap,s.prev,a,s.depth⟩
def Slot.toP (s : Slot) (a : Int) : Slot:=⟨s.cap,a,s.next,s.depth⟩
def jnV (V : Int → Slot) (p a n : Int) (x : Int) : Slot:=if x = p then (V p).toN a else if x = n then (V n).toP a else V x

structure M.To (m m' : M) (V : Int → Slot) (F : Int) : Prop where
 fr : M.Fr m m'
 E : ∀ x,m'.gE x = m.gE x
 V : ∀ x,x ≠ 0 → m'.gV x = V x
 F : m'.fst = F
theorem M.To.refl (m : M) : M.To m m m.gV m.fst:=⟨.refl m,fun _ => rfl,fun _ _ => rfl,rfl⟩
theorem M.To.of_w {m m1 m2 : M} {V : Int → Slot} {F : Int} (h : M.To m m1 V F) (e : m2.w = m1.w) : M.To m m2 V F :=
 ⟨h.fr.of_w e,fun x => (gE_w e x).trans (h.E x),fun x hx => (gV_w e x).trans (h.V x hx),(fst_w e).trans h.F⟩
theorem M.To.from_w {m m' m1 : M} {V : Int → Slot} {F : Int} (h : M.To m m1 V F) (e : m'.w = m.w) : M.To m' m1 V F :=
 ⟨h.fr.from_w e,fun x => (h.E x).trans (gE_w e x).symm,h.V,h.F⟩
theorem M.To.val {m m' : M} {V : Int → Slot} {F : Int} (h : M.To m m' V F) {V' : Int → Slot} (e : ∀ x,x ≠ 0 → V x = V' x) {F' : Int} (f : F = F') : M.To m m' V' F' :=
 ⟨h.fr,h.E,fun x hx => (h.V x hx).trans (e x hx),h.F.trans f⟩
theorem M.To.gX {m m' : M} {V : Int → Slot} {F : Int} (h : M.To m m' V F) (a : Int) : M.To m (m'.gX a) V F:=h.of_w (gX_w _ _)
theorem M.To.fstX {m m' : M} {V : Int → Slot} {F : Int} (h : M.To m m' V F) : M.To m m'.fstX V F:=h.of_w (fstX_w _)
theorem M.To.liX {m m' : M} {V : Int → Slot} {F : Int} (h : M.To m m' V F) (s : Slot) : M.To m (m'.liX s) V F:=h.of_w (liX_w _ _)
theorem M.To.there {m m' : M} {V : Int → Slot} {F : Int} (h : M.To m m' V F) (x : Int) : thereB m' x = thereB m x:=h.fr.there x
theorem M.To.fE {m m' : M} {V : Int → Slot} {F : Int} (h : M.To m m' V F) {x : Int} (hx : x ≠ 0) : m'.fE x = if m.gE x = 0 ∧ (V x).cap.ty = 0 then 121 else m.gE x:=by
 simp only [M.fE,h.E,h.V x hx]
theorem M.To.pX {m m' : M} {V : Int → Slot} {F : Int} (h : M.To m m' V F) {a : Int} {s : Slot} (ha : m.gE a = 0) (hr : slotRB s = true) : M.To m (m'.pX a s) (fun x => if x = a then s else V x) F:=by
 have ht : thereB m' a = true:=by rw [h.there]; exact (gE_there ha).1
 refine ⟨h.fr.pX a s,fun x => ?_,fun x hx => ?_,(pX_fst ht hr).trans h.F⟩
 ·rw [pX_gE ht hr]
  split
  ·rename_i e; rw [e,ha]
  ·exact h.E x
 ·rw [pX_gV ht hr]
  split
  ·rfl
  ·exact h.V x hx
theorem M.To.sfX {m m' : M} {V : Int → Slot} {F : Int} (h : M.To m m' V F) (hl : 4 ≤ m.w.length) {n : Int} (hn : n = 0 ∨ thereB m n = true) : M.To m (m'.sfX n) V n :=
 ⟨h.fr.sfX hl,fun x => (sfX_gE _ _ _).trans (h.E x),fun x hx => (sfX_gV _ _ _).trans (h.V x hx),sfX_fst (by rw [h.there]; exact hn) (by rw [h.fr.len]; exact hl)⟩
theorem M.To.trans {m m1 m2 : M} {V V' : Int → Slot} {F F' : Int} (h : M.To m m1 V F) (h2 : M.To m1 m2 V' F') : M.To m m2 V' F':=by
 refine ⟨⟨h2.fr.len.trans h.fr.len,fun j hj => (h2.fr.low j hj).trans (h.fr.low j hj),fun x hx => ?_,fun e => h2.fr.two (h.fr.two e)⟩,fun x => (h2.E x).trans (h.E x),h2.V,h2.F⟩
 by_cases e : m.gE x = 0
 ·exact .inl (by rw [h2.E,h.E]; exact e)
 ·right
  have e1 : ¬ m1.gE x = 0:=by rw [h.E]; exact e
  have e2 : ¬ m2.gE x = 0:=by rw [h2.E,h.E]; exact e
  have w1:=(h.fr.slot x hx).resolve_left e1
  have w2:=(h2.fr.slot x (by rw [h.there]; exact hx)).resolve_left e2
  exact fun k k1 k2 => (w2 k k1 k2).trans (w1 k k1 k2)
theorem M.To.det {m m' m1 m2 : M} {V V' : Int → Slot} {F F' : Int} (h1 : M.To m m1 V F) (h2 : M.To m' m2 V' F') (hw : m'.w = m.w) (hV : ∀ x,x ≠ 0 → V x = V' x) (hF : F = F') (h4 : m.w.length % 4 = 0) (htwo : m.at 2 = m.fst) : m1.w = m2.w:=by
 have h2:=h2.from_w hw.symm
 refine h1.fr.det h2.fr (fun x => (h1.E x).trans (h2.E x).symm) (fun x => ?_) (h1.F.trans (hF.trans h2.F.symm)) h4 htwo
 by_cases e : x = 0
 ·subst e; rw [gV_zero,gV_zero]
 ·rw [h1.V x e,h2.V x e,hV x e]

theorem M.To.full {m m' : M} {V : Int → Slot} {F : Int} (h : M.To m m' V F) {x : Int} (hx : m.gE x = 0) (ht : (V x).cap.ty ≠ 0) : m'.fE x = 0:=by
 have h0:=there_ne0 (gE_there hx).1
 exact fE_zero.2 ⟨(h.E x).trans hx,by rw [h.V x h0]; exact ht⟩
theorem M.To.turn {m m' : M} {V : Int → Slot} {F : Int} (h : M.To m m' V F) {x : Int} (hx : m.gE x = 0) (ht : (V x).cap.ty ≠ 0) {g : Slot → Slot} (hr : slotRB (g (V x)) = true) : M.To m (m'.turnX x g) (fun y => if y = x then g (V x) else V y) F:=by
 have h0:=there_ne0 (gE_there hx).1
 unfold M.turnX
 rw [if_neg h0,if_pos (h.full hx ht),h.V x h0]
 exact (h.gX x).pX hx hr
theorem M.To.turn0 {m m' : M} {V : Int → Slot} {F : Int} (h : M.To m m' V F) {g : Slot → Slot} : M.To m (m'.turnX 0 g) V F:=by
 unfold M.turnX
 rw [if_pos rfl]; exact h
theorem M.To.vlinks {m m' : M} {V : Int → Slot} {F : Int} (h : M.To m m' V F) {x : Int} (h0 : x ≠ 0) (ht : (V x).cap.ty ≠ 0) {p n d : Int} (hp : linkB p = true) (hn : linkB n = true) (d0 : 0 ≤ d) (d1 : d < 65536) : slotRB ⟨(V x).cap,p,n,d⟩ = true:=by
 have h2:=(slotRB_iff (m'.gV_u x)).1
 rw [h.V x h0] at h2
 have h4 : ((V x).cap.ty == 0) = false:=by simpa using ht
 simp only [slotRB,h2,h4,hp,hn,d0,d1,Bool.false_and,Bool.not_false,decide_true,Bool.and_self]
theorem M.To.lk {m m' : M} {V : Int → Slot} {F : Int} (h : M.To m m' V F) {x : Int} (h0 : x ≠ 0) : linkB (V x).prev = true ∧ linkB (V x).next = true ∧ 0 ≤ (V x).depth ∧ (V x).depth < 65536:=by
 have:=gV_links m' x
 rw [h.V x h0] at this
 exact this
theorem M.To.join {m m' : M} {V : Int → Slot} {F : Int} (h : M.To m m' V F) (hl : 4 ≤ m.w.length) {p a n : Int} (hp : p = 0 ∨ (m.gE p = 0 ∧ (V p).cap.ty ≠ 0)) (hn : n = 0 ∨ (m.gE n = 0 ∧ (V n).cap.ty ≠ 0)) (hpn : n = 0 ∨ p ≠ n) (ha : a = 0 ∨ thereB m a = true) :
  M.To m (m'.joinX p a n) (jnV V p a n) (if p = 0 then a else F):=by
 have la : linkB a = true:=by
  rcases ha with rfl | ha
  ·exact link_0
  ·exact link_there ha
 have h1 : M.To m ((if p = 0 then m'.sfX a else m').turnX p fun s => ⟨s.cap,s.prev,a,s.depth⟩) (fun x => if x = p then (V p).toN a else V x) (if p = 0 then a else F):=by
  by_cases hp0 : p = 0
  ·subst hp0
   simp only [if_true]
   exact ((h.sfX hl ha).turn0).val (fun x hx => by simp only [hx,if_false]) rfl
  ·obtain ⟨e1,e2⟩:=hp.resolve_left hp0
   obtain ⟨k1,k2,k3,k4⟩:=h.lk hp0
   simp only [if_neg hp0]
   exact h.turn e1 e2 (h.vlinks hp0 e2 k1 la k3 k4)
 unfold M.joinX
 by_cases hn0 : n = 0
 ·subst hn0
  exact h1.turn0.val (fun x hx => by simp only [jnV,hx,if_false]) rfl
 ·obtain ⟨e1,e2⟩:=hn.resolve_left hn0
  have hne:=hpn.resolve_left hn0
  have ev : (fun x => if x = p then (V p).toN a else V x) n = V n:=by simp only [if_neg (Ne.symm hne)]
  obtain ⟨k1,k2,k3,k4⟩:=h.lk hn0
  have:=h1.turn (x:=n) (g:=fun s => ⟨s.cap,a,s.next,s.depth⟩) e1 (by simp only [if_neg (Ne.symm hne)]; exact e2) (by simp only [if_neg (Ne.symm hne)]; exact h.vlinks hn0 e2 la k2 k3 k4)
  refine this.val (fun x hx => ?_) rfl
  simp only [jnV,if_neg (Ne.symm hne)]
  by_cases c1 : x = n
  ·subst c1
   rw [if_pos rfl,if_neg (Ne.symm hne),if_pos rfl]; rfl
  ·rw [if_neg c1]
   by_cases c2 : x = p
   ·rw [if_pos c2,if_pos c2]
   ·rw [if_neg c2,if_neg c2,if_neg c1]
theorem M.To.nk {m m' : M} {V : Int → Slot} {F : Int} (h : M.To m m' V F) {p a : Int} (hp : m.gE p = 0 ∧ (V p).cap.ty ≠ 0) (ha : a = 0 ∨ thereB m a = true) : M.To m (m'.nkX p a) (fun x => if x = p then (V p).toN a else V x) F:=by
 have la : linkB a = true:=by
  rcases ha with rfl | ha
  ·exact link_0
  ·exact link_there ha
 have h0:=there_ne0 (gE_there hp.1).1
 obtain ⟨k1,k2,k3,k4⟩:=h.lk h0
 unfold M.nkX
 rw [if_pos ((h.E p).trans hp.1),h.V p h0]
 exact (h.gX p).pX hp.1 (h.vlinks h0 hp.2 k1 la k3 k4)
theorem M.To.bk {m m' : M} {V : Int → Slot} {F : Int} (h : M.To m m' V F) {n a : Int} (hn : n = 0 ∨ (m.gE n = 0 ∧ (V n).cap.ty ≠ 0)) (ha : a = 0 ∨ thereB m a = true) : M.To m (m'.bkX a n) (fun x => if x = n then (V n).toP a else V x) F:=by
 have la : linkB a = true:=by
  rcases ha with rfl | ha
  ·exact link_0
  ·exact link_there ha
 by_cases h0 : n = 0
 ·subst h0
  unfold M.bkX
  rw [if_neg fun h => h.1 rfl]
  exact (h.gX 0).val (fun x hx => by simp only [hx,if_false]) rfl
 ·obtain ⟨e1,e2⟩:=hn.resolve_left h0
  obtain ⟨k1,k2,k3,k4⟩:=h.lk h0
  unfold M.bkX
  rw [if_pos ⟨h0,(h.E n).trans e1⟩,h.V n h0]
  exact (h.gX n).pX e1 (h.vlinks h0 e2 la k2 k3 k4)
theorem M.To.lkX {m m' : M} {V : Int → Slot} {F : Int} (h : M.To m m' V F) (hl : 4 ≤ m.w.length) {p a : Int} (hp : p = 0 ∨ (m.gE p = 0 ∧ (V p).cap.ty ≠ 0)) (ha : a = 0 ∨ thereB m a = true) : M.To m (m'.lkX p a) (fun x => if x = p then (V p).toN a else V x) (if p = 0 then a else F):=by
 unfold M.lkX
 by_cases h0 : p = 0
 ·subst h0
  simp only [if_true]
  exact (h.sfX hl ha).val (fun x hx => by simp only [hx,if_false]) rfl
 ·simp only [if_neg h0]
  exact h.nk (hp.resolve_left h0) ha

def chain (V : Int → Slot) (nx : Int) : Int → List Int → Prop
 | _,[] => True
 | pr,x :: L => (V x).prev = pr ∧ (V x).next = L.headD nx ∧ chain V nx x L
theorem headD_app {α : Type} (L1 L2 : List α) (d : α) : (L1 ++ L2).headD d = L1.headD (L2.headD d):=by cases L1 <;> rfl
theorem getLastD_cons' {α : Type} (x d : α) (L : List α) : (x :: L).getLastD d = L.getLastD x:=by cases L <;> rfl
theorem chain_app {V : Int → Slot} {nx : Int} : ∀ {L1 : List Int} {pr : Int} {L2 : List Int},chain V nx pr (L1 ++ L2) ↔ chain V (L2.headD nx) pr L1 ∧ chain V nx (L1.getLastD pr) L2
 | [],pr,L2 => by simp [chain]
 | x :: L1,pr,L2 => by
  rw [getLastD_cons']
  simp only [List.cons_append,chain,chain_app (L1:=L1),headD_app]
  constructor
  ·rintro ⟨h1,h2,h3,h4⟩; exact ⟨⟨h1,h2,h3⟩,h4⟩
  ·rintro ⟨⟨h1,h2,h3⟩,h4⟩; exact ⟨h1,h2,h3,h4⟩
theorem chain_congr {V V' : Int → Slot} {nx : Int} : ∀ {L : List Int} {pr : Int},(∀ x,x ∈ L → (V' x).prev = (V x).prev ∧ (V' x).next = (V x).next) → chain V nx pr L → chain V' nx pr L
 | [],_,_,_ => trivial
 | x :: L,pr,h,⟨h1,h2,h3⟩ => ⟨(h x List.mem_cons_self).1.trans h1,(h x List.mem_cons_self).2.trans h2,chain_congr (fun y hy => h y (List.mem_cons_of_mem _ hy)) h3⟩
theorem headD_map (ρ : Int → Int) (L : List Int) (d : Int) : (L.map ρ).headD (ρ d) = ρ (L.headD d):=by cases L <;> rfl
theorem chain_map {V V' : Int → Slot} {ρ : Int → Int} {nx : Int} : ∀ {L : List Int} {pr : Int},(∀ x,x ∈ L → (V' (ρ x)).prev = ρ (V x).prev ∧ (V' (ρ x)).next = ρ (V x).next) → chain V nx pr L → chain V' (ρ nx) (ρ pr) (L.map ρ)
 | [],_,_,_ => trivial
 | x :: L,pr,h,⟨h1,h2,h3⟩ => by
  refine ⟨?_, ?_,chain_map (fun y hy => h y (List.mem_cons_of_mem _ hy)) h3⟩
  ·rw [(h x List.mem_cons_self).1,h1]
  ·rw [(h x List.mem_cons_self).2,h2,headD_map]
theorem chain_at {V : Int → Slot} {nx : Int} : ∀ {L : List Int} {pr : Int},chain V nx pr L → ∀ (i : Nat) (x : Int),L[i]? = some x → (V x).prev = (if i = 0 then pr else L.getD (i - 1) 0) ∧ (V x).next = L.getD (i + 1) nx
 | [],_,_,i,x,h => by simp at h
 | y :: L,pr,⟨h1,h2,h3⟩,0,x,h => by
  simp only [List.getElem?_cons_zero,Option.some.injEq] at h
  subst h
  refine ⟨h1,h2.trans ?_⟩
  cases L <;> rfl
 | y :: L,pr,⟨h1,h2,h3⟩,i + 1,x,h => by
  simp only [List.getElem?_cons_succ] at h
  obtain ⟨k1,k2⟩:=chain_at h3 i x h
  refine ⟨k1.trans ?_,k2.trans ?_⟩
  ·cases i with
   | zero => rfl
   | succ i => simp
  ·simp
theorem nodup_at {L : List Int} (hn : L.Nodup) {i j : Nat} {x : Int} (h1 : L[i]? = some x) (h2 : L[j]? = some x) : i = j:=by
 obtain ⟨a1,a2⟩:=List.getElem?_eq_some_iff.1 h1
 obtain ⟨b1,b2⟩:=List.getElem?_eq_some_iff.1 h2
 exact (List.getElem_inj hn).1 (a2.trans b2.symm)
theorem chain_two {V : Int → Slot} {L : List Int} (hc : chain V 0 0 L) (hn : L.Nodup) (h0 : (0 : Int) ∉ L) {x y : Int} (hx : x ∈ L) (hy : y ∈ L) : (V x).next = y ↔ (V y).prev = x:=by
 obtain ⟨i,hi⟩:=List.getElem?_of_mem hx
 obtain ⟨j,hj⟩:=List.getElem?_of_mem hy
 have x0 : x ≠ 0:=fun e => h0 (e ▸ hx)
 have y0 : y ≠ 0:=fun e => h0 (e ▸ hy)
 rw [(chain_at hc i x hi).2,(chain_at hc j y hj).1]
 constructor
 ·intro h
  have hj2 : L[i + 1]? = some y:=by
   rw [List.getD_eq_getElem?_getD] at h
   cases e : L[i + 1]? with
   | none => rw [e] at h; exact absurd h.symm y0
   | some z => rw [e] at h; simp only [Option.getD_some] at h; rw [h]
  have:=nodup_at hn hj hj2
  subst this
  simp only [Nat.add_one_ne_zero,if_false,Nat.add_sub_cancel]
  rw [List.getD_eq_getElem?_getD,hi]; rfl
 ·intro h
  by_cases e : j = 0
  ·rw [if_pos e] at h; exact absurd h.symm x0
  ·rw [if_neg e] at h
   have hi2 : L[j - 1]? = some x:=by
    rw [List.getD_eq_getElem?_getD] at h
    cases e2 : L[j - 1]? with
    | none => rw [e2] at h; exact absurd h.symm x0
    | some z => rw [e2] at h; simp only [Option.getD_some] at h; rw [h]
   have:=nodup_at hn hi hi2
   rw [this,show j - 1 + 1 = j by omega,List.getD_eq_getElem?_getD,hj]; rfl
theorem chain_next {V : Int → Slot} {nx pr : Int} {L : List Int} (hc : chain V nx pr L) {x : Int} (hx : x ∈ L) : (V x).next = nx ∨ (V x).next ∈ L:=by
 obtain ⟨i,hi⟩:=List.getElem?_of_mem hx
 rw [(chain_at hc i x hi).2,List.getD_eq_getElem?_getD]
 cases e : L[i + 1]? with
 | none => exact .inl rfl
 | some z => exact .inr (List.mem_of_getElem? e)
theorem chain_prev {V : Int → Slot} {nx pr : Int} {L : List Int} (hc : chain V nx pr L) {x : Int} (hx : x ∈ L) : (V x).prev = pr ∨ (V x).prev ∈ L:=by
 obtain ⟨i,hi⟩:=List.getElem?_of_mem hx
 rw [(chain_at hc i x hi).1]
 by_cases h : i = 0
 ·rw [if_pos h]; exact .inl rfl
 ·rw [if_neg h,List.getD_eq_getElem?_getD]
  cases e : L[i - 1]? with
  | none =>
   have:=List.getElem?_eq_none_iff.1 e
   have:=(List.getElem?_eq_some_iff.1 hi).1
   omega
  | some z => exact .inr (List.mem_of_getElem? e)
theorem chain_head {V : Int → Slot} {nx pr : Int} {L : List Int} (hc : chain V nx pr L) (hn : L.Nodup) (hpr : pr ∉ L) {x : Int} (hx : x ∈ L) : (V x).prev = pr ↔ L.headD nx = x:=by
 cases L with
 | nil => cases hx
 | cons y L =>
  obtain ⟨h1,h2,h3⟩:=hc
  simp only [List.headD_cons]
  rcases List.mem_cons.1 hx with rfl | hx'
  ·exact ⟨fun _ => rfl,fun _ => h1⟩
  ·constructor
   ·intro h
    rcases chain_prev h3 hx' with e | e
    ·rw [h] at e
     exact absurd (e ▸ List.mem_cons_self) hpr
    ·rw [h] at e
     exact absurd (List.mem_cons_of_mem _ e) hpr
   ·intro h
    rw [h] at hn
    exact absurd hx' (List.nodup_cons.1 hn).1

structure M.Inv (m : M) (P : Int → Prop) (L : List Int) : Prop where
 len : 4 ≤ m.w.length ∧ m.w.length % 4 = 0
 two : m.at 2 = m.fst
 nd : L.Nodup
 full : ∀ x,x ∈ L → m.fE x = 0
 ch : chain m.gV 0 0 L
 fst : m.fst = L.headD 0
 out : ∀ x,P x → m.gE x = 0 ∧ (x ∉ L → (m.gV x).prev = 0 ∧ (m.gV x).next = 0 ∧ (m.gV x).depth = 0)
section
variable {m : M} {P : Int → Prop} {L : List Int}
theorem M.Inv.no0 (I : m.Inv P L) : (0 : Int) ∉ L:=fun h => there_ne0 (fE_there (I.full 0 h)) rfl
theorem M.Inv.gE (I : m.Inv P L) {x : Int} (h : x ∈ L) : m.gE x = 0 ∧ (m.gV x).cap.ty ≠ 0:=fE_zero.1 (I.full x h)
theorem M.Inv.next (I : m.Inv P L) {x : Int} (h : x ∈ L) : (m.gV x).next = 0 ∨ (m.gV x).next ∈ L:=chain_next I.ch h
theorem M.Inv.prev (I : m.Inv P L) {x : Int} (h : x ∈ L) : (m.gV x).prev = 0 ∨ (m.gV x).prev ∈ L:=chain_prev I.ch h
theorem M.Inv.two_way (I : m.Inv P L) {x y : Int} (hx : x ∈ L) (hy : y ∈ L) : (m.gV x).next = y ↔ (m.gV y).prev = x:=chain_two I.ch I.nd I.no0 hx hy
theorem M.Inv.first (I : m.Inv P L) {x : Int} (hx : x ∈ L) : (m.gV x).prev = 0 ↔ m.fst = x:=by
 rw [I.fst]; exact chain_head I.ch I.nd I.no0 hx
theorem M.Inv.fst_mem (I : m.Inv P L) : m.fst = 0 ∨ m.fst ∈ L:=by
 rw [I.fst]
 cases L with
 | nil => exact .inl rfl
 | cons x L => exact .inr List.mem_cons_self
theorem M.Inv.irr_next (I : m.Inv P L) {x : Int} (hx : x ∈ L) : (m.gV x).next ≠ x:=by
 intro e
 obtain ⟨i,hi⟩:=List.getElem?_of_mem hx
 have h:=(chain_at I.ch i x hi).2
 rw [e,List.getD_eq_getElem?_getD] at h
 cases e2 : L[i + 1]? with
 | none => rw [e2] at h; exact I.no0 (by simp only [Option.getD_none] at h; rw [← h]; exact hx)
 | some z =>
  rw [e2] at h
  simp only [Option.getD_some] at h
  rw [← h] at e2
  have:=nodup_at I.nd hi e2
  omega
theorem M.Inv.irr_prev (I : m.Inv P L) {x : Int} (hx : x ∈ L) : (m.gV x).prev ≠ x:=fun e => I.irr_next hx ((I.two_way hx hx).2 e)
theorem M.Inv.prev_next (I : m.Inv P L) {x : Int} (hx : x ∈ L) : (m.gV x).next = 0 ∨ (m.gV x).prev ≠ (m.gV x).next:=by
 rcases I.next hx with e | e
 ·exact .inl e
 ·right
  intro h
  obtain ⟨i,hi⟩:=List.getElem?_of_mem hx
  obtain ⟨h1,h2⟩:=chain_at I.ch i x hi
  obtain ⟨y,hy⟩ : ∃ y,y = (m.gV x).next:=⟨_,rfl⟩
  rw [h,← hy] at h1
  rw [← hy] at h2 e
  have y0 : y ≠ 0:=fun e2 => I.no0 (e2 ▸ e)
  have j1 : L[i + 1]? = some y:=by
   rw [List.getD_eq_getElem?_getD] at h2
   cases e2 : L[i + 1]? with
   | none => rw [e2] at h2; exact absurd h2 y0
   | some z => rw [e2] at h2; simp only [Option.getD_some] at h2; rw [h2]
  by_cases e0 : i = 0
  ·rw [if_pos e0] at h1; exact y0 h1
  ·rw [if_neg e0,List.getD_eq_getElem?_getD] at h1
   cases e2 : L[i - 1]? with
   | none => rw [e2] at h1; exact y0 h1
   | some z =>
    rw [e2] at h1
    simp only [Option.getD_some] at h1
    rw [← h1] at e2
    have:=nodup_at I.nd j1 e2
    omega
theorem M.Inv.listed (I : m.Inv P L) {x : Int} (hx : x ∈ L) : m.liB x (m.gV x) = true:=by
 unfold M.liB
 by_cases e : (m.gV x).prev = 0
 ·rw [(I.first hx).1 e]; simp
 ·have : ((m.gV x).prev == 0) = false:=by simpa using e
  rw [this]; rfl
theorem M.Inv.unlisted (I : m.Inv P L) {x : Int} (hP : P x) (hx : x ∉ L) : m.liB x (m.gV x) = false:=by
 obtain ⟨g,h⟩:=I.out x hP
 obtain ⟨h1,h2,h3⟩:=h hx
 have x0:=there_ne0 (gE_there g).1
 have : ¬ m.fst = x:=fun e => by
  rcases I.fst_mem with h4 | h4
  ·exact x0 (e ▸ h4)
  ·exact hx (e ▸ h4)
 simp only [M.liB,h1,h2,h3,beq_self_eq_true,Bool.and_self,Bool.not_true,Bool.false_or,beq_eq_false_iff_ne,ne_eq,this,not_false_eq_true]
end

theorem M.Inv.to {m m' : M} {P : Int → Prop} {L L' : List Int} {V : Int → Slot} {F : Int} (I : m.Inv P L) (T : m.To m' V F) (hn : L'.Nodup) (hf : ∀ x,x ∈ L' → m.gE x = 0 ∧ (V x).cap.ty ≠ 0) (hc : chain V 0 0 L') (hF : F = L'.headD 0)
  (ho : ∀ x,P x → x ∉ L' → (V x).prev = 0 ∧ (V x).next = 0 ∧ (V x).depth = 0) : m'.Inv P L':=by
 have h0 : ∀ x,x ∈ L' → x ≠ 0:=fun x hx => there_ne0 (gE_there (hf x hx).1).1
 refine ⟨⟨by rw [T.fr.len]; exact I.len.1,by rw [T.fr.len]; exact I.len.2⟩,T.fr.two I.two,hn,fun x hx => T.full (hf x hx).1 (hf x hx).2,chain_congr (fun x hx => by rw [T.V x (h0 x hx)]; exact ⟨rfl,rfl⟩) hc,T.F.trans hF,fun x hx => ?_⟩
 have hg:=(I.out x hx).1
 refine ⟨(T.E x).trans hg,fun hL => ?_⟩
 rw [T.V x (there_ne0 (gE_there hg).1)]
 exact ho x hx hL
theorem jnV_cap (V : Int → Slot) (p a n x : Int) : (jnV V p a n x).cap = (V x).cap:=by
 unfold jnV; split
 ·rename_i e; rw [e]; rfl
 ·split
  ·rename_i e; rw [e]; rfl
  ·rfl
theorem jnV_depth (V : Int → Slot) (p a n x : Int) : (jnV V p a n x).depth = (V x).depth:=by
 unfold jnV; split
 ·rename_i e; rw [e]; rfl
 ·split
  ·rename_i e; rw [e]; rfl
  ·rfl
theorem jnV_next (V : Int → Slot) (p a n x : Int) : (jnV V p a n x).next = if x = p then a else (V x).next:=by
 unfold jnV; split
 ·rfl
 ·split
  ·rename_i e; rw [e]; rfl
  ·rfl
theorem jnV_prev (V : Int → Slot) (p a n x : Int) (h : p ≠ n) : (jnV V p a n x).prev = if x = n then a else (V x).prev:=by
 unfold jnV; split
 ·rename_i e; rw [e,if_neg h]; rfl
 ·split
  ·rfl
  ·rfl
theorem jnV_out {V : Int → Slot} {p a n x : Int} (h1 : x ≠ p) (h2 : x ≠ n) : jnV V p a n x = V x:=by
 unfold jnV; rw [if_neg h1,if_neg h2]

theorem chain_pre {V V' : Int → Slot} {a q : Int} {L : List Int} (hc : chain V 0 q L) (hn : L.Nodup) (h1 : ∀ x,x ∈ L → (V' x).next = (V x).next ∧ (V' x).prev = if x = L.headD 0 then a else (V x).prev) : chain V' 0 a L:=by
 cases L with
 | nil => trivial
 | cons y L =>
  obtain ⟨k1,k2,k3⟩:=hc
  obtain ⟨e1,e2⟩:=h1 y List.mem_cons_self
  rw [List.headD_cons,if_pos rfl] at e2
  refine ⟨e2,e1.trans k2,chain_congr (fun x hx => ?_) k3⟩
  obtain ⟨e3,e4⟩:=h1 x (List.mem_cons_of_mem _ hx)
  have : x ≠ y:=fun e => (List.nodup_cons.1 hn).1 (e ▸ hx)
  rw [List.headD_cons,if_neg this] at e4
  exact ⟨e4,e3⟩

section
variable {m : M} {P : Int → Prop} {L : List Int}
def M.nx (m : M) (p : Int) : Int:=if p = 0 then m.fst else (m.gV p).next
def M.insS (m : M) (p a : Int) : Slot:=⟨(m.gV a).cap,p,m.nx p,if p = 0 then 0 else (m.gV p).depth + 1⟩
def M.insV (m : M) (p a : Int) : Int → Slot:=jnV (fun x => if x = a then m.insS p a else m.gV x) p a (m.nx p)
def M.insF (m : M) (p a : Int) : Int:=if p = 0 then a else m.fst
theorem M.Inv.nx_mem (I : m.Inv P L) {p : Int} (hp : p = 0 ∨ p ∈ L) : m.nx p = 0 ∨ m.nx p ∈ L:=by
 unfold M.nx
 split
 ·exact I.fst_mem
 ·rename_i h; exact I.next (hp.resolve_left h)
theorem M.Inv.nx_ne (I : m.Inv P L) {p : Int} (hp : p = 0 ∨ p ∈ L) : m.nx p = 0 ∨ p ≠ m.nx p:=by
 unfold M.nx
 by_cases h : p = 0
 ·rw [if_pos h]
  by_cases h2 : m.fst = 0
  ·exact .inl h2
  ·exact .inr fun e => h2 (e ▸ h)
 ·rw [if_neg h]
  exact .inr fun e => I.irr_next (hp.resolve_left h) e.symm
theorem M.Inv.link (I : m.Inv P L) {x : Int} (h : x = 0 ∨ x ∈ L) : linkB x = true:=by
 rcases h with rfl | h
 ·exact link_0
 ·exact link_there (fE_there (I.full x h))
theorem M.Inv.insR (I : m.Inv P L) {p a : Int} (hf : m.fE a = 0) (hp : p = 0 ∨ (p ∈ L ∧ (m.gV p).depth ≠ 65535)) : slotRB (m.insS p a) = true:=by
 have hp' : p = 0 ∨ p ∈ L:=hp.imp id fun h => h.1
 have h2:=gV_links m p
 refine full_mk hf (I.link hp') (I.link (I.nx_mem hp')) ?_ ?_
 ·split
  ·omega
  ·omega
 ·split
  ·omega
  ·rename_i h0
   have:=(hp.resolve_left h0).2
   omega
theorem M.Inv.ins_to (I : m.Inv P L) {p a : Int} (ha : P a) (hf : m.fE a = 0) (hu : a ∉ L) (hp : p = 0 ∨ (p ∈ L ∧ (m.gV p).depth ≠ 65535)) : (m.ins p a).1 = 0 ∧ m.To (m.ins p a).2 (m.insV p a) (m.insF p a):=by
 have hp' : p = 0 ∨ p ∈ L:=hp.imp id fun h => h.1
 have hr:=I.insR hf hp
 obtain ⟨z1,z2,z3⟩:=(I.out a ha).2 hu
 have hli:=I.unlisted ha hu
 have hga:=(fE_zero.1 hf).1
 have hta:=(gE_there hga).1
 have a0:=there_ne0 hta
 have hV : ∀ x,x = 0 ∨ x ∈ L → x = 0 ∨ (m.gE x = 0 ∧ ((fun y => if y = a then m.insS p a else m.gV y) x).cap.ty ≠ 0):=fun x hx => hx.imp id fun h => by
  have hxa : x ≠ a:=fun e => hu (e ▸ h)
  simp only [if_neg hxa]
  exact I.gE h
 have hj:=fun {m' : M} (T : m.To m' m.gV m.fst) => (T.pX hga hr).join I.len.1 (hV p hp') (hV _ (I.nx_mem hp')) (I.nx_ne hp') (.inr hta)
 have h1:=(M.To.refl m).gX a |>.liX (m.gV a) |>.fstX
 unfold M.ins
 simp only [hf,if_true,gX_liB,hli,Bool.false_eq_true,if_false,liX_fst,gX_fst,fstX_fE,liX_fE,gX_fE,fstX_gV,liX_gV,gX_gV,z1,z3]
 by_cases h0 : p = 0
 ·subst h0
  simp only [if_true]
  refine ⟨trivial, ?_⟩
  have:=hj h1
  simp only [M.insS,M.nx,if_true] at this
  exact this
 ·obtain ⟨hpL,hd⟩:=hp.resolve_left h0
  have hpa : p ≠ a:=fun e => hu (e ▸ hpL)
  have hw : IntKind.i64.wrap ((m.gV p).depth + 1) = (m.gV p).depth + 1:=by have:=gV_links m p; rw [wrap64] <;> omega
  simp only [h0,if_false,I.full p hpL,hpa,hd,or_self,if_true,hw]
  refine ⟨trivial, ?_⟩
  have:=hj (h1.gX p)
  simp only [M.insS,M.nx,h0,if_false] at this
  simp only [M.insV,M.insF,M.insS,M.nx,h0,if_false]
  exact this
theorem M.Inv.rins_to (I : m.Inv P L) {p a : Int} (ha : P a) (hf : m.fE a = 0) (hu : a ∉ L) (hp : p = 0 ∨ (p ∈ L ∧ (m.gV p).depth ≠ 65535)) : (m.rins p a).1 = 0 ∧ m.To (m.rins p a).2 (m.insV p a) (m.insF p a):=by
 have hp' : p = 0 ∨ p ∈ L:=hp.imp id fun h => h.1
 have hr:=I.insR hf hp
 obtain ⟨z1,z2,z3⟩:=(I.out a ha).2 hu
 have hli:=I.unlisted ha hu
 have hga:=(fE_zero.1 hf).1
 have hta:=(gE_there hga).1
 have a0:=there_ne0 hta
 have hVp : p = 0 ∨ (m.gE p = 0 ∧ (m.gV p).cap.ty ≠ 0):=hp'.imp id fun h => I.gE h
 have hne:=I.nx_ne hp'
 have hpa : p ≠ a:=fun e => by
  rcases hp' with h | h
  ·exact a0 (e ▸ h)
  ·exact hu (e ▸ h)
 have hna : m.nx p ≠ a:=fun e => by
  rcases I.nx_mem hp' with h | h
  ·exact a0 (e ▸ h)
  ·exact hu (e ▸ h)
 have hVn : m.nx p = 0 ∨ (m.gE (m.nx p) = 0 ∧ ((fun x => if x = p then (m.gV p).toN a else m.gV x) (m.nx p)).cap.ty ≠ 0):=(I.nx_mem hp').imp id fun h => by
  refine ⟨(I.gE h).1, ?_⟩
  have hx : m.nx p ≠ p:=fun e => by
   rcases hne with h2 | h2
   ·exact I.no0 (h2 ▸ h)
   ·exact h2 e.symm
  simp only [if_neg hx]
  exact (I.gE h).2
 have hj:=fun {m' : M} (T : m.To m' m.gV m.fst) => (((T.lkX I.len.1 hVp (.inr hta)).bk hVn (.inr hta)).pX hga hr).val (V':=m.insV p a) (fun x hx => by
  simp only [M.insV,jnV]
  by_cases c1 : x = a
  ·subst c1
   simp only [if_true,if_neg (Ne.symm hpa),if_neg (Ne.symm hna)]
  ·by_cases c2 : x = p
   ·subst c2
    have hx : x ≠ m.nx x:=fun e => by
     rcases hne with h2 | h2
     ·exact hx (e.trans h2)
     ·exact h2 e
    simp only [if_neg c1,if_neg hx,if_true,if_neg hpa]
   ·by_cases c3 : x = m.nx p
    ·have c4 : ¬ m.nx p = p:=by rw [← c3]; exact c2
     simp only [if_neg c1,if_neg c2,if_pos c3,if_neg c4,if_neg hna]
    ·simp only [if_neg c1,if_neg c2,if_neg c3]) (F':=m.insF p a) rfl
 have h1:=(M.To.refl m).gX a |>.fstX
 unfold M.rins
 simp only [hf,if_true,gX_liB,hli,Bool.false_eq_true,if_false,gX_fst,fstX_fE,gX_fE,fstX_gV,gX_gV,z1,z3]
 by_cases h0 : p = 0
 ·subst h0
  simp only [if_true]
  refine ⟨trivial, ?_⟩
  have:=hj h1
  simp only [M.insS,M.nx,if_true] at this
  exact this
 ·obtain ⟨hpL,hd⟩:=hp.resolve_left h0
  have hw : IntKind.i64.wrap ((m.gV p).depth + 1) = (m.gV p).depth + 1:=by have:=gV_links m p; rw [wrap64] <;> omega
  simp only [h0,if_false,I.full p hpL,hpa,hd,or_self,if_true,hw]
  refine ⟨trivial, ?_⟩
  have:=hj (h1.gX p)
  simp only [M.insS,M.nx,h0,if_false] at this
  exact this
def insL (p a : Int) : List Int → List Int
 | [] => []
 | x :: L => if x = p then x :: a :: L else x :: insL p a L
theorem insL_app {p a : Int} : ∀ {L1 L2 : List Int},p ∉ L1 → insL p a (L1 ++ p :: L2) = L1 ++ p :: a :: L2
 | [],L2,_ => by simp [insL]
 | x :: L1,L2,h => by
  have hx : x ≠ p:=fun e => h (by rw [e]; exact List.mem_cons_self)
  simp only [List.cons_append,insL,if_neg hx,insL_app (L1:=L1) (L2:=L2) fun h2 => h (List.mem_cons_of_mem _ h2)]
def insLL (p a : Int) (L : List Int) : List Int:=if p = 0 then a :: L else insL p a L
theorem M.Inv.ins_inv (I : m.Inv P L) {p a : Int} (ha : P a) (hf : m.fE a = 0) (hu : a ∉ L) (hp : p = 0 ∨ p ∈ L) {m' : M} (T : m.To m' (m.insV p a) (m.insF p a)) : m'.Inv P (insLL p a L):=by
 have hga:=fE_zero.1 hf
 have a0:=there_ne0 (gE_there hga.1).1
 have hne:=I.nx_ne hp
 have hpn : ∀ x,x ∈ L → (m.insV p a x).next = (if x = p then a else (m.gV x).next) ∧ (m.insV p a x).prev = if x = m.nx p then a else (m.gV x).prev:=fun x hx => by
  have hxa : x ≠ a:=fun e => hu (e ▸ hx)
  have x0 : x ≠ 0:=fun e => I.no0 (e ▸ hx)
  refine ⟨?_, ?_⟩
  ·unfold M.insV
   rw [jnV_next]
   simp only [if_neg hxa]
  ·rcases hne with h | h
   ·have hx0 : ¬ x = m.nx p:=fun e => x0 (e.trans h)
    rw [if_neg hx0]
    unfold M.insV jnV
    split
    ·rename_i e
     have hpa : ¬ p = a:=fun e2 => hxa (e.trans e2)
     simp only [if_neg hpa]
     rw [e]; rfl
    ·simp only [if_neg hx0,if_neg hxa]
   ·unfold M.insV
    rw [jnV_prev _ _ _ _ _ h]
    simp only [if_neg hxa]
 have hVa : m.insV p a a = m.insS p a:=by
  have h1 : a ≠ p:=fun e => by
   rcases hp with h | h
   ·exact a0 (e.trans h)
   ·exact hu (e ▸ h)
  have h2 : a ≠ m.nx p:=fun e => by
   rcases I.nx_mem hp with h | h
   ·exact a0 (e.trans h)
   ·exact hu (e ▸ h)
  unfold M.insV
  rw [jnV_out h1 h2,if_pos rfl]
 have hcap : ∀ x,x = a ∨ x ∈ L → m.gE x = 0 ∧ (m.insV p a x).cap.ty ≠ 0:=fun x hx => by
  unfold M.insV
  rw [jnV_cap]
  rcases hx with rfl | hx
  ·rw [if_pos rfl]; exact hga
  ·have hxa : ¬ x = a:=fun e => hu (e ▸ hx)
   simp only [if_neg hxa]
   exact I.gE hx
 have hout : ∀ x,P x → x ≠ a → x ∉ L → (m.insV p a x).prev = 0 ∧ (m.insV p a x).next = 0 ∧ (m.insV p a x).depth = 0:=fun x hx h1 h2 => by
  have hg:=I.out x hx
  have x0:=there_ne0 (gE_there hg.1).1
  have e1 : x ≠ p:=fun e => by
   rcases hp with h | h
   ·exact x0 (e.trans h)
   ·exact h2 (e ▸ h)
  have e2 : x ≠ m.nx p:=fun e => by
   rcases I.nx_mem hp with h | h
   ·exact x0 (e.trans h)
   ·exact h2 (e ▸ h)
  unfold M.insV
  rw [jnV_out e1 e2,if_neg h1]
  exact hg.2 h2
 unfold insLL
 by_cases h0 : p = 0
 ·rw [if_pos h0]
  refine I.to T (List.nodup_cons.2 ⟨hu,I.nd⟩) (fun x hx => hcap x (List.mem_cons.1 hx)) ⟨?_, ?_, ?_⟩ ?_ (fun x hx hn => hout x hx (fun e => hn (e ▸ List.mem_cons_self)) fun h => hn (List.mem_cons_of_mem _ h))
  ·rw [hVa]; exact h0
  ·rw [hVa,← I.fst]; simp only [M.insS,M.nx,if_pos h0]
  ·refine chain_pre I.ch I.nd fun x hx => ?_
   obtain ⟨k1,k2⟩:=hpn x hx
   have x0 : x ≠ p:=fun e => I.no0 (h0 ▸ e ▸ hx)
   rw [if_neg x0] at k1
   refine ⟨k1, ?_⟩
   rw [k2,← I.fst]
   simp only [M.nx,if_pos h0]
  ·simp only [M.insF,if_pos h0,List.headD_cons]
 ·rw [if_neg h0]
  have hpL:=hp.resolve_left h0
  obtain ⟨L1,L2,rfl⟩:=List.append_of_mem hpL
  have nd:=I.nd
  have nd':=List.nodup_append.1 nd
  have hp1 : p ∉ L1:=fun h => nd'.2.2 p h p List.mem_cons_self rfl
  have hp2:=(List.nodup_cons.1 nd'.2.1).1
  rw [insL_app hp1]
  obtain ⟨c1,c2,c3,c4⟩:=chain_app.1 I.ch
  have hnx : m.nx p = L2.headD 0:=by unfold M.nx; rw [if_neg h0]; exact c3
  have hmem : ∀ x,x ∈ L1 ++ p :: a :: L2 ↔ x = a ∨ x ∈ L1 ++ p :: L2:=fun x => by
   simp only [List.mem_append,List.mem_cons]
   constructor
   ·rintro (h | h | h | h)
    ·exact .inr (.inl h)
    ·exact .inr (.inr (.inl h))
    ·exact .inl h
    ·exact .inr (.inr (.inr h))
   ·rintro (h | h | h | h)
    ·exact .inr (.inr (.inl h))
    ·exact .inl h
    ·exact .inr (.inl h)
    ·exact .inr (.inr (.inr h))
  refine I.to T ?_ (fun x hx => hcap x ((hmem x).1 hx)) (chain_app.2 ⟨?_, ?_, ?_, ?_, ?_, ?_⟩) ?_ (fun x hx hn => hout x hx (fun e => hn ((hmem x).2 (.inl e))) fun h => hn ((hmem x).2 (.inr h)))
  ·refine List.nodup_append.2 ⟨nd'.1,List.nodup_cons.2 ⟨?_,List.nodup_cons.2 ⟨fun h => hu (by simp [h]),(List.nodup_cons.1 nd'.2.1).2⟩⟩,fun x hx y hy => ?_⟩
   ·intro h
    rcases List.mem_cons.1 h with e | h
    ·exact hu (by rw [← e]; exact hpL)
    ·exact hp2 h
   ·rintro rfl
    rcases List.mem_cons.1 hy with e | hy
    ·exact nd'.2.2 x hx p List.mem_cons_self e
    ·rcases List.mem_cons.1 hy with e | hy
     ·exact hu (by rw [← e]; simp [hx])
     ·exact nd'.2.2 x hx x (List.mem_cons_of_mem _ hy) rfl
  ·refine chain_congr (fun x hx => ?_) c1
   have hxL : x ∈ L1 ++ p :: L2:=List.mem_append_left _ hx
   obtain ⟨k1,k2⟩:=hpn x hxL
   have e1 : x ≠ p:=fun e => hp1 (e ▸ hx)
   have e2 : x ≠ m.nx p:=fun e => by
    rw [hnx] at e
    cases L2 with
    | nil => exact I.no0 (by rw [← show x = 0 from e]; exact hxL)
    | cons y L2 =>
     rw [List.headD_cons] at e
     exact nd'.2.2 x hx y (List.mem_cons_of_mem _ List.mem_cons_self) e
   rw [if_neg e1] at k1
   rw [if_neg e2] at k2
   exact ⟨k2,k1⟩
  ·have:=(hpn p hpL).2
   rw [this]
   split
   ·rename_i e
    rcases hne with h | h
    ·exact absurd (e.trans h) h0
    ·exact absurd e h
   ·exact c2
  ·rw [(hpn p hpL).1,if_pos rfl]; rfl
  ·rw [hVa]; rfl
  ·rw [hVa]
   show m.nx p = L2.headD 0
   exact hnx
  ·refine chain_pre c4 (List.nodup_cons.1 nd'.2.1).2 fun x hx => ?_
   obtain ⟨k1,k2⟩:=hpn x (List.mem_append_right _ (List.mem_cons_of_mem _ hx))
   have e1 : x ≠ p:=fun e => hp2 (e ▸ hx)
   rw [if_neg e1] at k1
   exact ⟨k1,by rw [k2,hnx]⟩
  ·simp only [M.insF,if_neg h0,I.fst]
   cases L1 <;> rfl
end
end Go.Proofs.Ytcdfofeolgbnbaa

/- Package cdt: Swap. -/
namespace Go.Proofs.Ytcdfofeolgbnbaa
open Go.D
open Nat (reduceAdd reducePow reduceMul reduceSub reduceLeDiff reduceLT reduceEqDiff)
open Int (reduceNeg reduceLE reduceEq reduceNe reduceToNat)
open Go.D renaming istep → zx,pickR → zw,bin1R → zv,un1R → zu,eqS → zq,eq1 → zp,cmpS → zj,cmp1 → zk,isNil → zg,shows → zZ,result → zY,q_cond_t → zU,q_cond_f → zQ
open List renaming set → zX,replicate → zW
open Option renaming map → zV
open Nat renaming reduceAdd → yz,reducePow → yy,reduceMul → yx,reduceSub → yw,reduceLeDiff → yv,reduceLT → yu,reduceEqDiff → yq
open Int renaming reduceNeg → yp,reduceLE → yj,reduceEq → yk,reduceNe → yg,reduceToNat → yZ,reducePow → yY,reduceLT → yX,reduceAdd → yW,reduceSub → yV,reduceMul → yU,reduceBEq → yQ,reduceBNe → xz
set_option linter.all false
set_option maxRecDepth 100000
set_option maxHeartbeats 8000000

def oth (a b n : Int) : Int:=if n = a then b else if n = b then a else n
def othG : List V → List Blk → Res
 | [.s (.i .i64 n), .s (.p (.g i) 0), .s (.p (.g j) 0)],h => match cellAt h i,cellAt h j with
  | some a,some b => .ok (.s (.i .i64 (oth a b n))) [] h
  | _,_ => .bad
 | _,_ => .bad
theorem oth_snd : Snd Try.prog 41 (FSpec.of othG):=snd_run (noT_snd _) mixed Try.func41 dc41 100 fun args h K hc hS => by
 unfold othG at hS
 split at hS
 ·split at hS
  ·rename_i n i j _ _ a b hi hj
   obtain ⟨_,e1⟩:=cellAt_some hi
   obtain ⟨_,e2⟩:=cellAt_some hj
   simp only [spec_ok,oth] at hS
   by_cases c1 : n = a
   ·simp only [c1,if_true] at hS
    simp (maxSteps:=9999999) only [EV0,zx,zw,zv,zu,zq,zp,zj,zk,zg,leT,zZ,rvC,zY,zX,zW,zV,↓zU,↓zQ,reduceCtorEq,yz,yy,yY,yx,yw,yv,yu,yq,yp,yX,yj,yk,yg,yW,yV,yU,yZ,yQ,xz,df41,e1,e2,c1]
    exact hS
   ·by_cases c2 : n = b
    ·simp only [c1,if_false] at hS
     simp only [c2,if_true] at hS
     have c1' : ¬ b = a:=by rw [← c2]; exact c1
     simp (maxSteps:=9999999) only [EV0,zx,zw,zv,zu,zq,zp,zj,zk,zg,leT,zZ,rvC,zY,zX,zW,zV,↓zU,↓zQ,reduceCtorEq,yz,yy,yY,yx,yw,yv,yu,yq,yp,yX,yj,yk,yg,yW,yV,yU,yZ,yQ,xz,df41,e1,e2,c1',c2]
     exact hS
    ·simp only [c1,c2,if_false] at hS
     simp (maxSteps:=9999999) only [EV0,zx,zw,zv,zu,zq,zp,zj,zk,zg,leT,zZ,rvC,zY,zX,zW,zV,↓zU,↓zQ,reduceCtorEq,yz,yy,yY,yx,yw,yv,yu,yq,yp,yX,yj,yk,yg,yW,yV,yU,yZ,yQ,xz,df41,e1,e2,c1,c2]
     exact hS
  ·exact hS.elim
 ·exact hS.elim

def Slot.oth (a b : Int) (s : Slot) : Slot:=⟨s.cap,_root_.Go.Proofs.Ytcdfofeolgbnbaa.oth a b s.prev,_root_.Go.Proofs.Ytcdfofeolgbnbaa.oth a b s.next,s.depth⟩
def M.swap2 (m : M) (a b : Int) (s t : Slot) (x y : Bool) : M :=
 let m1:=(m.pX a (t.oth a b)).pX b (s.oth a b)
 let m2:=if x = true then m1.joinX (s.oth a b).prev b (s.oth a b).next else m1
 if y = true then m2.joinX (t.oth a b).prev a (t.oth a b).next else m2
def M.swp (m : M) (a b : Int) : Int × M :=
 if m.fE a = 0 then
  if (m.gX a).fE b = 0 then
   if a = b then (0,(m.gX a).gX b)
   else (0,((((m.gX a).gX b).liX (m.gV a)).liX ((m.gX a).gV b)).swap2 a b (m.gV a) ((m.gX a).gV b) (((m.gX a).gX b).liB a (m.gV a)) ((((m.gX a).gX b).liX (m.gV a)).liB b ((m.gX a).gV b)))
  else ((m.gX a).fE b,(m.gX a).gX b)
 else (m.fE a,m.gX a)
def swpM (b : Nat) (m : M) (st : M → List Blk) : List V → Res
 | [.s (.i .i64 f), .s (.i .i64 t)] => .ok (.s (.i .i64 (m.swp f t).1)) [] (st (m.swp f t).2)
 | _ => .bad
noncomputable def swpG:=memF swpM
noncomputable def TSw : Tab:=addT 35 fullG (addT 37 listedG (addT 38 put2G (addT 39 joinG (addT 41 othG (noT)))))
theorem TSw_snd : TSw.Snd Try.prog:=addT_snd ok35 full_snd (addT_snd ok37 listed_snd (addT_snd ok38 put2_snd (addT_snd ok39 join_snd (addT_snd ok41 oth_snd ((noT_snd _))))))
def swT (a : Nat) (x y : Bool) : List V:=setT [(0, .s (.p (.g a) 0)),(4, .s (.p (.l 0) 0)),(5, .s (.p (.l 1) 0)),(7, .s (.p (.l 2) 0)),(9, .s (.p (.l 3) 0)),(10, .s (.b x)),(11, .s (.b y))] (List.replicate 94 (.s .u))
def swL (x y : Int) (s t : Slot) : List Blk:=[⟨.rw,[.i .i64 x],1⟩,⟨.rw,[.i .i64 y],1⟩,⟨.rw,s.cl,14⟩,⟨.rw,t.cl,14⟩]
theorem sw_end {h : List Blk} {a b : Nat} {m : M} {K : V → List Blk → Prop} (H : IsMem h a b m) (hc : clean h.length h = true) (x y : Int) (s t : Slot) (q r : Bool) (hS : K (.s (.i .i64 0)) (setM h a b (m.swap2 x y s t q r))) :
  swp TSw.Γ h.length (finP df19.res K) [.c (DC.after 7 df19.body)] ⟨swT a q r,swL x y s t,h⟩:=by
 have hcm : ∀ m',clean h.length (setM h a b m') = true:=fun m' => setM_clean H hc H.ltb
 have o1 : ∀ X,cellAt (h ++ (⟨.rw,[.i .i64 x],1⟩ :: X)) h.length = some x:=fun X => cellAt_eq (room:=1) (by rw [app_get0]; rfl)
 have o2 : ∀ B X,cellAt (h ++ (B :: ⟨.rw,[.i .i64 y],1⟩ :: X)) (h.length + 1) = some y:=fun B X => cellAt_eq (room:=1) (by rw [app_getn]; rfl)
 have hbn : ∀ a b : Nat,¬ (a + b < a):=fun a b => by omega
 have v1 : IntKind.i64.wrap 1 = 1:=by decide
 have v2 : IntKind.i64.wrap 2 = 2:=by decide
 simp only [swT,swL]
 simp only [DC.after,df19]
 refine run_sound (Tab.ok_Γ _) 200 _ _ _ _ ?_
 simp (maxSteps:=9999999) only [EV0,zx,zw,zv,zu,zq,zp,zj,zk,zg,leT,zZ,rvC,zY,zX,zW,zV,↓zU,↓zQ,reduceCtorEq,yz,yy,yY,yx,yw,yv,yu,yq,yp,yX,yj,yk,yg,yW,yV,yU,yZ,yQ,xz,TSw,Slot.cl,setT,put,fillP,sub,EVt]
 rw [holds_loop]
 refine swp_loop fun X hX => ?_
 refine hX _ ?_
 refine run_sound (Tab.ok_Γ _) 200 _ _ _ _ ?_
 simp (maxSteps:=9999999) only [EV0,zx,zw,zv,zu,zq,zp,zj,zk,zg,leT,zZ,rvC,zY,zX,zW,zV,↓zU,↓zQ,reduceCtorEq,yz,yy,yY,yx,yw,yv,yu,yq,yp,yX,yj,yk,yg,yW,yV,yU,yZ,yQ,xz,TSw,othG,o1,o2,R.lend,R.unlend,S_ren,C.ren,V.ren,Blk.ren,take_app,drop_app,Nat.not_lt_zero,Nat.lt_irrefl,Nat.add_sub_cancel_left,Nat.not_lt,Nat.le_add_right,hc,Slot.cl,put,fillP,sub,EVt,hbn,v1,v2]
 intro _ _
 refine hX _ ?_
 refine run_sound (Tab.ok_Γ _) 200 _ _ _ _ ?_
 simp (maxSteps:=9999999) only [EV0,zx,zw,zv,zu,zq,zp,zj,zk,zg,leT,zZ,rvC,zY,zX,zW,zV,↓zU,↓zQ,reduceCtorEq,yz,yy,yY,yx,yw,yv,yu,yq,yp,yX,yj,yk,yg,yW,yV,yU,yZ,yQ,xz,TSw,othG,o1,o2,R.lend,R.unlend,S_ren,C.ren,V.ren,Blk.ren,take_app,drop_app,Nat.not_lt_zero,Nat.lt_irrefl,Nat.add_sub_cancel_left,Nat.not_lt,Nat.le_add_right,hc,Slot.cl,put,fillP,sub,EVt,hbn,v1,v2]
 intro _ _
 refine hX _ ?_
 cases q <;> cases r <;> simp only [M.swap2,Bool.false_eq_true,if_true,if_false] at hS
 all_goals refine run_sound (Tab.ok_Γ _) 300 _ _ _ _ ?_
 all_goals (simp (maxSteps:=9999999) only [EV0,zx,zw,zv,zu,zq,zp,zj,zk,zg,leT,zZ,rvC,zY,zX,zW,zV,↓zU,↓zQ,reduceCtorEq,yz,yy,yY,yx,yw,yv,yu,yq,yp,yX,yj,yk,yg,yW,yV,yU,yZ,yQ,xz,TSw,othG,o1,o2,R.lend,R.unlend,S_ren,C.ren,V.ren,Blk.ren,take_app,drop_app,Nat.not_lt_zero,Nat.lt_irrefl,Nat.add_sub_cancel_left,Nat.not_lt,Nat.le_add_right,hc,Slot.cl,put,fillP,sub,EVt,hbn,v1,v2,put2G,put2M,joinG,joinM,memF_eq H,memF_set H,setM_fun H,slotF,slot_eta,cap_eta])
 all_goals exact hS
theorem swp_snd : Snd Try.prog 19 (FSpec.of swpG):=(fwp_sound (Tab.snd_Γ TSw_snd) mixed Try.func19 dc19).weaken fun args h K hc hS => by
 change (swpG args h).spec K at hS
 obtain ⟨a,b,m,rest,rfl,H,hS1⟩:=memF_spec hS
 clear hS
 have hS:=hS1
 clear hS1
 unfold swpM at hS
 split at hS
 ·rename_i x y
  simp only [spec_ok] at hS
  by_cases c1 : m.fE x = 0
  ·by_cases c2 : (m.gX x).fE y = 0
   ·by_cases c3 : x = y
    ·subst c3
     simp only [M.swp,c1,c2,if_true] at hS
     refine fwp_run (Tab.ok_Γ _) 400 ?_
     simp (maxSteps:=9999999) only [EV0,zx,zw,zv,zu,zq,zp,zj,zk,zg,leT,zZ,rvC,zY,zX,zW,zV,↓zU,↓zQ,reduceCtorEq,yz,yy,yY,yx,yw,yv,yu,yq,yp,yX,yj,yk,yg,yW,yV,yU,yZ,yQ,xz,df19,TSw,fullG,memF_eq H,memF_set H,setM_fun H,fullM,Slot.cl,c1,c2,put,fillP,sub,EVt]
     exact hS
    ·simp only [M.swp,c1,c2,c3,if_true,if_false] at hS
     obtain ⟨s,hs⟩ : ∃ s,m.gV x = s:=⟨_,rfl⟩
     obtain ⟨t,ht⟩ : ∃ t,(m.gX x).gV y = t:=⟨_,rfl⟩
     rw [hs,ht] at hS
     obtain ⟨q,hq⟩ : ∃ q,((m.gX x).gX y).liB x s = q:=⟨_,rfl⟩
     obtain ⟨r,hr⟩ : ∃ r,(((m.gX x).gX y).liX s).liB y t = r:=⟨_,rfl⟩
     rw [hq,hr] at hS
     have key:=sw_end (K:=K) (H.set ((((m.gX x).gX y).liX s).liX t)) (by rw [setM_len]; exact setM_clean H hc H.ltb) x y s t q r (by rw [setM_set H.ne]; exact hS)
     rw [setM_len] at key
     refine fwp_of _ (fun _ _ => finP_fin) (cut_at 7 ?_)
     simp only [df19] at key ⊢
     refine run_sound (Tab.ok_Γ _) 400 _ _ _ _ ?_
     simp (maxSteps:=9999999) only [EV0,zx,zw,zv,zu,zq,zp,zj,zk,zg,leT,zZ,rvC,zY,zX,zW,zV,↓zU,↓zQ,reduceCtorEq,yz,yy,yY,yx,yw,yv,yu,yq,yp,yX,yj,yk,yg,yW,yV,yU,yZ,yQ,xz,TSw,fullG,memF_eq H,memF_set H,setM_fun H,fullM,listedG,listedM,slotF,slot_eta,cap_eta,Slot.cl,c1,c2,c3,hs,ht,hq,hr,put,fillP,sub,EVt]
     repeat' first | intro _ | apply And.intro
     all_goals refine swp_weak (Wk.keep 4 rfl rfl ?_ ?_ ?_) key
     all_goals (simp (maxSteps:=9999999) only [EV0,zx,zw,zv,zu,zq,zp,zj,zk,zg,leT,zZ,rvC,zY,zX,zW,zV,↓zU,↓zQ,reduceCtorEq,yz,yy,yY,yx,yw,yv,yu,yq,yp,yX,yj,yk,yg,yW,yV,yU,yZ,yQ,xz,swT,swL,Slot.cl,List.take_succ_cons,List.take_zero,List.length_cons,List.length_nil,List.all_cons,List.all_nil])
   ·simp only [M.swp,c1,c2,if_true,if_false] at hS
    refine fwp_run (Tab.ok_Γ _) 400 ?_
    simp (maxSteps:=9999999) only [EV0,zx,zw,zv,zu,zq,zp,zj,zk,zg,leT,zZ,rvC,zY,zX,zW,zV,↓zU,↓zQ,reduceCtorEq,yz,yy,yY,yx,yw,yv,yu,yq,yp,yX,yj,yk,yg,yW,yV,yU,yZ,yQ,xz,df19,TSw,fullG,memF_eq H,memF_set H,setM_fun H,fullM,Slot.cl,c1,c2,put,fillP,sub,EVt]
    exact hS
  ·simp only [M.swp,c1,if_false] at hS
   refine fwp_run (Tab.ok_Γ _) 400 ?_
   simp (maxSteps:=9999999) only [EV0,zx,zw,zv,zu,zq,zp,zj,zk,zg,leT,zZ,rvC,zY,zX,zW,zV,↓zU,↓zQ,reduceCtorEq,yz,yy,yY,yx,yw,yv,yu,yq,yp,yX,yj,yk,yg,yW,yV,yU,yZ,yQ,xz,df19,TSw,fullG,memF_eq H,memF_set H,setM_fun H,fullM,Slot.cl,c1,put,fillP,sub,EVt]
   exact hS
 ·exact hS.elim
end Go.Proofs.Ytcdfofeolgbnbaa

/- The document's Swap. -/
namespace Go.Proofs.Ytcdfofeolgbnbaa
open Go.D
set_option linter.all false
set_option maxRecDepth 100000
set_option maxHeartbeats 8000000

def Slot.rt (a b : Int) (s : Slot) : Slot:=⟨s.cap,if s.prev = a then b else s.prev,if s.next = a then b else s.next,s.depth⟩
def M.r15 (m : M) (u v : Int) (x : Slot) : M:=if ¬ x.prev = 0 ∧ ¬ x.prev = v then m.nkX x.prev u else m
def M.r16 (m : M) (u v : Int) (x : Slot) : M:=if ¬ x.next = 0 ∧ ¬ x.next = v then m.bkX u x.next else m
def M.r19 (m : M) (f u v : Int) : M:=if f = u then m.sfX v else m
def M.rsw (m : M) (u v f : Int) (x y : Slot) : M:=(((((m.r15 u v x).r16 u v x).r15 v u y).r16 v u y).r19 f u v).r19 f v u
def M.rswp (m : M) (a b : Int) : Int × M :=
 if m.fE a = 0 then
  if (m.gX a).fE b = 0 then
   if a = b then (0,(m.gX a).gX b)
   else (0,((((m.gX a).gX b).fstX.pX a (((m.gX a).gV b).rt a b)).pX b ((m.gV a).rt b a)).rsw a b ((m.gX a).gX b).fst (((m.gX a).gV b).rt a b) ((m.gV a).rt b a))
  else ((m.gX a).fE b,(m.gX a).gX b)
 else (m.fE a,m.gX a)
end Go.Proofs.Ytcdfofeolgbnbaa

/- Move and Swap,of the code and of the document,tell the same of a memory in order; and it stays in order. -/
namespace Go.Proofs.Ytcdfofeolgbnbaa
open Go.D
set_option linter.all false
set_option maxRecDepth 100000
set_option maxHeartbeats 4000000

theorem jnV_prev0 (V : Int → Slot) (p a n x : Int) (h : n = 0 ∨ p ≠ n) (hx : x ≠ 0) : (jnV V p a n x).prev = if x = n then a else (V x).prev:=by
 rcases h with h | h
 ·subst h
  rw [if_neg hx]
  unfold jnV
  split
  ·rename_i e; rw [e]; rfl
  ·rfl
 ·exact jnV_prev V p a n x h
theorem nodup_map_on {ρ : Int → Int} {L : List Int} (hn : L.Nodup) (h : ∀ x y,x ∈ L → y ∈ L → ρ x = ρ y → x = y) : (L.map ρ).Nodup:=by
 unfold List.Nodup at hn ⊢
 rw [List.pairwise_map]
 exact hn.imp_of_mem fun hx hy hne e => hne (h _ _ hx hy e)

section
variable {m : M} {P : Int → Prop} {L : List Int}
def M.movV (m : M) (f t : Int) : Int → Slot:=jnV (fun x => if x = f then slotZ else if x = t then m.gV f else m.gV x) (m.gV f).prev t (m.gV f).next
def M.movF (m : M) (f t : Int) : Int:=if (m.gV f).prev = 0 then t else m.fst
theorem slotZ_R : slotRB slotZ = true:=by decide
theorem M.Inv.free (I : m.Inv P L) {t : Int} (ht : m.gE t = 0) (hz : m.gV t = slotZ) : t ∉ L ∧ t ≠ 0 ∧ m.eB t = true:=by
 refine ⟨fun h => (I.gE h).2 (by rw [hz]; rfl),there_ne0 (gE_there ht).1, ?_⟩
 unfold M.eB
 rw [if_pos ht,hz]
 exact Slot.isZ_iff.2 rfl
theorem M.Inv.mov_facts (I : m.Inv P L) {f t : Int} (hf : f ∈ L) (ht : m.gE t = 0) (hz : m.gV t = slotZ) {m' : M} (T : m.To m' m.gV m.fst) :
  m.To ((m'.pX t (m.gV f)).pX f slotZ) (fun x => if x = f then slotZ else if x = t then m.gV f else m.gV x) m.fst ∧
  (∀ x,x = 0 ∨ (x ∈ L ∧ x ≠ f) → x = 0 ∨ (m.gE x = 0 ∧ ((fun y => if y = f then slotZ else if y = t then m.gV f else m.gV y) x).cap.ty ≠ 0)) ∧
  ((m.gV f).prev = 0 ∨ ((m.gV f).prev ∈ L ∧ (m.gV f).prev ≠ f)) ∧ ((m.gV f).next = 0 ∨ ((m.gV f).next ∈ L ∧ (m.gV f).next ≠ f)):=by
 obtain ⟨htL,t0,_⟩:=I.free ht hz
 refine ⟨(T.pX ht (m.gV_u f)).pX (I.gE hf).1 slotZ_R,fun x hx => hx.imp id fun h => ?_, ?_, ?_⟩
 ·have h2 : x ≠ t:=fun e => htL (e ▸ h.1)
  simp only [if_neg h.2,if_neg h2]
  exact I.gE h.1
 ·rcases I.prev hf with h | h
  ·exact .inl h
  ·exact .inr ⟨h,I.irr_prev hf⟩
 ·rcases I.next hf with h | h
  ·exact .inl h
  ·exact .inr ⟨h,I.irr_next hf⟩
theorem M.Inv.mov_to (I : m.Inv P L) {f t : Int} (hf : f ∈ L) (ht : m.gE t = 0) (hz : m.gV t = slotZ) : (m.mov f t).1 = 0 ∧ m.To (m.mov f t).2 (m.movV f t) (m.movF f t):=by
 obtain ⟨htL,t0,heB⟩:=I.free ht hz
 have h1:=((M.To.refl m).gX f |>.gX t |>.liX (m.gV f))
 obtain ⟨k1,k2,k3,k4⟩:=I.mov_facts hf ht hz h1
 have hj:=k1.join I.len.1 (k2 _ k3) (k2 _ k4) (I.prev_next hf) (.inr (gE_there ht).1)
 unfold M.mov
 simp only [I.full f hf,if_true,gX_gE,ht,gX_eB,heB,gX_liB,I.listed hf]
 exact ⟨trivial,hj⟩
theorem M.Inv.rmov_to (I : m.Inv P L) {f t : Int} (hf : f ∈ L) (ht : m.gE t = 0) (hz : m.gV t = slotZ) : (m.rmov f t).1 = 0 ∧ m.To (m.rmov f t).2 (m.movV f t) (m.movF f t):=by
 obtain ⟨htL,t0,heB⟩:=I.free ht hz
 have hft:=(gE_there ht).1
 have key : ∀ {m' : M},m.To m' m.gV m.fst → m.To ((((m'.pX t (m.gV f)).pX f slotZ).lkX (m.gV f).prev t).bkX t (m.gV f).next) (m.movV f t) (m.movF f t):=fun T => by
  obtain ⟨k1,k2,k3,k4⟩:=I.mov_facts hf ht hz T
  have h1:=k1.lkX I.len.1 (k2 _ k3) (.inr hft)
  have hpn:=I.prev_next hf
  have h2:=h1.bk (n:=(m.gV f).next) (a:=t) ((k2 _ k4).imp id fun h => by
   refine ⟨h.1, ?_⟩
   have hne : (m.gV f).next ≠ (m.gV f).prev:=fun e => by
    rcases hpn with h3 | h3
    ·exact there_ne0 (gE_there h.1).1 h3
    ·exact h3 e.symm
   simp only [if_neg hne]
   exact h.2) (.inr hft)
  refine h2.val (fun x hx => ?_) rfl
  simp only [M.movV,jnV]
  by_cases c1 : x = (m.gV f).prev
  ·have c2 : ¬ x = (m.gV f).next:=fun e => by
    rcases hpn with h3 | h3
    ·exact hx (e.trans h3)
    ·exact h3 (c1.symm.trans e)
   simp only [if_pos c1,if_neg c2]
  ·by_cases c2 : x = (m.gV f).next
   ·have c3 : ¬ (m.gV f).next = (m.gV f).prev:=by rw [← c2]; exact c1
    simp only [if_neg c1,if_pos c2,if_neg c3]
   ·simp only [if_neg c1,if_neg c2]
 unfold M.rmov
 have hty : (m.gV t).cap.ty = 0:=by rw [hz]; rfl
 simp only [I.full f hf,if_true,gX_gE,ht,gX_gV,hty,gX_fst]
 by_cases h0 : (m.gV f).prev = 0
 ·have hfst:=(I.first hf).1 h0
  simp only [h0,hfst,if_true]
  refine ⟨trivial, ?_⟩
  have:=key ((M.To.refl m).gX f |>.gX t |>.fstX)
  rw [h0] at this
  exact this
 ·simp only [h0,if_false]
  exact ⟨trivial,key ((M.To.refl m).gX f |>.gX t)⟩
def rho (f t x : Int) : Int:=if x = f then t else x
theorem M.Inv.mov_inv (I : m.Inv P L) {f t : Int} (hf : f ∈ L) (ht : m.gE t = 0) (hz : m.gV t = slotZ) {m' : M} (T : m.To m' (m.movV f t) (m.movF f t)) : m'.Inv P (L.map (rho f t)):=by
 obtain ⟨htL,t0,heB⟩:=I.free ht hz
 have f0 : f ≠ 0:=fun e => I.no0 (e ▸ hf)
 have hpn:=I.prev_next hf
 have hft : f ≠ t:=fun e => htL (e ▸ hf)
 have hp : (m.gV f).prev ≠ f:=I.irr_prev hf
 have hn : (m.gV f).next ≠ f:=I.irr_next hf
 have hp' : (m.gV f).prev ≠ t:=fun e => by
  rcases I.prev hf with h | h
  ·exact t0 (e.symm.trans h)
  ·exact htL (e ▸ h)
 have hn' : (m.gV f).next ≠ t:=fun e => by
  rcases I.next hf with h | h
  ·exact t0 (e.symm.trans h)
  ·exact htL (e ▸ h)
 have hVt : m.movV f t t = m.gV f:=by
  unfold M.movV
  rw [jnV_out (Ne.symm hp') (Ne.symm hn')]
  simp only [if_neg (Ne.symm hft),if_true]
 have hVf : m.movV f t f = slotZ:=by
  unfold M.movV
  rw [jnV_out (Ne.symm hp) (Ne.symm hn)]
  simp only [if_true]
 have hVx : ∀ x,x ∈ L → x ≠ f → (m.movV f t x).cap = (m.gV x).cap ∧ (m.movV f t x).prev = rho f t (m.gV x).prev ∧ (m.movV f t x).next = rho f t (m.gV x).next:=fun x hx hxf => by
  have hxt : x ≠ t:=fun e => htL (e ▸ hx)
  have x0 : x ≠ 0:=fun e => I.no0 (e ▸ hx)
  unfold M.movV
  rw [jnV_cap,jnV_next,jnV_prev0 _ _ _ _ _ hpn x0]
  simp only [if_neg hxf,if_neg hxt]
  refine ⟨trivial, ?_, ?_⟩
  ·unfold rho
   have:=I.two_way hf hx
   by_cases c : x = (m.gV f).next
   ·rw [if_pos c,if_pos (this.1 c.symm)]
   ·rw [if_neg c,if_neg fun e => c (this.2 e).symm]
  ·unfold rho
   have:=I.two_way hx hf
   by_cases c : x = (m.gV f).prev
   ·rw [if_pos c,if_pos (this.2 c.symm)]
   ·rw [if_neg c,if_neg fun e => c (this.1 e).symm]
 have hr0 : rho f t 0 = 0:=by unfold rho; rw [if_neg (Ne.symm f0)]
 have hmem : ∀ y,y ∈ L.map (rho f t) → y = t ∨ (y ∈ L ∧ y ≠ f):=fun y hy => by
  obtain ⟨x,hx,rfl⟩:=List.mem_map.1 hy
  unfold rho
  split
  ·exact .inl rfl
  ·rename_i h; exact .inr ⟨hx,h⟩
 have htM : t ∈ L.map (rho f t):=List.mem_map.2 ⟨f,hf,by unfold rho; rw [if_pos rfl]⟩
 refine I.to T (nodup_map_on I.nd fun x y hx hy e => ?_) (fun y hy => ?_) ?_ ?_ (fun x hx hL => ?_)
 ·unfold rho at e
  split at e <;> split at e
  ·rename_i h1 h2; rw [h1,h2]
  ·rename_i h1 h2; exact absurd (e ▸ hy) htL
  ·rename_i h1 h2; exact absurd (e ▸ hx) htL
  ·exact e
 ·rcases hmem y hy with rfl | ⟨h1,h2⟩
  ·exact ⟨ht,by rw [hVt]; exact (I.gE hf).2⟩
  ·exact ⟨(I.gE h1).1,by rw [(hVx y h1 h2).1]; exact (I.gE h1).2⟩
 ·have:=chain_map (V':=m.movV f t) (ρ:=rho f t) (fun x hx => by
   by_cases c : x = f
   ·subst c
    have e : rho x t x = t:=by unfold rho; rw [if_pos rfl]
    rw [e,hVt]
    unfold rho
    rw [if_neg hp,if_neg hn]
    exact ⟨rfl,rfl⟩
   ·have e : rho f t x = x:=by unfold rho; rw [if_neg c]
    rw [e]
    exact ⟨(hVx x hx c).2.1,(hVx x hx c).2.2⟩) I.ch
  rw [hr0] at this
  exact this
 ·have:=headD_map (rho f t) L 0
  rw [hr0] at this
  rw [this,← I.fst]
  unfold M.movF rho
  by_cases c : (m.gV f).prev = 0
  ·rw [if_pos c,if_pos ((I.first hf).1 c)]
  ·rw [if_neg c,if_neg fun e => c ((I.first hf).2 e)]
 ·by_cases c : x = f
  ·rw [c,hVf]; exact ⟨rfl,rfl,rfl⟩
  ·have hxt : x ≠ t:=fun e => hL (e ▸ htM)
   have hxL : x ∉ L:=fun h => hL (List.mem_map.2 ⟨x,h,by unfold rho; rw [if_neg c]⟩)
   have x0:=there_ne0 (gE_there (I.out x hx).1).1
   have e1 : x ≠ (m.gV f).prev:=fun e => by
    rcases I.prev hf with h | h
    ·exact x0 (e.trans h)
    ·exact hxL (e ▸ h)
   have e2 : x ≠ (m.gV f).next:=fun e => by
    rcases I.next hf with h | h
    ·exact x0 (e.trans h)
    ·exact hxL (e ▸ h)
   unfold M.movV
   rw [jnV_out e1 e2]
   simp only [if_neg c,if_neg hxt]
   exact (I.out x hx).2 hxL
end
end Go.Proofs.Ytcdfofeolgbnbaa

