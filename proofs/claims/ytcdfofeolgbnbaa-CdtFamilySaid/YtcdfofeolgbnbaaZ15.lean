/- Package cdt: List. -/
import Derived.Test.YtcdfofeolgbnbaaZ8
import Derived.Test.YtcdfofeolgbnbaaZ14
/- The document's derivation list: First,SetFirst,links,back,Insert,Move. -/
namespace Go.Proofs.Ytcdfofeolgbnbaa
open Go.D
open Nat (reduceAdd reducePow reduceMul reduceSub reduceLeDiff reduceLT reduceEqDiff)
open Int (reduceNeg reduceLE reduceEq reduceNe reduceToNat)
open Go.D renaming istep → zx,pickR → zw,bin1R → zv,un1R → zu,eqS → zq,eq1 → zp,cmpS → zj,cmp1 → zk,isNil → zg,shows → zZ,result → zY,q_cond_t → zU,q_cond_f → zQ
open List renaming set → zX,replicate → zW
open Option renaming map → zV
open Nat renaming reduceAdd → yz,reducePow → yy,reduceMul → yx,reduceSub → yw,reduceLeDiff → yv,reduceLT → yu,reduceEqDiff → yq
open Int renaming reduceNeg → yp,reduceLE → yj,reduceEq → yk,reduceNe → yg,reduceToNat → yZ,reducePow → yY,reduceLT → yX,reduceAdd → yW,reduceSub → yV,reduceMul → yU,reduceBEq → yQ,reduceBNe → xz
set_option linter.all false
set_option maxRecDepth 100000
set_option maxHeartbeats 4000000

def saidM (b : Nat) (m : M) (st : M → List Blk) : List V → Res
 | [.s (.i .i64 2), .s (.i .i64 4), .s (.i .i64 4)] => .ok (.s (.i .i64 m.fst)) [] (st m.fstX)
 | _ => .bad
noncomputable def saidG:=memF saidM
theorem kept_there (m : M) (n : Int) : keptB 4 4 m n = (m.has n 4 && (decide (4 ≤ n) && n.tmod 4 == 0)):=by
 have hl:=m.l
 have w1 : IntKind.i64.wrap ((m.w.length : Int) - 4) = m.w.length - 4:=wrap64 (by omega) (by omega)
 rw [Bool.eq_iff_iff]
 simp only [keptB,w1,M.has,Bool.and_eq_true,decide_eq_true_eq,beq_iff_eq]
 omega
noncomputable def TSd : Tab:=addT 90 thereG (addT 76 readG (addT 80 writeG (noT)))
theorem TSd_snd : TSd.Snd Try.prog:=addT_snd ok90 rthere_snd (addT_snd ok76 rread_snd (addT_snd ok80 rwrite_snd ((noT_snd _))))
theorem said_snd : Snd Try.prog 89 (FSpec.of saidG):=snd_run TSd_snd mixed Try.func89 dc89 200 fun args h K hc hS => by
 obtain ⟨a,b,m,rest,rfl,H,hS1⟩:=memF_spec hS
 clear hS
 have hS:=hS1
 clear hS1
 unfold saidM at hS
 split at hS
 ·simp only [spec_ok,M.fst,M.fstX,keptV,kept_there] at hS
  have w0 : IntKind.i64.wrap 0 = 0:=by decide
  cases hh : m.has 2 1 with
  | false =>
   simp only [hh,w0,Bool.false_eq_true,if_false,reduceLE,decide_false,Bool.false_and,Bool.and_false,and_false,setM_self H] at hS
   cases h1 : m.has 0 4
   all_goals (simp (maxSteps:=9999999) only [EV0,zx,zw,zv,zu,zq,zp,zj,zk,zg,leT,zZ,rvC,zY,zX,zW,zV,↓zU,↓zQ,reduceCtorEq,yz,yy,yY,yx,yw,yv,yu,yq,yp,yX,yj,yk,yg,yW,yV,yU,yZ,yQ,xz,df89,TSd,readG,thereG,memF_eq H,memF_set H,setM_fun H,readM,thereM,setM_self H,hh,h1,w0])
   all_goals exact hS
  | true =>
   simp only [hh,if_true] at hS
   have hu:=m.at_u 2
   obtain ⟨n,hn⟩ : ∃ n,m.at 2 = n:=⟨_,rfl⟩
   rw [hn] at hS hu
   by_cases c1 : n ≤ 65535
   ·have c1' : ¬ (65535 < n):=by omega
    have wn : IntKind.i64.wrap n = n:=wrap64 (by have:=hu.1; omega) (by omega)
    simp only [c1,wn,true_and] at hS
    cases c2 : m.has n 4 with
    | false =>
     simp only [c2,Bool.false_and,Bool.false_eq_true,if_false] at hS
     simp (maxSteps:=9999999) only [EV0,zx,zw,zv,zu,zq,zp,zj,zk,zg,leT,zZ,rvC,zY,zX,zW,zV,↓zU,↓zQ,reduceCtorEq,yz,yy,yY,yx,yw,yv,yu,yq,yp,yX,yj,yk,yg,yW,yV,yU,yZ,yQ,xz,df89,TSd,readG,thereG,memF_eq H,memF_set H,setM_fun H,readM,thereM,setM_self H,M.tick_has,hh,hn,c1',wn,c2]
     exact hS
    | true =>
     by_cases c3 : 4 ≤ n
     ·have c3' : ¬ n < 4:=by omega
      by_cases c4 : n.tmod 4 = 0
      ·simp only [c2,c3,c4,decide_true,beq_self_eq_true,Bool.and_self,if_true] at hS
       simp (maxSteps:=9999999) only [EV0,zx,zw,zv,zu,zq,zp,zj,zk,zg,leT,zZ,rvC,zY,zX,zW,zV,↓zU,↓zQ,reduceCtorEq,yz,yy,yY,yx,yw,yv,yu,yq,yp,yX,yj,yk,yg,yW,yV,yU,yZ,yQ,xz,df89,TSd,readG,thereG,memF_eq H,memF_set H,setM_fun H,readM,thereM,setM_self H,M.tick_has,hh,hn,c1',wn,c2,c3',c4]
       exact hS
      ·have c4' : (n.tmod 4 == 0) = false:=by simpa using c4
       simp only [c2,c3,c4',decide_true,Bool.and_false,Bool.false_eq_true,if_false] at hS
       simp (maxSteps:=9999999) only [EV0,zx,zw,zv,zu,zq,zp,zj,zk,zg,leT,zZ,rvC,zY,zX,zW,zV,↓zU,↓zQ,reduceCtorEq,yz,yy,yY,yx,yw,yv,yu,yq,yp,yX,yj,yk,yg,yW,yV,yU,yZ,yQ,xz,df89,TSd,readG,thereG,memF_eq H,memF_set H,setM_fun H,readM,thereM,setM_self H,M.tick_has,hh,hn,c1',wn,c2,c3',c4]
       exact hS
     ·have c3' : n < 4:=by omega
      simp only [c2,c3,decide_false,Bool.false_and,Bool.and_false,Bool.false_eq_true,if_false] at hS
      simp (maxSteps:=9999999) only [EV0,zx,zw,zv,zu,zq,zp,zj,zk,zg,leT,zZ,rvC,zY,zX,zW,zV,↓zU,↓zQ,reduceCtorEq,yz,yy,yY,yx,yw,yv,yu,yq,yp,yX,yj,yk,yg,yW,yV,yU,yZ,yQ,xz,df89,TSd,readG,thereG,memF_eq H,memF_set H,setM_fun H,readM,thereM,setM_self H,M.tick_has,hh,hn,c1',wn,c2,c3']
      exact hS
   ·have c1' : 65535 < n:=by omega
    simp only [c1,false_and,if_false] at hS
    simp (maxSteps:=9999999) only [EV0,zx,zw,zv,zu,zq,zp,zj,zk,zg,leT,zZ,rvC,zY,zX,zW,zV,↓zU,↓zQ,reduceCtorEq,yz,yy,yY,yx,yw,yv,yu,yq,yp,yX,yj,yk,yg,yW,yV,yU,yZ,yQ,xz,df89,TSd,readG,thereG,memF_eq H,memF_set H,setM_fun H,readM,thereM,setM_self H,hh,hn,c1']
    exact hS
 ·exact hS.elim
noncomputable def TSe : Tab:=addT 89 saidG (noT)
theorem TSe_snd : TSe.Snd Try.prog:=addT_snd ok89 said_snd ((noT_snd _))
theorem rfirst_snd : Snd Try.prog 73 (FSpec.of firstG):=snd_run TSe_snd mixed Try.func73 dc73 100 fun args h K hc hS => by
 obtain ⟨a,b,m,rest,rfl,H,hS1⟩:=memF_spec hS
 clear hS
 have hS:=hS1
 clear hS1
 unfold firstM at hS
 split at hS
 ·simp only [spec_ok] at hS
  simp (maxSteps:=9999999) only [EV0,zx,zw,zv,zu,zq,zp,zj,zk,zg,leT,zZ,rvC,zY,zX,zW,zV,↓zU,↓zQ,reduceCtorEq,yz,yy,yY,yx,yw,yv,yu,yq,yp,yX,yj,yk,yg,yW,yV,yU,yZ,yQ,xz,df73,TSe,saidG,memF_eq H,saidM]
  exact hS
 ·exact hS.elim
def M.nkX (m : M) (p a : Int) : M:=if m.gE p = 0 then (m.gX p).pX p ⟨(m.gV p).cap,(m.gV p).prev,a,(m.gV p).depth⟩ else m.gX p
def M.lkX (m : M) (p a : Int) : M:=if p = 0 then m.sfX a else m.nkX p a
def M.bkX (m : M) (a n : Int) : M:=if ¬ n = 0 ∧ m.gE n = 0 then (m.gX n).pX n ⟨(m.gV n).cap,a,(m.gV n).next,(m.gV n).depth⟩ else m.gX n
def M.rins (m : M) (p a : Int) : Int × M :=
 if m.fE a = 0 then
  if (m.gX a).liB a (m.gV a) = true then (120,(m.gX a).fstX)
  else if p = 0 then (0,(((m.gX a).fstX.lkX (m.gV a).prev a).bkX a (m.gX a).fst).pX a ⟨(m.gV a).cap,(m.gV a).prev,(m.gX a).fst,(m.gV a).depth⟩)
  else if (m.gX a).fstX.fE p = 0 then
   if p = a ∨ ((m.gX a).fstX.gV p).depth = 65535 then (120,(m.gX a).fstX.gX p)
   else (0,((((m.gX a).fstX.gX p).lkX p a).bkX a ((m.gX a).fstX.gV p).next).pX a ⟨(m.gV a).cap,p,((m.gX a).fstX.gV p).next,IntKind.i64.wrap (((m.gX a).fstX.gV p).depth + 1)⟩)
  else ((m.gX a).fstX.fE p,(m.gX a).fstX.gX p)
 else (m.fE a,m.gX a)
def M.rmov (m : M) (f t : Int) : Int × M :=
 if m.fE f = 0 then
  if (m.gX f).gE t = 0 then
   if ((m.gX f).gV t).cap.ty = 0 then
    if (m.gV f).prev = 0 then
     (0,(if ((m.gX f).gX t).fst = f then (((((m.gX f).gX t).fstX.pX t (m.gV f)).pX f slotZ).lkX (m.gV f).prev t) else ((((m.gX f).gX t).fstX.pX t (m.gV f)).pX f slotZ)).bkX t (m.gV f).next)
    else (0,(((((m.gX f).gX t).pX t (m.gV f)).pX f slotZ).lkX (m.gV f).prev t).bkX t (m.gV f).next)
   else (120,(m.gX f).gX t)
  else ((m.gX f).gE t,(m.gX f).gX t)
 else (m.fE f,m.gX f)
end Go.Proofs.Ytcdfofeolgbnbaa

/- A memory seen slot by slot: what a put slot,a new beginning change,and nothing else. -/
namespace Go.Proofs.Ytcdfofeolgbnbaa
open Go.D
set_option linter.all false
set_option maxRecDepth 100000
set_option maxHeartbeats 4000000

section
variable {m : M} {a x n : Int} {s : Slot}
theorem gX_w (m : M) (a : Int) : (m.gX a).w = m.w:=by unfold M.gX; split <;> rfl
theorem fstX_w (m : M) : m.fstX.w = m.w:=by unfold M.fstX; split <;> rfl
theorem liX_w (m : M) (s : Slot) : (m.liX s).w = m.w:=by unfold M.liX; split; exact fstX_w m; rfl
theorem at_w {m m' : M} (h : m'.w = m.w) (j : Int) : m'.at j = m.at j:=by simp only [M.at,h]
theorem there_w {m m' : M} (h : m'.w = m.w) (x : Int) : thereB m' x = thereB m x:=by simp only [thereB,h]
theorem gE_w {m m' : M} (h : m'.w = m.w) (x : Int) : m'.gE x = m.gE x:=by simp only [M.gE,M.slotB,there_w h,at_w h]; rfl
theorem gV_w {m m' : M} (h : m'.w = m.w) (x : Int) : m'.gV x = m.gV x:=by simp only [M.gV,M.slotB,M.slotC,there_w h,at_w h]; rfl
theorem fst_w {m m' : M} (h : m'.w = m.w) : m'.fst = m.fst:=by simp only [M.fst,keptV,keptB,M.has,at_w h,h]; rfl
theorem fE_w {m m' : M} (h : m'.w = m.w) (x : Int) : m'.fE x = m.fE x:=by simp only [M.fE,gE_w h,gV_w h]
theorem eB_w {m m' : M} (h : m'.w = m.w) (x : Int) : m'.eB x = m.eB x:=by simp only [M.eB,gE_w h,gV_w h]
theorem liB_w {m m' : M} (h : m'.w = m.w) (x : Int) (s : Slot) : m'.liB x s = m.liB x s:=by simp only [M.liB,fst_w h]
theorem gX_gE (m : M) (a x : Int) : (m.gX a).gE x = m.gE x:=gE_w (gX_w m a) x
theorem gX_gV (m : M) (a x : Int) : (m.gX a).gV x = m.gV x:=gV_w (gX_w m a) x
theorem gX_fE (m : M) (a x : Int) : (m.gX a).fE x = m.fE x:=fE_w (gX_w m a) x
theorem gX_eB (m : M) (a x : Int) : (m.gX a).eB x = m.eB x:=eB_w (gX_w m a) x
theorem gX_fst (m : M) (a : Int) : (m.gX a).fst = m.fst:=fst_w (gX_w m a)
theorem gX_there (m : M) (a x : Int) : thereB (m.gX a) x = thereB m x:=there_w (gX_w m a) x
theorem gX_liB (m : M) (a x : Int) (s : Slot) : (m.gX a).liB x s = m.liB x s:=liB_w (gX_w m a) x s
theorem fstX_gV (m : M) (x : Int) : m.fstX.gV x = m.gV x:=gV_w (fstX_w m) x
theorem fstX_fE (m : M) (x : Int) : m.fstX.fE x = m.fE x:=fE_w (fstX_w m) x
theorem liX_gV (m : M) (s : Slot) (x : Int) : (m.liX s).gV x = m.gV x:=gV_w (liX_w m s) x
theorem liX_fE (m : M) (s : Slot) (x : Int) : (m.liX s).fE x = m.fE x:=fE_w (liX_w m s) x
theorem liX_fst (m : M) (s : Slot) : (m.liX s).fst = m.fst:=fst_w (liX_w m s)
theorem liX_liB (m : M) (s t : Slot) (x : Int) : (m.liX s).liB x t = m.liB x t:=liB_w (liX_w m s) x t

theorem gE_there (h : m.gE x = 0) : thereB m x = true ∧ m.slotB x = true:=by
 unfold M.gE at h
 split at h
 ·rename_i ht
  split at h
  ·rename_i hb; exact ⟨ht,hb⟩
  ·cases h
 ·cases h
theorem gE_zero (h1 : thereB m x = true) (h2 : m.slotB x = true) : m.gE x = 0:=by simp only [M.gE,h1,h2,if_true]
theorem there_ne0 (h : thereB m x = true) : x ≠ 0:=by have:=there_iff.1 h; omega

theorem pX_len (m : M) (a : Int) (s : Slot) : (m.pX a s).w.length = m.w.length:=by
 unfold M.pX; split
 ·exact M.putS_len _ _ _
 ·rfl
theorem pX_gE (ht : thereB m a = true) (hr : slotRB s = true) (x : Int) : (m.pX a s).gE x = if x = a then 0 else m.gE x:=by
 unfold M.pX
 rw [if_pos ⟨ht,hr⟩]
 by_cases e : x = a
 ·subst e
  rw [if_pos rfl]
  exact gE_zero (by rw [M.putS_there]; exact ht) (M.putS_slot ht hr).1
 ·rw [if_neg e]
  unfold M.gE
  rw [M.putS_there]
  by_cases hx : thereB m x = true
  ·rw [(M.putS_other ht hr hx (Ne.symm e)).1]
  ·rw [if_neg hx,if_neg hx]
theorem pX_gV (ht : thereB m a = true) (hr : slotRB s = true) (x : Int) : (m.pX a s).gV x = if x = a then s else m.gV x:=by
 unfold M.pX
 rw [if_pos ⟨ht,hr⟩]
 by_cases e : x = a
 ·subst e
  rw [if_pos rfl]
  unfold M.gV
  rw [if_pos ⟨by rw [M.putS_there]; exact ht,(M.putS_slot ht hr).1⟩]
  exact (M.putS_slot ht hr).2
 ·rw [if_neg e]
  unfold M.gV
  rw [M.putS_there]
  by_cases hx : thereB m x = true
  ·rw [(M.putS_other ht hr hx (Ne.symm e)).1,(M.putS_other ht hr hx (Ne.symm e)).2]
  ·rw [if_neg fun h => hx h.1,if_neg fun h => hx h.1]
theorem pX_at (ht : thereB m a = true) (hr : slotRB s = true) {j : Int} (hj : 0 ≤ j) (hn : j < a ∨ a + 3 < j) : (m.pX a s).at j = m.at j:=by
 unfold M.pX
 rw [if_pos ⟨ht,hr⟩,M.at_putS ht hr hj,if_neg (by omega),if_neg (by omega),if_neg (by omega),if_neg (by omega)]
theorem pX_fst (ht : thereB m a = true) (hr : slotRB s = true) : (m.pX a s).fst = m.fst:=by
 have h1:=there_iff.1 ht
 have h2:=pX_at ht hr (j:=2) (by omega) (by omega)
 simp only [M.fst,keptV,keptB,M.has,h2,pX_len]
 rfl
theorem sfX_len (m : M) (n : Int) : (m.sfX n).w.length = m.w.length:=by
 unfold M.sfX; split
 ·exact M.put_len _ _ _
 ·rfl
theorem sfX_there (m : M) (n x : Int) : thereB (m.sfX n) x = thereB m x:=by simp only [thereB,sfX_len]
theorem sfX_at (m : M) (n : Int) {j : Int} (hj : 0 ≤ j) (h2 : j ≠ 2) : (m.sfX n).at j = m.at j:=by
 unfold M.sfX; split
 ·simp only [M.at_tick,M.at_put]
  rw [if_neg (by omega)]
 ·rfl
theorem sfX_slotB (m : M) (n x : Int) (h : 4 ≤ x) : (m.sfX n).slotB x = m.slotB x ∧ (m.sfX n).slotC x = m.slotC x:=by
 simp only [M.slotB,M.slotC,sfX_at m n (j:=x) (by omega) (by omega),sfX_at m n (j:=x + 1) (by omega) (by omega),sfX_at m n (j:=x + 2) (by omega) (by omega),sfX_at m n (j:=x + 3) (by omega) (by omega),and_self]
theorem sfX_gE (m : M) (n x : Int) : (m.sfX n).gE x = m.gE x:=by
 unfold M.gE
 rw [sfX_there]
 by_cases hx : thereB m x = true
 ·rw [(sfX_slotB m n x (there_iff.1 hx).1).1]
 ·rw [if_neg hx,if_neg hx]
theorem sfX_gV (m : M) (n x : Int) : (m.sfX n).gV x = m.gV x:=by
 unfold M.gV
 rw [sfX_there]
 by_cases hx : thereB m x = true
 ·rw [(sfX_slotB m n x (there_iff.1 hx).1).1,(sfX_slotB m n x (there_iff.1 hx).1).2]
 ·rw [if_neg fun h => hx h.1,if_neg fun h => hx h.1]
theorem kept_is (m : M) (n : Int) : keptB 4 4 m n = thereB m n:=by
 have hl:=m.l
 have w1 : IntKind.i64.wrap ((m.w.length : Int) - 4) = m.w.length - 4:=wrap64 (by omega) (by omega)
 simp only [keptB,thereB,w1]
theorem sfX_two (hn : n = 0 ∨ thereB m n = true) (hl : 4 ≤ m.w.length) : (m.sfX n).at 2 = n:=by
 have hlt:=m.l
 have hh : m.has 2 1 = true:=M.has_iff.2 (by omega)
 have hc : (n == 0 || keptB 4 4 m n) = true:=by
  rw [kept_is]
  rcases hn with rfl | h
  ·rfl
  ·rw [h,Bool.or_true]
 have hb : 0 ≤ n ∧ n < 65536:=by
  rcases hn with rfl | h
  ·omega
  ·have:=there_iff.1 h; omega
 unfold M.sfX
 rw [if_pos ⟨hc,hh⟩,M.at_tick,M.at_put,if_pos (by simp; omega),IntKind.wrap_u64]
 simp only [uw]; omega
theorem sfX_fst (hn : n = 0 ∨ thereB m n = true) (hl : 4 ≤ m.w.length) : (m.sfX n).fst = n:=by
 have hlt:=m.l
 have hh : (m.sfX n).has 2 1 = true:=M.has_iff.2 (by rw [sfX_len]; omega)
 unfold M.fst
 rw [if_pos hh,sfX_two hn hl]
 unfold keptV
 rw [kept_is,sfX_there]
 rcases hn with rfl | h
 ·simp only [IntKind.wrap_i64]
  split <;> rfl
 ·have hb:=there_iff.1 h
  have hw : IntKind.i64.wrap n = n:=wrap64 (by omega) (by omega)
  rw [hw,if_pos ⟨by omega,h⟩]
end

structure M.Fr (m m' : M) : Prop where
 len : m'.w.length = m.w.length
 low : ∀ j : Int,j = 0 ∨ j = 1 ∨ j = 3 → m'.at j = m.at j
 slot : ∀ x,thereB m x = true → m'.gE x = 0 ∨ ∀ k : Int,0 ≤ k → k ≤ 3 → m'.at (x + k) = m.at (x + k)
 two : m.at 2 = m.fst → m'.at 2 = m'.fst
theorem M.Fr.refl (m : M) : M.Fr m m:=⟨rfl,fun _ _ => rfl,fun _ _ => .inr fun _ _ _ => rfl,fun h => h⟩
theorem M.Fr.there {m m' : M} (h : M.Fr m m') (x : Int) : thereB m' x = thereB m x:=by simp only [thereB,h.len]
theorem M.Fr.of_w {m m1 m2 : M} (h : M.Fr m m1) (e : m2.w = m1.w) : M.Fr m m2 :=
 ⟨by rw [e]; exact h.len,fun j hj => by rw [at_w e]; exact h.low j hj,fun x hx => by
  rcases h.slot x hx with h1 | h1
  ·exact .inl (by rw [gE_w e]; exact h1)
  ·exact .inr fun k h2 h3 => by rw [at_w e]; exact h1 k h2 h3,fun h2 => by rw [at_w e,fst_w e]; exact h.two h2⟩
theorem M.Fr.from_w {m m' m1 : M} (h : M.Fr m m1) (e : m'.w = m.w) : M.Fr m' m1 :=
 ⟨by rw [e]; exact h.len,fun j hj => by rw [at_w e]; exact h.low j hj,fun x hx => by
  rcases h.slot x (by rw [← there_w e]; exact hx) with h1 | h1
  ·exact .inl h1
  ·exact .inr fun k h2 h3 => by rw [at_w e]; exact h1 k h2 h3,fun h2 => by rw [at_w e,fst_w e] at h2; exact h.two h2⟩
theorem M.Fr.gX {m m' : M} (h : M.Fr m m') (a : Int) : M.Fr m (m'.gX a):=h.of_w (gX_w _ _)
theorem M.Fr.fstX {m m' : M} (h : M.Fr m m') : M.Fr m m'.fstX:=h.of_w (fstX_w _)
theorem M.Fr.liX {m m' : M} (h : M.Fr m m') (s : Slot) : M.Fr m (m'.liX s):=h.of_w (liX_w _ _)
theorem M.Fr.pX {m m' : M} (h : M.Fr m m') (a : Int) (s : Slot) : M.Fr m (m'.pX a s):=by
 by_cases hc : thereB m' a = true ∧ slotRB s = true
 ·obtain ⟨ht,hr⟩:=hc
  have hb:=there_iff.1 ht
  refine ⟨by rw [pX_len]; exact h.len,fun j hj => by rw [pX_at ht hr (by omega) (by omega)]; exact h.low j hj,fun x hx => ?_,fun h2 => by rw [pX_at ht hr (by omega) (by omega),pX_fst ht hr]; exact h.two h2⟩
  rw [pX_gE ht hr]
  by_cases e : x = a
  ·exact .inl (if_pos e)
  ·rw [if_neg e]
   rcases h.slot x hx with h1 | h1
   ·exact .inl h1
   ·refine .inr fun k h2 h3 => ?_
    have hx':=there_iff.1 hx
    rw [Int.tmod_eq_emod_of_nonneg (by omega)] at hx' hb
    rw [pX_at ht hr (by omega) (by omega)]
    exact h1 k h2 h3
 ·have : m'.pX a s = m':=by unfold M.pX; rw [if_neg hc]
  rw [this]; exact h
theorem M.Fr.sfX {m m' : M} (h : M.Fr m m') {n : Int} (hl : 4 ≤ m.w.length) : M.Fr m (m'.sfX n):=by
 by_cases hn : n = 0 ∨ thereB m' n = true
 ·refine ⟨by rw [sfX_len]; exact h.len,fun j hj => by rw [sfX_at _ _ (by omega) (by omega)]; exact h.low j hj,fun x hx => ?_,fun _ => ?_⟩
  ·rw [sfX_gE]
   rcases h.slot x hx with h1 | h1
   ·exact .inl h1
   ·refine .inr fun k h2 h3 => ?_
    have hx':=there_iff.1 hx
    rw [sfX_at _ _ (by omega) (by omega)]
    exact h1 k h2 h3
  ·rw [sfX_two hn (by rw [h.len]; exact hl),sfX_fst hn (by rw [h.len]; exact hl)]
 ·have : m'.sfX n = m':=by
   unfold M.sfX
   rw [kept_is,if_neg]
   simp only [Bool.or_eq_true,beq_iff_eq,not_and]
   exact fun hh => absurd hh hn
  rw [this]; exact h
theorem slot_words {m : M} {x : Int} (h : m.gE x = 0) : m.at x = (m.gV x).cap.w0 ∧ m.at (x + 1) = (m.gV x).cap.num ∧ m.at (x + 2) = (m.gV x).links ∧ m.at (x + 3) = 0:=by
 obtain ⟨h1,h2⟩:=gE_there h
 have e : m.gV x = m.slotC x:=by unfold M.gV; rw [if_pos ⟨h1,h2⟩]
 rw [e]
 simp only [M.slotB,slotB,Bool.and_eq_true,decide_eq_true_eq,beq_iff_eq] at h2
 obtain ⟨d1,d2,d3,d4⟩:=h2
 obtain ⟨_,b1,b2⟩:=dec_back (m.at_u x) d1
 have u2:=m.at_u (x + 2)
 simp only [u64] at u2
 simp only [M.slotC,slotC,Slot.links]
 refine ⟨b1.symm,b2.symm, ?_,d3⟩
 omega
theorem M.Fr.det {m m1 m2 : M} (h1 : M.Fr m m1) (h2 : M.Fr m m2) (hE : ∀ x,m1.gE x = m2.gE x) (hV : ∀ x,m1.gV x = m2.gV x) (hF : m1.fst = m2.fst) (h4 : m.w.length % 4 = 0) (htwo : m.at 2 = m.fst) : m1.w = m2.w:=by
 refine eq_of_nth (h1.len.trans h2.len.symm) fun i hi => ?_
 have key : m1.at (i : Int) = m2.at (i : Int):=by
  rcases Nat.lt_or_ge i 4 with hlt | hge
  ·have hc : (i : Int) = 2 ∨ ((i : Int) = 0 ∨ (i : Int) = 1 ∨ (i : Int) = 3):=by omega
   rcases hc with hc | hc
   ·rw [hc,h1.two htwo,h2.two htwo,hF]
   ·rw [h1.low _ hc,h2.low _ hc]
  ·obtain ⟨x,hx⟩ : ∃ x : Int,x = (i : Int) - (i : Int) % 4:=⟨_,rfl⟩
   have hil : i < m.w.length:=by rw [← h1.len]; exact hi
   have ht : thereB m x = true:=there_iff.2 ⟨by omega,by rw [Int.tmod_eq_emod_of_nonneg (by omega)]; omega,by omega⟩
   have hk : (i : Int) = x ∨ (i : Int) = x + 1 ∨ (i : Int) = x + 2 ∨ (i : Int) = x + 3:=by omega
   by_cases e : m1.gE x = 0
   ·obtain ⟨p0,p1,p2,p3⟩:=slot_words e
    obtain ⟨q0,q1,q2,q3⟩:=slot_words (show m2.gE x = 0 by rw [← hE]; exact e)
    rw [hV] at p0 p1 p2
    rcases hk with hk | hk | hk | hk <;> rw [hk]
    ·rw [p0,q0]
    ·rw [p1,q1]
    ·rw [p2,q2]
    ·rw [p3,q3]
   ·have w1:=(h1.slot x ht).resolve_left e
    have w2:=(h2.slot x ht).resolve_left (by rw [← hE]; exact e)
    obtain ⟨k,hk2⟩ : ∃ k : Int,k = (i : Int) - x:=⟨_,rfl⟩
    have : (i : Int) = x + k:=by omega
    rw [this,w1 k (by omega) (by omega),w2 k (by omega) (by omega)]
 simpa [M.at] using key
end Go.Proofs.Ytcdfofeolgbnbaa

/- slices.Index and Contains of ints; package cdt: Next,Below,Last. -/
namespace Go.Proofs.Ytcdfofeolgbnbaa
open Go.D
open Nat (reduceAdd reducePow reduceMul reduceSub reduceLeDiff reduceLT reduceEqDiff)
open Int (reduceNeg reduceLE reduceEq reduceNe reduceToNat)
open Go.D renaming istep → zx,pickR → zw,bin1R → zv,un1R → zu,eqS → zq,eq1 → zp,cmpS → zj,cmp1 → zk,isNil → zg,shows → zZ,result → zY,q_cond_t → zU,q_cond_f → zQ
open List renaming set → zX,replicate → zW
open Option renaming map → zV
open Nat renaming reduceAdd → yz,reducePow → yy,reduceMul → yx,reduceSub → yw,reduceLeDiff → yv,reduceLT → yu,reduceEqDiff → yq
open Int renaming reduceNeg → yp,reduceLE → yj,reduceEq → yk,reduceNe → yg,reduceToNat → yZ,reducePow → yY,reduceLT → yX,reduceAdd → yW,reduceSub → yV,reduceMul → yU,reduceBEq → yQ,reduceBNe → xz
set_option linter.all false
set_option maxRecDepth 100000
set_option maxHeartbeats 8000000

theorem arr_ints : ∀ l : List Int,arr In.c l = intsB l
 | [] => rfl
 | x :: l => by simp only [arr,In.c,arr_ints l,intsB,List.map_cons]; rfl
theorem intsOf_at {h : List Blk} {j c room : Nat} {l : List Int} (hj : h[j]? = some ⟨.rw,intsB l,room⟩) : arrOf In.c h (.sl (.g j) 0 l.length c) = some l:=arrOf_eq (.inr ⟨j,c, .rw,room,rfl,by rw [arr_ints]; exact hj,fun _ h => by cases h⟩)
theorem intsOf_ns {h : List Blk} : arrOf In.c h .ns = some []:=arrOf_eq (.inl ⟨.inl rfl,rfl⟩)
theorem intsB_get {l : List Int} {i : Nat} (h : i < l.length) : (intsB l)[i]? = some (.i .i64 (nth 0 l i)):=by
 unfold intsB
 rw [List.getElem?_map,List.getElem?_eq_getElem h,← nth_eq h]; rfl
def ixOf (x : Int) (l : List Int) : Int:=if x ∈ l then (l.idxOf x : Int) else -1
noncomputable def indexG : List V → List Blk → Res
 | [.s s, .s (.i .i64 x)],h => match arrOf In.c h s with
  | some l => .ob (l.length ≤ 8796093022208) (.ok (.s (.i .i64 (ixOf x l))) [] h)
  | none => .bad
 | _,_ => .bad
theorem indexG_spec {args : List V} {h : List Blk} {K : V → List Blk → Prop} (hS : (indexG args h).spec K) : ∃ s x l,args = [.s s, .s (.i .i64 x)] ∧ IsArr In.c h s l ∧ l.length ≤ 8796093022208 ∧ K (.s (.i .i64 (ixOf x l))) h:=by
 unfold indexG at hS
 split at hS
 ·split at hS
  ·rename_i e1
   exact ⟨_,_,_,rfl,arrOf_some e1,hS.1,hS.2⟩
  ·exact hS.elim
 ·exact hS.elim
theorem ixOf_at {x : Int} {l : List Int} {i : Nat} (hi : i < l.length) (hn : x ∉ l.take i) (e : x = nth 0 l i) : ixOf x l = (i : Int):=by
 have hx : x ∈ l:=by rw [e,nth_eq hi]; exact List.getElem_mem hi
 unfold ixOf
 rw [if_pos hx]
 have e1 : l = l.take i ++ x :: l.drop (i + 1):=by
  rw [e,nth_eq hi,List.getElem_cons_drop,List.take_append_drop]
 have : l.idxOf x = i:=by
  rw [e1,List.idxOf_append,if_neg hn,List.idxOf_cons_self,List.length_take]
  omega
 rw [this]
theorem not_take {x : Int} {l : List Int} {i : Nat} (hi : i < l.length) (hn : x ∉ l.take i) (e : ¬ x = nth 0 l i) : x ∉ l.take (i + 1):=by
 rw [List.take_add_one,List.getElem?_eq_getElem hi,Option.toList_some,List.mem_append,List.mem_singleton,← nth_eq hi (d:=0)]
 rintro (h | h)
 ·exact hn h
 ·exact e h
theorem index_snd : Snd Try.prog 65 (FSpec.of indexG):=snd_run (noT_snd _) mixed Try.func65 dc65 100 fun args h K hc hS => by
 obtain ⟨s,x,l,rfl,Hs,hl,hK⟩:=indexG_spec hS
 clear hS
 have hlen:=fun ls h' => Hs.sl.len (ls:=ls) (h:=h')
 simp (maxSteps:=9999999) only [EV0,zx,zw,zv,zu,zq,zp,zj,zk,zg,leT,zZ,rvC,zY,zX,zW,zV,↓zU,↓zQ,reduceCtorEq,yz,yy,yY,yx,yw,yv,yu,yq,yp,yX,yj,yk,yg,yW,yV,yU,yZ,yQ,xz,df65,↓hlen]
 refine loop_rule (α:=Nat) [4,5,8,9,10,11,12,13,14,15,16,17,18] (fun q => [(8, .s (.i .i64 (q : Int)))]) (fun _ => []) (fun _ => h) (fun q => q ≤ l.length ∧ x ∉ l.take q) (fun q => l.length - q) 0 ⟨Nat.zero_le _,by simp⟩ ?_ ?_
 ·refine Wk.less ?_
  simp (maxSteps:=9999999) only [EV0,zx,zw,zv,zu,zq,zp,zj,zk,zg,leT,zZ,rvC,zY,zX,zW,zV,↓zU,↓zQ,reduceCtorEq,yz,yy,yY,yx,yw,yv,yu,yq,yp,yX,yj,yk,yg,yW,yV,yU,yZ,yQ,xz,Int.natCast_zero]
 ·rintro X q ⟨hq,hn⟩ IH
  rcases Nat.lt_or_ge q l.length with h1 | h1
  ·obtain ⟨j,c',st,room,rfl,hj,hd⟩:=Hs.at h1
   obtain ⟨d1,d2,d3,d4⟩:=idx h1 (by omega)
   rw [arr_ints] at hj
   have g1:=intsB_get h1
   by_cases e : x = nth 0 l q
   ·have e1:=ixOf_at h1 hn e
    rw [e1] at hK
    refine run_sound (Tab.ok_Γ _) 100 _ _ _ _ ?_
    simp (maxSteps:=9999999) only [EV0,zx,zw,zv,zu,zq,zp,zj,zk,zg,leT,zZ,rvC,zY,zX,zW,zV,↓zU,↓zQ,reduceCtorEq,yz,yy,yY,yx,yw,yv,yu,yq,yp,yX,yj,yk,yg,yW,yV,yU,yZ,yQ,xz,d1,d2,d3,d4,g1,hj,hd,e,Int.toNat_natCast]
    exact hK
   ·have e1 : (x == nth 0 l q) = false:=by simpa using e
    refine run_sound (Tab.ok_Γ _) 100 _ _ _ _ ?_
    simp (maxSteps:=9999999) only [EV0,zx,zw,zv,zu,zq,zp,zj,zk,zg,leT,zZ,rvC,zY,zX,zW,zV,↓zU,↓zQ,reduceCtorEq,yz,yy,yY,yx,yw,yv,yu,yq,yp,yX,yj,yk,yg,yW,yV,yU,yZ,yQ,xz,d1,d2,d3,d4,g1,hj,hd,e1,e,Int.toNat_natCast]
    exact IH (q + 1) _ (by omega) ⟨by omega,not_take h1 hn e⟩ (Wk.same rfl rfl (by simp (maxSteps:=9999999) only [EV0,zx,zw,zv,zu,zq,zp,zj,zk,zg,leT,zZ,rvC,zY,zX,zW,zV,↓zU,↓zQ,reduceCtorEq,yz,yy,yY,yx,yw,yv,yu,yq,yp,yX,yj,yk,yg,yW,yV,yU,yZ,yQ,xz]))
  ·have e0 : q = l.length:=by omega
   subst e0
   rw [List.take_length] at hn
   have e1 : ixOf x l = -1:=by unfold ixOf; rw [if_neg hn]
   rw [e1] at hK
   refine run_sound (Tab.ok_Γ _) 100 _ _ _ _ ?_
   simp (maxSteps:=9999999) only [EV0,zx,zw,zv,zu,zq,zp,zj,zk,zg,leT,zZ,rvC,zY,zX,zW,zV,↓zU,↓zQ,reduceCtorEq,yz,yy,yY,yx,yw,yv,yu,yq,yp,yX,yj,yk,yg,yW,yV,yU,yZ,yQ,xz,↓hlen,Int.lt_irrefl]
   exact hK
noncomputable def containsG : List V → List Blk → Res
 | [.s s, .s (.i .i64 x)],h => match arrOf In.c h s with
  | some l => .ob (l.length ≤ 8796093022208) (.ok (.s (.b (decide (x ∈ l)))) [] h)
  | none => .bad
 | _,_ => .bad
theorem containsG_spec {args : List V} {h : List Blk} {K : V → List Blk → Prop} (hS : (containsG args h).spec K) : ∃ s x l,args = [.s s, .s (.i .i64 x)] ∧ IsArr In.c h s l ∧ l.length ≤ 8796093022208 ∧ K (.s (.b (decide (x ∈ l)))) h:=by
 unfold containsG at hS
 split at hS
 ·split at hS
  ·rename_i e1
   exact ⟨_,_,_,rfl,arrOf_some e1,hS.1,hS.2⟩
  ·exact hS.elim
 ·exact hS.elim
noncomputable def TCo : Tab:=addT 65 indexG noT
theorem TCo_snd : TCo.Snd Try.prog:=addT_snd ok65 index_snd (noT_snd _)
theorem contains_snd : Snd Try.prog 36 (FSpec.of containsG):=snd_run TCo_snd mixed Try.func36 dc36 100 fun args h K hc hS => by
 obtain ⟨s,x,l,rfl,Hs,hl,hK⟩:=containsG_spec hS
 clear hS
 have hkn:=Hs.sl.known
 have hnl:=Hs.sl.noL
 have e:=arrOf_eq Hs
 have hv : decide (0 ≤ ixOf x l) = decide (x ∈ l):=by
  unfold ixOf
  by_cases hx : x ∈ l
  ·rw [if_pos hx]; simp [hx]
  ·rw [if_neg hx]; simp [hx]
 obtain ⟨b,hb⟩ : ∃ b,decide (x ∈ l) = b:=⟨_,rfl⟩
 rw [hb] at hK hv
 simp (maxSteps:=9999999) only [EV0,zx,zw,zv,zu,zq,zp,zj,zk,zg,leT,zZ,rvC,zY,zX,zW,zV,↓zU,↓zQ,reduceCtorEq,yz,yy,yY,yx,yw,yv,yu,yq,yp,yX,yj,yk,yg,yW,yV,yU,yZ,yQ,xz,df36,TCo,indexG,e,hl,↓hkn,↓hnl,hv]
 exact hK

/-! ### Next -/
def M.nxV (m : M) (a : Int) : Int:=if m.fE a = 0 then (if (m.gV a).next = 0 then 0 else if m.fE (m.gV a).next = 0 then (if (m.gV (m.gV a).next).depth ≤ (m.gV a).depth then 0 else (m.gV a).next) else 0) else 0
def M.nxX (m : M) (a : Int) : M:=if m.fE a = 0 then (if (m.gV a).next = 0 then m.gX a else (m.gX a).gX (m.gV a).next) else m.gX a
def nextM (b : Nat) (m : M) (st : M → List Blk) : List V → Res
 | [.s (.i .i64 x)] => .ok (.s (.i .i64 (m.nxV x))) [] (st (m.nxX x))
 | _ => .bad
noncomputable def nextG:=memF nextM
noncomputable def TNx : Tab:=addT 35 fullG (noT)
theorem TNx_snd : TNx.Snd Try.prog:=addT_snd ok35 full_snd ((noT_snd _))
theorem next_snd : Snd Try.prog 14 (FSpec.of nextG):=snd_run TNx_snd mixed Try.func14 dc14 200 fun args h K hc hS => by
 obtain ⟨a,b,m,rest,rfl,H,hS1⟩:=memF_spec (f:=nextM) hS
 clear hS
 have hS:=hS1
 clear hS1
 unfold nextM at hS
 split at hS
 ·rename_i x
  simp only [spec_ok,M.nxV,M.nxX] at hS
  obtain ⟨⟨⟨c0,c1,c2,c3,c4,c5,c6,c7,c8,c9,c10⟩,p0,q0,r0⟩,hs⟩ : ∃ s,m.gV x = s:=⟨_,rfl⟩
  obtain ⟨⟨⟨d0,d1,d2,d3,d4,d5,d6,d7,d8,d9,d10⟩,p1,q1,r1⟩,ht⟩ : ∃ s,m.gV q0 = s:=⟨_,rfl⟩
  simp only [hs,ht] at hS
  by_cases hf : m.fE x = 0
  ·rw [if_pos hf,if_pos hf] at hS
   by_cases hn : q0 = 0
   ·rw [if_pos hn,if_pos hn] at hS
    have hn' : (q0 == 0) = true:=by simpa using hn
    simp (maxSteps:=9999999) only [EV0,zx,zw,zv,zu,zq,zp,zj,zk,zg,leT,zZ,rvC,zY,zX,zW,zV,↓zU,↓zQ,reduceCtorEq,yz,yy,yY,yx,yw,yv,yu,yq,yp,yX,yj,yk,yg,yW,yV,yU,yZ,yQ,xz,df14,TNx,fullG,memF_eq H,memF_set H,fullM,hs,hf,hn',bne,Slot.cl,Cap.cl,put,fillP,sub,EVt]
    exact hS
   ·rw [if_neg hn,if_neg hn] at hS
    have hn' : (q0 == 0) = false:=by simpa using hn
    by_cases hg : m.fE q0 = 0
    ·rw [if_pos hg] at hS
     by_cases hd : r1 ≤ r0
     ·rw [if_pos hd] at hS
      simp (maxSteps:=9999999) only [EV0,zx,zw,zv,zu,zq,zp,zj,zk,zg,leT,zZ,rvC,zY,zX,zW,zV,↓zU,↓zQ,reduceCtorEq,yz,yy,yY,yx,yw,yv,yu,yq,yp,yX,yj,yk,yg,yW,yV,yU,yZ,yQ,xz,df14,TNx,fullG,memF_eq H,memF_set H,fullM,hs,ht,hf,hn',hg,hd,gX_fE,gX_gV,bne,Slot.cl,Cap.cl,put,fillP,sub,EVt]
      exact hS
     ·rw [if_neg hd] at hS
      simp (maxSteps:=9999999) only [EV0,zx,zw,zv,zu,zq,zp,zj,zk,zg,leT,zZ,rvC,zY,zX,zW,zV,↓zU,↓zQ,reduceCtorEq,yz,yy,yY,yx,yw,yv,yu,yq,yp,yX,yj,yk,yg,yW,yV,yU,yZ,yQ,xz,df14,TNx,fullG,memF_eq H,memF_set H,fullM,hs,ht,hf,hn',hg,hd,gX_fE,gX_gV,bne,Slot.cl,Cap.cl,put,fillP,sub,EVt]
      exact hS
    ·rw [if_neg hg] at hS
     have hg' : (m.fE q0 == 0) = false:=by simpa using hg
     simp (maxSteps:=9999999) only [EV0,zx,zw,zv,zu,zq,zp,zj,zk,zg,leT,zZ,rvC,zY,zX,zW,zV,↓zU,↓zQ,reduceCtorEq,yz,yy,yY,yx,yw,yv,yu,yq,yp,yX,yj,yk,yg,yW,yV,yU,yZ,yQ,xz,df14,TNx,fullG,memF_eq H,memF_set H,fullM,hs,ht,hf,hn',hg',hg,gX_fE,gX_gV,bne,Slot.cl,Cap.cl,put,fillP,sub,EVt]
     exact hS
  ·rw [if_neg hf,if_neg hf] at hS
   have hf' : (m.fE x == 0) = false:=by simpa using hf
   simp (maxSteps:=9999999) only [EV0,zx,zw,zv,zu,zq,zp,zj,zk,zg,leT,zZ,rvC,zY,zX,zW,zV,↓zU,↓zQ,reduceCtorEq,yz,yy,yY,yx,yw,yv,yu,yq,yp,yX,yj,yk,yg,yW,yV,yU,yZ,yQ,xz,df14,TNx,fullG,memF_eq H,memF_set H,fullM,hs,hf,hf',bne,Slot.cl,Cap.cl,put,fillP,sub,EVt]
   exact hS
 ·exact hS.elim

/-! ### Below,Last -/
def M.dsO (m : M) (x : Int) : Option (List Int) × M:=if m.fE x = 0 then dsW (m.gV x).depth (m.w.length / 4) (m.gV x).next (m.gX x) [] else (none,m.gX x)
def M.dsL (m : M) (x : Int) : List Int:=(m.dsO x).1.getD []
def belM (b : Nat) (m : M) (st : M → List Blk) : List V → Res
 | [.s (.i .i64 x), .s (.i .i64 y)] => .ok (.s (.b (decide (y ∈ m.dsL x)))) [] (st (m.dsO x).2)
 | _ => .bad
noncomputable def belG:=memF belM
def lastM (b : Nat) (m : M) (st : M → List Blk) : List V → Res
 | [.s (.i .i64 x)] => .ok (.s (.i .i64 ((m.dsL x).getLastD 0))) [] (st (m.dsO x).2)
 | _ => .bad
noncomputable def lastG:=memF lastM
theorem dsW_len {d : Int} : ∀ (k : Nat) (x : Int) (m : M) (l : List Int) {l' : List Int} {m' : M},dsW d k x m l = (some l',m') → l'.length ≤ l.length + k
 | 0,x,m,l,l',m',h => by
  simp only [dsW] at h
  split at h
  ·simp only [Prod.mk.injEq,Option.some.injEq] at h; rw [← h.1]; omega
  ·simp at h
 | k + 1,x,m,l,l',m',h => by
  simp only [dsW] at h
  split at h
  ·simp only [Prod.mk.injEq,Option.some.injEq] at h; rw [← h.1]; omega
  ·split at h
   ·split at h
    ·simp only [Prod.mk.injEq,Option.some.injEq] at h; rw [← h.1]; omega
    ·have:=dsW_len k _ _ _ h
     simp only [List.length_append,List.length_cons,List.length_nil] at this
     omega
   ·simp at h
noncomputable def TBe : Tab:=addT 13 dscG (noT)
theorem TBe_snd : TBe.Snd Try.prog:=addT_snd ok13 dsc_snd ((noT_snd _))
noncomputable def TBl : Tab:=addT 36 containsG TBe
theorem TBl_snd : TBl.Snd Try.prog:=addT_snd ok36 contains_snd TBe_snd
theorem drop_b {q : Bool} {t : List V} {ls h X : List Blk} (ht : leT [.s (.b q)] t) (hc : clean h.length h = true) {n0 : Nat} (hn : n0 ≤ h.length) : Wk n0 ⟨t,ls,h ++ X⟩ ⟨[.s (.b q)],[],h⟩ :=
 .trans (Wk.keep 0 (ls:=[]) (t':=[.s (.b q)]) rfl rfl ht (by rfl) (by rfl)) (Wk.keepH h.length (by simp) hn (by simp (maxSteps:=9999999) only [EV0,zx,zw,zv,zu,zq,zp,zj,zk,zg,leT,zZ,rvC,zY,zX,zW,zV,↓zU,↓zQ,reduceCtorEq,yz,yy,yY,yx,yw,yv,yu,yq,yp,yX,yj,yk,yg,yW,yV,yU,yZ,yQ,xz]) (by rfl) hc (by rfl))
theorem drop_i {q : Int} {t : List V} {ls h X : List Blk} (ht : leT [.s (.i .i64 q)] t) (hc : clean h.length h = true) {n0 : Nat} (hn : n0 ≤ h.length) : Wk n0 ⟨t,ls,h ++ X⟩ ⟨[.s (.i .i64 q)],[],h⟩ :=
 .trans (Wk.keep 0 (ls:=[]) (t':=[.s (.i .i64 q)]) rfl rfl ht (by rfl) (by rfl)) (Wk.keepH h.length (by simp) hn (by simp (maxSteps:=9999999) only [EV0,zx,zw,zv,zu,zq,zp,zj,zk,zg,leT,zZ,rvC,zY,zX,zW,zV,↓zU,↓zQ,reduceCtorEq,yz,yy,yY,yx,yw,yv,yu,yq,yp,yX,yj,yk,yg,yW,yV,yU,yZ,yQ,xz]) (by rfl) hc (by rfl))
theorem bel_snd : Snd Try.prog 16 (FSpec.of belG):=(fwp_sound (Tab.snd_Γ TBl_snd) mixed Try.func16 dc16).weaken fun args h K hc hS => by
 refine fwp_runW (Tab.ok_Γ _) 200 ?_
 obtain ⟨a,b,m,rest,rfl,H,hS1⟩:=memF_spec (f:=belM) hS
 clear hS
 have hS:=hS1
 clear hS1
 unfold belM at hS
 split at hS
 ·rename_i x y
  simp only [spec_ok] at hS
  have hlm : ∀ m2,(setM h a b m2).length = h.length:=fun _ => setM_len
  have hcm : ∀ m2,clean (setM h a b m2).length (setM h a b m2) = true:=fun _ => by rw [setM_len]; exact setM_clean H hc H.ltb
  have hml:=m.l
  by_cases hf : m.fE x = 0
  ·obtain ⟨o,ho⟩ : ∃ o,dsW (m.gV x).depth (m.w.length / 4) (m.gV x).next (m.gX x) [] = o:=⟨_,rfl⟩
   have hO : m.dsO x = o:=by unfold M.dsO; rw [if_pos hf,ho]
   have hL : m.dsL x = o.1.getD []:=by unfold M.dsL; rw [hO]
   rw [hL,hO] at hS
   clear hL hO
   rcases o with ⟨_ | _ | ⟨z,l⟩,m2⟩
   ·simp (maxSteps:=9999999) only [EV0,zx,zw,zv,zu,zq,zp,zj,zk,zg,leT,zZ,rvC,zY,zX,zW,zV,↓zU,↓zQ,reduceCtorEq,yz,yy,yY,yx,yw,yv,yu,yq,yp,yX,yj,yk,yg,yW,yV,yU,yZ,yQ,xz,df16,TBl,TBe,dscG,memF_eq H,memF_set H,dscM,dscR,hf,ho,containsG,intsOf_ns,List.not_mem_nil]
    exact fin_of (v:=.s (.b false)) (ls:=[]) (h:=setM h a b m2) rfl (Wk.keep 0 rfl rfl (by simp (maxSteps:=9999999) only [EV0,zx,zw,zv,zu,zq,zp,zj,zk,zg,leT,zZ,rvC,zY,zX,zW,zV,↓zU,↓zQ,reduceCtorEq,yz,yy,yY,yx,yw,yv,yu,yq,yp,yX,yj,yk,yg,yW,yV,yU,yZ,yQ,xz]) (by rfl) (by rfl)) (by simp (maxSteps:=9999999) only [EV0,zx,zw,zv,zu,zq,zp,zj,zk,zg,leT,zZ,rvC,zY,zX,zW,zV,↓zU,↓zQ,reduceCtorEq,yz,yy,yY,yx,yw,yv,yu,yq,yp,yX,yj,yk,yg,yW,yV,yU,yZ,yQ,xz]; exact hS)
   ·simp (maxSteps:=9999999) only [EV0,zx,zw,zv,zu,zq,zp,zj,zk,zg,leT,zZ,rvC,zY,zX,zW,zV,↓zU,↓zQ,reduceCtorEq,yz,yy,yY,yx,yw,yv,yu,yq,yp,yX,yj,yk,yg,yW,yV,yU,yZ,yQ,xz,df16,TBl,TBe,dscG,memF_eq H,memF_set H,dscM,dscR,hf,ho,containsG,intsOf_ns,List.not_mem_nil]
    exact fin_of (v:=.s (.b false)) (ls:=[]) (h:=setM h a b m2) rfl (Wk.keep 0 rfl rfl (by simp (maxSteps:=9999999) only [EV0,zx,zw,zv,zu,zq,zp,zj,zk,zg,leT,zZ,rvC,zY,zX,zW,zV,↓zU,↓zQ,reduceCtorEq,yz,yy,yY,yx,yw,yv,yu,yq,yp,yX,yj,yk,yg,yW,yV,yU,yZ,yQ,xz]) (by rfl) (by rfl)) (by simp (maxSteps:=9999999) only [EV0,zx,zw,zv,zu,zq,zp,zj,zk,zg,leT,zZ,rvC,zY,zX,zW,zV,↓zU,↓zQ,reduceCtorEq,yz,yy,yY,yx,yw,yv,yu,yq,yp,yX,yj,yk,yg,yW,yV,yU,yZ,yQ,xz]; exact hS)
   ·have hl:=dsW_len _ _ _ _ ho
    have w5 : ∀ c,(setM h a b m2 ++ [⟨.rw,intsB (z :: l),c⟩])[(setM h a b m2).length]? = some (⟨.rw,intsB (z :: l),c⟩ : Blk):=fun c => by simp
    have hA : ∀ c,arrOf In.c (setM h a b m2 ++ [⟨.rw,intsB (z :: l),c⟩]) (.sl (.g (setM h a b m2).length) 0 (l.length + 1) c) = some (z :: l):=fun c => intsOf_at (w5 c)
    have hl2 : (z :: l).length ≤ 8796093022208:=by simp only [List.length_nil] at hl; omega
    simp only [Option.getD_some] at hS
    obtain ⟨ys,hys⟩ : ∃ ys,decide (y ∈ z :: l) = ys:=⟨_,rfl⟩
    rw [hys] at hS
    simp (maxSteps:=9999999) only [EV0,zx,zw,zv,zu,zq,zp,zj,zk,zg,leT,zZ,rvC,zY,zX,zW,zV,↓zU,↓zQ,reduceCtorEq,yz,yy,yY,yx,yw,yv,yu,yq,yp,yX,yj,yk,yg,yW,yV,yU,yZ,yQ,xz,df16,TBl,TBe,dscG,memF_eq H,memF_set H,dscM,dscR,hf,ho,containsG,hA,hys,hl2]
    intro c hc'
    refine ⟨by simp only [List.length_cons] at hl2; omega, ?_⟩
    refine fin_of (v:=.s (.b ys)) (ls:=[]) (h:=setM h a b m2) rfl ?_ ?_
    ·exact drop_b (by simp (maxSteps:=9999999) only [EV0,zx,zw,zv,zu,zq,zp,zj,zk,zg,leT,zZ,rvC,zY,zX,zW,zV,↓zU,↓zQ,reduceCtorEq,yz,yy,yY,yx,yw,yv,yu,yq,yp,yX,yj,yk,yg,yW,yV,yU,yZ,yQ,xz]) (hcm m2) (Nat.le_of_eq (hlm m2).symm)
    ·simp (maxSteps:=9999999) only [EV0,zx,zw,zv,zu,zq,zp,zj,zk,zg,leT,zZ,rvC,zY,zX,zW,zV,↓zU,↓zQ,reduceCtorEq,yz,yy,yY,yx,yw,yv,yu,yq,yp,yX,yj,yk,yg,yW,yV,yU,yZ,yQ,xz]
     exact hS
  ·have hO : m.dsO x = (none,m.gX x):=by unfold M.dsO; rw [if_neg hf]
   have hL : m.dsL x = []:=by unfold M.dsL; rw [hO]; rfl
   rw [hL,hO] at hS
   simp (maxSteps:=9999999) only [EV0,zx,zw,zv,zu,zq,zp,zj,zk,zg,leT,zZ,rvC,zY,zX,zW,zV,↓zU,↓zQ,reduceCtorEq,yz,yy,yY,yx,yw,yv,yu,yq,yp,yX,yj,yk,yg,yW,yV,yU,yZ,yQ,xz,df16,TBl,TBe,dscG,memF_eq H,memF_set H,dscM,dscR,hf,containsG,intsOf_ns,List.not_mem_nil]
   exact fin_of (v:=.s (.b false)) (ls:=[]) (h:=setM h a b (m.gX x)) rfl (Wk.keep 0 rfl rfl (by simp (maxSteps:=9999999) only [EV0,zx,zw,zv,zu,zq,zp,zj,zk,zg,leT,zZ,rvC,zY,zX,zW,zV,↓zU,↓zQ,reduceCtorEq,yz,yy,yY,yx,yw,yv,yu,yq,yp,yX,yj,yk,yg,yW,yV,yU,yZ,yQ,xz]) (by rfl) (by rfl)) (by simp (maxSteps:=9999999) only [EV0,zx,zw,zv,zu,zq,zp,zj,zk,zg,leT,zZ,rvC,zY,zX,zW,zV,↓zU,↓zQ,reduceCtorEq,yz,yy,yY,yx,yw,yv,yu,yq,yp,yX,yj,yk,yg,yW,yV,yU,yZ,yQ,xz]; exact hS)
 ·exact hS.elim
theorem last_get {l : List Int} (h : l ≠ []) : (intsB l)[l.length - 1]? = some (.i .i64 (l.getLastD 0)):=by
 have h1 : l.length - 1 < l.length:=by have:=List.length_pos_iff.2 h; omega
 rw [intsB_get h1,nth_eq h1]
 congr 2
 rw [List.getLastD_eq_getLast?,List.getLast?_eq_getElem?,List.getElem?_eq_getElem h1]; rfl
theorem last_snd : Snd Try.prog 15 (FSpec.of lastG):=(fwp_sound (Tab.snd_Γ TBe_snd) mixed Try.func15 dc15).weaken fun args h K hc hS => by
 refine fwp_runW (Tab.ok_Γ _) 200 ?_
 obtain ⟨a,b,m,rest,rfl,H,hS1⟩:=memF_spec (f:=lastM) hS
 clear hS
 have hS:=hS1
 clear hS1
 unfold lastM at hS
 split at hS
 ·rename_i x
  simp only [spec_ok] at hS
  have hlm : ∀ m2,(setM h a b m2).length = h.length:=fun _ => setM_len
  have hcm : ∀ m2,clean (setM h a b m2).length (setM h a b m2) = true:=fun _ => by rw [setM_len]; exact setM_clean H hc H.ltb
  have hml:=m.l
  by_cases hf : m.fE x = 0
  ·obtain ⟨o,ho⟩ : ∃ o,dsW (m.gV x).depth (m.w.length / 4) (m.gV x).next (m.gX x) [] = o:=⟨_,rfl⟩
   have hO : m.dsO x = o:=by unfold M.dsO; rw [if_pos hf,ho]
   have hL : m.dsL x = o.1.getD []:=by unfold M.dsL; rw [hO]
   rw [hL,hO] at hS
   clear hL hO
   rcases o with ⟨_ | _ | ⟨z,l⟩,m2⟩
   ·simp (maxSteps:=9999999) only [EV0,zx,zw,zv,zu,zq,zp,zj,zk,zg,leT,zZ,rvC,zY,zX,zW,zV,↓zU,↓zQ,reduceCtorEq,yz,yy,yY,yx,yw,yv,yu,yq,yp,yX,yj,yk,yg,yW,yV,yU,yZ,yQ,xz,df15,TBe,dscG,memF_eq H,memF_set H,dscM,dscR,hf,ho]
    exact fin_of (v:=.s (.i .i64 0)) (ls:=[]) (h:=setM h a b m2) rfl (Wk.keep 0 rfl rfl (by simp (maxSteps:=9999999) only [EV0,zx,zw,zv,zu,zq,zp,zj,zk,zg,leT,zZ,rvC,zY,zX,zW,zV,↓zU,↓zQ,reduceCtorEq,yz,yy,yY,yx,yw,yv,yu,yq,yp,yX,yj,yk,yg,yW,yV,yU,yZ,yQ,xz]) (by rfl) (by rfl)) (by simp (maxSteps:=9999999) only [EV0,zx,zw,zv,zu,zq,zp,zj,zk,zg,leT,zZ,rvC,zY,zX,zW,zV,↓zU,↓zQ,reduceCtorEq,yz,yy,yY,yx,yw,yv,yu,yq,yp,yX,yj,yk,yg,yW,yV,yU,yZ,yQ,xz]; exact hS)
   ·simp (maxSteps:=9999999) only [EV0,zx,zw,zv,zu,zq,zp,zj,zk,zg,leT,zZ,rvC,zY,zX,zW,zV,↓zU,↓zQ,reduceCtorEq,yz,yy,yY,yx,yw,yv,yu,yq,yp,yX,yj,yk,yg,yW,yV,yU,yZ,yQ,xz,df15,TBe,dscG,memF_eq H,memF_set H,dscM,dscR,hf,ho]
    exact fin_of (v:=.s (.i .i64 0)) (ls:=[]) (h:=setM h a b m2) rfl (Wk.keep 0 rfl rfl (by simp (maxSteps:=9999999) only [EV0,zx,zw,zv,zu,zq,zp,zj,zk,zg,leT,zZ,rvC,zY,zX,zW,zV,↓zU,↓zQ,reduceCtorEq,yz,yy,yY,yx,yw,yv,yu,yq,yp,yX,yj,yk,yg,yW,yV,yU,yZ,yQ,xz]) (by rfl) (by rfl)) (by simp (maxSteps:=9999999) only [EV0,zx,zw,zv,zu,zq,zp,zj,zk,zg,leT,zZ,rvC,zY,zX,zW,zV,↓zU,↓zQ,reduceCtorEq,yz,yy,yY,yx,yw,yv,yu,yq,yp,yX,yj,yk,yg,yW,yV,yU,yZ,yQ,xz]; exact hS)
   ·have hl:=dsW_len _ _ _ _ ho
    have g1:=last_get (l:=z :: l) (by simp)
    simp only [List.length_cons,Nat.add_sub_cancel] at g1
    simp only [Option.getD_some] at hS
    obtain ⟨ys,hys⟩ : ∃ ys,(z :: l).getLastD 0 = ys:=⟨_,rfl⟩
    rw [hys] at hS g1
    have w1 : IntKind.i64.wrap (((l.length + 1 : Nat) : Int) - 1) = (l.length : Int):=by
     rw [wrap64] <;> (simp only [List.length_cons,List.length_nil] at hl; omega)
    have w2 : (((l.length + 1 : Nat) : Int) == 0) = false:=by simpa using (by omega : ¬ ((l.length + 1 : Nat) : Int) = 0)
    have w3 : (0 : Int) ≤ (l.length : Int):=by omega
    have w4 : (l.length : Int) < ((l.length + 1 : Nat) : Int):=by omega
    have w5 : ∀ c,(setM h a b m2 ++ [⟨.rw,intsB (z :: l),c⟩])[(setM h a b m2).length]? = some (⟨.rw,intsB (z :: l),c⟩ : Blk):=fun c => by simp
    simp (maxSteps:=9999999) only [EV0,zx,zw,zv,zu,zq,zp,zj,zk,zg,leT,zZ,rvC,zY,zX,zW,zV,↓zU,↓zQ,reduceCtorEq,yz,yy,yY,yx,yw,yv,yu,yq,yp,yX,yj,yk,yg,yW,yV,yU,yZ,yQ,xz,df15,TBe,dscG,memF_eq H,memF_set H,dscM,dscR,hf,ho,w1,w2,w3,w4,w5,g1,Int.toNat_natCast]
    intro c hc'
    refine fin_of (v:=.s (.i .i64 ys)) (ls:=[]) (h:=setM h a b m2) rfl ?_ ?_
    ·exact drop_i (by simp (maxSteps:=9999999) only [EV0,zx,zw,zv,zu,zq,zp,zj,zk,zg,leT,zZ,rvC,zY,zX,zW,zV,↓zU,↓zQ,reduceCtorEq,yz,yy,yY,yx,yw,yv,yu,yq,yp,yX,yj,yk,yg,yW,yV,yU,yZ,yQ,xz]) (hcm m2) (Nat.le_of_eq (hlm m2).symm)
    ·simp (maxSteps:=9999999) only [EV0,zx,zw,zv,zu,zq,zp,zj,zk,zg,leT,zZ,rvC,zY,zX,zW,zV,↓zU,↓zQ,reduceCtorEq,yz,yy,yY,yx,yw,yv,yu,yq,yp,yX,yj,yk,yg,yW,yV,yU,yZ,yQ,xz]
     exact hS
  ·have hO : m.dsO x = (none,m.gX x):=by unfold M.dsO; rw [if_neg hf]
   have hL : m.dsL x = []:=by unfold M.dsL; rw [hO]; rfl
   rw [hL,hO] at hS
   simp (maxSteps:=9999999) only [EV0,zx,zw,zv,zu,zq,zp,zj,zk,zg,leT,zZ,rvC,zY,zX,zW,zV,↓zU,↓zQ,reduceCtorEq,yz,yy,yY,yx,yw,yv,yu,yq,yp,yX,yj,yk,yg,yW,yV,yU,yZ,yQ,xz,df15,TBe,dscG,memF_eq H,memF_set H,dscM,dscR,hf]
   exact fin_of (v:=.s (.i .i64 0)) (ls:=[]) (h:=setM h a b (m.gX x)) rfl (Wk.keep 0 rfl rfl (by simp (maxSteps:=9999999) only [EV0,zx,zw,zv,zu,zq,zp,zj,zk,zg,leT,zZ,rvC,zY,zX,zW,zV,↓zU,↓zQ,reduceCtorEq,yz,yy,yY,yx,yw,yv,yu,yq,yp,yX,yj,yk,yg,yW,yV,yU,yZ,yQ,xz]) (by rfl) (by rfl)) (by simp (maxSteps:=9999999) only [EV0,zx,zw,zv,zu,zq,zp,zj,zk,zg,leT,zZ,rvC,zY,zX,zW,zV,↓zU,↓zQ,reduceCtorEq,yz,yy,yY,yx,yw,yv,yu,yq,yp,yX,yj,yk,yg,yW,yV,yU,yZ,yQ,xz]; exact hS)
 ·exact hS.elim

def lisM (b : Nat) (m : M) (st : M → List Blk) : List V → Res
 | [] => dscR st (dsW (-1) (m.w.length / 4) m.fst m.fstX [])
 | _ => .bad
noncomputable def lisG:=memF lisM
def lLS (A B : S) (l : List Int) (c : Nat) : List Blk :=
 match l with
 | [] => [⟨.rw,[A],1⟩,⟨.rw,[B],1⟩,⟨.rw,[.ns],1⟩]
 | x :: l => [⟨.rw,[A],1⟩,⟨.rw,[B],1⟩,⟨.rw,[.sl (.l 3) 0 (l.length + 1) c],1⟩,⟨.rw,intsB (x :: l),c⟩]
def lT (a n : Nat) : List V:=[.s (.p (.g a) 0), .s .u, .s (.p (.l 0) 0), .s (.p (.l 1) 0), .s (.p (.l 2) 0), .s .u, .s .u, .s .u, .s .u,
 .s (.fn 61 [(.g n,0),(.g (n + 1),0)]), .s .u, .s .u, .s .u, .s .u, .s .u, .s .u, .s .u, .s .u, .s .u]
noncomputable def TLi : Tab:=addT 34 firstG (addT 33 behG (noT))
theorem TLi_snd : TLi.Snd Try.prog:=addT_snd ok34 first_snd (addT_snd ok33 beh_snd ((noT_snd _)))
section
variable {asg body : DC} {a n : Nat} {s : Slot} {l : List Int} {c : Nat} {x : Int} {h : List Blk}
theorem lis_r0 (hab : findRf df12.body = some (asg,body)) : RM (rndOf TLi.Γ [10,11] asg body) [.s (.i .i64 0), .agg slotZ.cl] (lT a n,lLS .ns (.i .i64 0) l c) h fun p u' h' => p = some .ret ∧ u' = (lT a n,lLS .ns (.i .i64 110) l c) ∧ h' = h:=by
 intro K' hK
 cases hab
 refine rnd_rule2 (Tab.ok_Γ _) 60 0 ?_
 cases l with
 | nil =>
  simp (maxSteps:=9999999) only [EV0,zx,zw,zv,zu,zq,zp,zj,zk,zg,leT,zZ,rvC,zY,zX,zW,zV,↓zU,↓zQ,reduceCtorEq,yz,yy,yY,yx,yw,yv,yu,yq,yp,yX,yj,yk,yg,yW,yV,yU,yZ,yQ,xz,TLi,lT,lLS,bindT,slotZ,capZ,Slot.cl,Cap.cl,put,fillP,sub,EVt]
  refine run_sound (Tab.ok_Γ _) 60 _ _ _ _ ?_
  simp (maxSteps:=9999999) only [EV0,zx,zw,zv,zu,zq,zp,zj,zk,zg,leT,zZ,rvC,zY,zX,zW,zV,↓zU,↓zQ,reduceCtorEq,yz,yy,yY,yx,yw,yv,yu,yq,yp,yX,yj,yk,yg,yW,yV,yU,yZ,yQ,xz,TLi,put,fillP,sub,EVt]
  exact rndE_mk ⟨lT a n,lLS .ns (.i .i64 110) [] c,h⟩ (Wk.keep 3 rfl rfl (by simp (maxSteps:=9999999) only [EV0,zx,zw,zv,zu,zq,zp,zj,zk,zg,leT,zZ,rvC,zY,zX,zW,zV,↓zU,↓zQ,reduceCtorEq,yz,yy,yY,yx,yw,yv,yu,yq,yp,yX,yj,yk,yg,yW,yV,yU,yZ,yQ,xz,lT]) (by rfl) (by rfl)) rfl (hK _ _ _ ⟨rfl,rfl,rfl⟩)
 | cons y l =>
  have hb:=(intsB_is (y :: l)).be
  simp (maxSteps:=9999999) only [EV0,zx,zw,zv,zu,zq,zp,zj,zk,zg,leT,zZ,rvC,zY,zX,zW,zV,↓zU,↓zQ,reduceCtorEq,yz,yy,yY,yx,yw,yv,yu,yq,yp,yX,yj,yk,yg,yW,yV,yU,yZ,yQ,xz,TLi,lT,lLS,bindT,slotZ,capZ,Slot.cl,Cap.cl,put,fillP,sub,EVt]
  refine run_sound (Tab.ok_Γ _) 60 _ _ _ _ ?_
  simp (maxSteps:=9999999) only [EV0,zx,zw,zv,zu,zq,zp,zj,zk,zg,leT,zZ,rvC,zY,zX,zW,zV,↓zU,↓zQ,reduceCtorEq,yz,yy,yY,yx,yw,yv,yu,yq,yp,yX,yj,yk,yg,yW,yV,yU,yZ,yQ,xz,TLi,put,fillP,sub,EVt]
  exact ⟨⟨lT a n,lLS .ns (.i .i64 110) (y :: l) c,h⟩,Wk.keep 4 rfl rfl (by simp (maxSteps:=9999999) only [EV0,zx,zw,zv,zu,zq,zp,zj,zk,zg,leT,zZ,rvC,zY,zX,zW,zV,↓zU,↓zQ,reduceCtorEq,yz,yy,yY,yx,yw,yv,yu,yq,yp,yX,yj,yk,yg,yW,yV,yU,yZ,yQ,xz,lT]) (by rfl) (by simp [lLS,S.below,R.below,hb]),rfl,hK _ _ _ ⟨rfl,rfl,rfl⟩⟩
theorem lis_r2 (hab : findRf df12.body = some (asg,body)) (hc : clean h.length h = true) (h0 : x ≠ 0) (hl : l.length ≤ 1000000000000) (han : a < h.length ∧ n < h.length ∧ n + 1 < h.length) : RM (rndOf TLi.Γ [10,11] asg body) [.s (.i .i64 x), .agg s.cl] (lT a n,lLS .ns (.i .i64 0) l c) h fun p u' h' => p = none ∧ (∃ c',l.length + 1 ≤ c' ∧ u' = (lT a n,lLS .ns (.i .i64 0) (l ++ [x]) c')) ∧ h' = h:=by
 intro K' hK
 cases hab
 refine rnd_rule2 (Tab.ok_Γ _) 60 0 ?_
 obtain ⟨⟨d0,d1,d2,d3,d4,d5,d6,d7,d8,d9,d10⟩,p1,q1,r1⟩:=s
 have h0' : (x == 0) = false:=by simpa using h0
 have hnq : h.length ≤ h.length:=Nat.le_refl _
 have hcq:=hc
 cases l with
 | nil =>
  simp (maxSteps:=9999999) only [EV0,zx,zw,zv,zu,zq,zp,zj,zk,zg,leT,zZ,rvC,zY,zX,zW,zV,↓zU,↓zQ,reduceCtorEq,yz,yy,yY,yx,yw,yv,yu,yq,yp,yX,yj,yk,yg,yW,yV,yU,yZ,yQ,xz,TLi,lT,lLS,bindT,Slot.cl,Cap.cl,h0,h0',put,fillP,sub,EVt]
  refine run_sound (Tab.ok_Γ _) 60 _ _ _ _ ?_
  simp (maxSteps:=9999999) only [EV0,zx,zw,zv,zu,zq,zp,zj,zk,zg,leT,zZ,rvC,zY,zX,zW,zV,↓zU,↓zQ,reduceCtorEq,yz,yy,yY,yx,yw,yv,yu,yq,yp,yX,yj,yk,yg,yW,yV,yU,yZ,yQ,xz,TLi,h0,h0',put,fillP,sub,EVt]
  intro c1 hle1
  have hw1 : (1 : Nat) ≤ 1:=Nat.le_refl _
  refine rndE_mk ⟨lT a n,lLS .ns (.i .i64 0) [x] c1,h⟩ ?_ rfl (hK _ _ _ ⟨rfl,⟨c1,by simpa using hle1,rfl⟩,rfl⟩)
  simp only [lT,lLS,intsB,List.map_cons,List.map_nil,List.length_nil,Nat.zero_add,Nat.mul_one]
  refine Wk.sel [0,1,2,4] (by decide) hnq ?_ ?_ ?_ ?_ hcq (clean_pick hcq _)
  ·simp (maxSteps:=9999999) only [EV0,zx,zw,zv,zu,zq,zp,zj,zk,zg,leT,zZ,rvC,zY,zX,zW,zV,↓zU,↓zQ,reduceCtorEq,yz,yy,yY,yx,yw,yv,yu,yq,yp,yX,yj,yk,yg,yW,yV,yU,yZ,yQ,xz,List.nil_append,Blk.ren,V.ren,C.ren,S_ren,wc_ren,R.pick_g,R.pick_0,R.pick_s,List.map_append,wc_cons,wc_snoc,wc_nil,Nat.mul_one,han]
  ·simp (maxSteps:=9999999) only [EV0,zx,zw,zv,zu,zq,zp,zj,zk,zg,leT,zZ,rvC,zY,zX,zW,zV,↓zU,↓zQ,reduceCtorEq,yz,yy,yY,yx,yw,yv,yu,yq,yp,yX,yj,yk,yg,yW,yV,yU,yZ,yQ,xz,List.nil_append,Blk.ren,V.ren,C.ren,S_ren,wc_ren,R.pick_g,R.pick_0,R.pick_s,Nat.mul_one,han]
  ·simp (maxSteps:=9999999) only [EV0,zx,zw,zv,zu,zq,zp,zj,zk,zg,leT,zZ,rvC,zY,zX,zW,zV,↓zU,↓zQ,reduceCtorEq,yz,yy,yY,yx,yw,yv,yu,yq,yp,yX,yj,yk,yg,yW,yV,yU,yZ,yQ,xz,List.nil_append,app_len,nlt0,nltn,reduceLT,Nat.le_add_right,Nat.mul_one,han]
  ·simp (maxSteps:=9999999) only [EV0,zx,zw,zv,zu,zq,zp,zj,zk,zg,leT,zZ,rvC,zY,zX,zW,zV,↓zU,↓zQ,reduceCtorEq,yz,yy,yY,yx,yw,yv,yu,yq,yp,yX,yj,yk,yg,yW,yV,yU,yZ,yQ,xz,List.nil_append,app_len,nlt0,nltn,reduceLT,Nat.le_add_right,vals_cons,vals_nil,wc_val,wc_vals,Nat.mul_one,han]
 | cons y l =>
  obtain ⟨B,hB⟩ : ∃ B,intsB (y :: l) = B:=⟨_,rfl⟩
  obtain ⟨b1,b2,b3,b4,b5,b6⟩:=intsB_is (y :: l)
  rw [hB] at b1 b2 b3 b4 b5 b6
  simp (maxSteps:=9999999) only [EV0,zx,zw,zv,zu,zq,zp,zj,zk,zg,leT,zZ,rvC,zY,zX,zW,zV,↓zU,↓zQ,reduceCtorEq,yz,yy,yY,yx,yw,yv,yu,yq,yp,yX,yj,yk,yg,yW,yV,yU,yZ,yQ,xz,TLi,lT,lLS,hB,bindT,Slot.cl,Cap.cl,h0,h0',put,fillP,sub,EVt]
  refine run_sound (Tab.ok_Γ _) 60 _ _ _ _ ?_
  simp (maxSteps:=9999999) only [EV0,zx,zw,zv,zu,zq,zp,zj,zk,zg,leT,zZ,rvC,zY,zX,zW,zV,↓zU,↓zQ,reduceCtorEq,yz,yy,yY,yx,yw,yv,yu,yq,yp,yX,yj,yk,yg,yW,yV,yU,yZ,yQ,xz,TLi,h0,h0',b1,b2,b3,b4,put,fillP,sub,EVt]
  refine ⟨by simp only [List.length_cons] at hl; omega,fun c1 hle1 => ?_⟩
  refine rndE_mk ⟨lT a n,lLS .ns (.i .i64 0) (y :: l ++ [x]) c1,h⟩ ?_ rfl (hK _ _ _ ⟨rfl,⟨c1,by simp only [List.length_cons] at hle1 ⊢; omega,rfl⟩,rfl⟩)
  have hB2 : intsB (y :: (l ++ [x])) = B ++ [.i .i64 x]:=by rw [← hB,intsB_app]; rfl
  have hl2 : (l ++ [x]).length + 1 = l.length + 1 + 1:=by simp
  simp only [lT,lLS,List.cons_append,hB2,hl2,Nat.mul_one]
  have hb3 : ∀ a b,B.all (S.val a b) = true:=fun u v => by have:=b3 u v; simpa only [vals] using this
  refine Wk.sel [0,1,2,5] (by decide) hnq ?_ ?_ ?_ ?_ hcq (clean_pick hcq _)
  ·simp (maxSteps:=9999999) only [EV0,zx,zw,zv,zu,zq,zp,zj,zk,zg,leT,zZ,rvC,zY,zX,zW,zV,↓zU,↓zQ,reduceCtorEq,yz,yy,yY,yx,yw,yv,yu,yq,yp,yX,yj,yk,yg,yW,yV,yU,yZ,yQ,xz,List.nil_append,Blk.ren,V.ren,C.ren,S_ren,wc_ren,R.pick_g,R.pick_0,R.pick_s,List.map_append,wc_cons,wc_snoc,wc_nil,Nat.mul_one,han,hb3,b5,List.map_append,List.map_cons,List.map_nil,vals,List.all_append]
  ·simp (maxSteps:=9999999) only [EV0,zx,zw,zv,zu,zq,zp,zj,zk,zg,leT,zZ,rvC,zY,zX,zW,zV,↓zU,↓zQ,reduceCtorEq,yz,yy,yY,yx,yw,yv,yu,yq,yp,yX,yj,yk,yg,yW,yV,yU,yZ,yQ,xz,List.nil_append,Blk.ren,V.ren,C.ren,S_ren,wc_ren,R.pick_g,R.pick_0,R.pick_s,Nat.mul_one,han,hb3,b5,List.map_append,List.map_cons,List.map_nil,vals,List.all_append]
  ·simp (maxSteps:=9999999) only [EV0,zx,zw,zv,zu,zq,zp,zj,zk,zg,leT,zZ,rvC,zY,zX,zW,zV,↓zU,↓zQ,reduceCtorEq,yz,yy,yY,yx,yw,yv,yu,yq,yp,yX,yj,yk,yg,yW,yV,yU,yZ,yQ,xz,List.nil_append,app_len,nlt0,nltn,reduceLT,Nat.le_add_right,Nat.mul_one,han,hb3,b5,List.map_append,List.map_cons,List.map_nil,vals,List.all_append]
  ·simp (maxSteps:=9999999) only [EV0,zx,zw,zv,zu,zq,zp,zj,zk,zg,leT,zZ,rvC,zY,zX,zW,zV,↓zU,↓zQ,reduceCtorEq,yz,yy,yY,yx,yw,yv,yu,yq,yp,yX,yj,yk,yg,yW,yV,yU,yZ,yQ,xz,List.nil_append,app_len,nlt0,nltn,reduceLT,Nat.le_add_right,vals_cons,vals_nil,wc_val,wc_vals,Nat.mul_one,han,hb3,b5,List.map_append,List.map_cons,List.map_nil,vals,List.all_append]
end
theorem gV_dep (m : M) (x : Int) : ¬ (m.gV x).depth ≤ -1:=by
 have h3:=(slotRB_iff (m.gV_u x)).2.2.2
 omega
theorem lis_bw {asg body : DC} {a b : Nat} {h : List Blk} {m0 : M} {K : Option Ex → U → List Blk → Prop} (hab : findRf df12.body = some (asg,body)) (H : IsMem h a b m0) (hc : clean h.length h = true) (hb : b < h.length) :
  ∀ (k : Nat) (x : Int) (m : M) (l : List Int) (c : Nat),l.length + k ≤ 1000000000000 → l.length ≤ c →
   (∀ l' m2 p c' x',dsW (-1) k x m l = (some l',m2) → l'.length ≤ c' → (p = none ∨ p = some (.ext 0)) → K p (lT a h.length,lLS .ns (.i .i64 0) l' c') (bhH h a b m2 x')) →
   (∀ m2 l' c' x',dsW (-1) k x m l = (none,m2) → K (some .ret) (lT a h.length,lLS .ns (.i .i64 110) l' c') (bhH h a b m2 x')) →
   bw (bhH h a b) (rndOf TLi.Γ [10,11] asg body) K k x m (lT a h.length,lLS .ns (.i .i64 0) l c)
 | 0,x,m,l,c,_,hlc,k1,k2 => by
  simp only [dsW,bw] at k1 k2 ⊢
  by_cases h0 : x = 0
  ·rw [if_pos h0] at k1 ⊢
   exact k1 _ _ _ _ _ rfl hlc (.inl rfl)
  ·rw [if_neg h0] at k2 ⊢
   intro K' hK
   refine lis_r0 hab _ fun p u' h' hh => ?_
   obtain ⟨rfl,rfl,rfl⟩:=hh
   exact hK _ _ _ (k2 _ _ _ _ rfl)
 | k + 1,x,m,l,c,hl,hlc,k1,k2 => by
  simp only [dsW,bw] at k1 k2 ⊢
  by_cases h0 : x = 0
  ·rw [if_pos h0] at k1 ⊢
   exact k1 _ _ _ _ _ rfl hlc (.inl rfl)
  ·rw [if_neg h0] at k1 k2 ⊢
   by_cases hf : m.fE x = 0
   ·rw [if_pos hf] at k1 k2 ⊢
    rw [if_neg (gV_dep m x)] at k1 k2
    intro K' hK
    have hln:=bhH_len (h:=h) (a:=a) (b:=b) (m.gX x) x
    have ha:=H.lta
    refine lis_r2 hab (bhH_clean H hc hb _ _) h0 (by omega) ⟨by omega,by omega,by omega⟩ _ fun p u' h' hh => ?_
    obtain ⟨rfl,⟨c',hc',rfl⟩,rfl⟩:=hh
    refine hK _ _ _ ⟨rfl, ?_⟩
    exact lis_bw hab H hc hb k _ _ _ _ (by simp only [List.length_append,List.length_cons,List.length_nil]; omega) (by simp only [List.length_append,List.length_cons,List.length_nil]; omega) k1 k2
   ·rw [if_neg hf] at k1 k2 ⊢
    intro K' hK
    refine lis_r0 hab _ fun p u' h' hh => ?_
    obtain ⟨rfl,rfl,rfl⟩:=hh
    exact hK _ _ _ (k2 _ _ _ _ rfl)
theorem lis_snd : Snd Try.prog 12 (FSpec.of lisG):=(fwp_sound (Tab.snd_Γ TLi_snd) mixed Try.func12 dc12).weaken fun args h K hc hS => by
 refine fwp_runW (Tab.ok_Γ _) 200 ?_
 obtain ⟨a,b,m,rest,rfl,H,hS1⟩:=memF_spec (f:=lisM) hS
 clear hS
 have hS:=hS1
 clear hS1
 unfold lisM at hS
 split at hS
 ·simp (maxSteps:=9999999) only [EV0,zx,zw,zv,zu,zq,zp,zj,zk,zg,leT,zZ,rvC,zY,zX,zW,zV,↓zU,↓zQ,reduceCtorEq,yz,yy,yY,yx,yw,yv,yu,yq,yp,yX,yj,yk,yg,yW,yV,yU,yZ,yQ,xz,df12,TLi,firstG,firstM,memF_eq H,memF_set H,behG,setM_len,put,fillP,sub,EVt]
  refine more_wk (t':=lT a h.length) (ls':=lLS .ns (.i .i64 0) [] 0) (h':=bhH h a b m.fstX m.fst) (Wk.same (by rfl) (by rfl) (by simp (maxSteps:=9999999) only [EV0,zx,zw,zv,zu,zq,zp,zj,zk,zg,leT,zZ,rvC,zY,zX,zW,zV,↓zU,↓zQ,reduceCtorEq,yz,yy,yY,yx,yw,yv,yu,yq,yp,yX,yj,yk,yg,yW,yV,yU,yZ,yQ,xz,lT])) ?_
  refine rf_rule (cs:=[(.g h.length,0),(.g (h.length + 1),0)]) rfl rfl rfl rfl ?_
  refine behind1_is (m:=m.fstX) H ?_
  have hl0 : m.fstX.w.length / 4 = m.w.length / 4:=by first | rfl | (unfold M.fstX; split <;> rfl)
  rw [hl0]
  have hml:=m.l
  obtain ⟨N,hN⟩ : ∃ N,m.w.length / 4 = N:=⟨_,rfl⟩
  rw [hN] at hS ⊢
  have key : ∀ l' m2 c' x',dsW (-1) N m.fst m.fstX [] = (some l',m2) → l'.length ≤ c' → swp TLi.Γ h.length (fin h.length [.c 2 none, .c 3 none] K) [.c (.seq (.reg [⟨some 18, .ld (.t 4) none,none⟩,⟨none, .st (.t 2) (.t 18) 1,none⟩,⟨none, .st (.t 3) (.k (.s (.i .i64 0))) 1,none⟩]) .ret)] ⟨lT a h.length,lLS .ns (.i .i64 0) l' c',bhH h a b m2 x'⟩:=fun l' m2 c' x' e hlc => by
   rw [e] at hS
   refine run_sound (Tab.ok_Γ _) 60 _ _ _ _ ?_
   have hcb:=bhH_clean H hc H.ltb m2 x'
   have hcm : clean h.length (setM h a b m2) = true:=setM_clean H hc H.ltb
   have hnb : h.length ≤ (bhH h a b m2 x').length:=by rw [bhH_len]; omega
   have hlm : (setM h a b m2).length = h.length:=setM_len
   cases l' with
   | nil =>
    simp only [dscR,spec_ok] at hS
    simp (maxSteps:=9999999) only [EV0,zx,zw,zv,zu,zq,zp,zj,zk,zg,leT,zZ,rvC,zY,zX,zW,zV,↓zU,↓zQ,reduceCtorEq,yz,yy,yY,yx,yw,yv,yu,yq,yp,yX,yj,yk,yg,yW,yV,yU,yZ,yQ,xz,lT,lLS,put,fillP,sub,EVt]
    refine fin_of (v:=.tup [.s .ns, .s (.i .i64 0)]) (ls:=[]) (h:=setM h a b m2) rfl (.trans (Wk.keep 0 (ls:=[]) (t':=[.tup [.s .ns, .s (.i .i64 0)]]) rfl rfl (by simp (maxSteps:=9999999) only [EV0,zx,zw,zv,zu,zq,zp,zj,zk,zg,leT,zZ,rvC,zY,zX,zW,zV,↓zU,↓zQ,reduceCtorEq,yz,yy,yY,yx,yw,yv,yu,yq,yp,yX,yj,yk,yg,yW,yV,yU,yZ,yQ,xz]) (by rfl) (by rfl)) (Wk.keepH h.length (by unfold bhH; rw [← hlm,List.take_left']; rfl) (Nat.le_of_eq hlm.symm) (by simp (maxSteps:=9999999) only [EV0,zx,zw,zv,zu,zq,zp,zj,zk,zg,leT,zZ,rvC,zY,zX,zW,zV,↓zU,↓zQ,reduceCtorEq,yz,yy,yY,yx,yw,yv,yu,yq,yp,yX,yj,yk,yg,yW,yV,yU,yZ,yQ,xz]) (by rfl) (by rw [hlm]; exact hcm) (by rfl))) ?_
    simp (maxSteps:=9999999) only [EV0,zx,zw,zv,zu,zq,zp,zj,zk,zg,leT,zZ,rvC,zY,zX,zW,zV,↓zU,↓zQ,reduceCtorEq,yz,yy,yY,yx,yw,yv,yu,yq,yp,yX,yj,yk,yg,yW,yV,yU,yZ,yQ,xz]
    exact hS
   | cons y l' =>
    simp only [dscR,spec_all] at hS
    obtain ⟨B,hB⟩ : ∃ B,intsB (y :: l') = B:=⟨_,rfl⟩
    obtain ⟨b1,b2,b3,b4,b5,b6⟩:=intsB_is (y :: l')
    rw [hB] at b1 b2 b3 b4 b5 b6 hS
    have hb3 : ∀ a b,B.all (S.val a b) = true:=fun u v => by have:=b3 u v; simpa only [vals] using this
    have hcq:=hcb
    have hnq:=hnb
    simp (maxSteps:=9999999) only [EV0,zx,zw,zv,zu,zq,zp,zj,zk,zg,leT,zZ,rvC,zY,zX,zW,zV,↓zU,↓zQ,reduceCtorEq,yz,yy,yY,yx,yw,yv,yu,yq,yp,yX,yj,yk,yg,yW,yV,yU,yZ,yQ,xz,lT,lLS,hB,put,fillP,sub,EVt]
    refine fin_of (v:=.tup [.s (.sl (.l 0) 0 (l'.length + 1) c'), .s (.i .i64 0)]) (ls:=[⟨.rw,B,c'⟩]) (h:=setM h a b m2) rfl (.trans (s1:=⟨[.tup [.s (.sl (.l 0) 0 (l'.length + 1) c'), .s (.i .i64 0)]],[⟨.rw,B,c'⟩],bhH h a b m2 x'⟩) ?_ (Wk.keepH h.length (by unfold bhH; rw [← hlm,List.take_left']; rfl) (Nat.le_of_eq hlm.symm) (by simp (maxSteps:=9999999) only [EV0,zx,zw,zv,zu,zq,zp,zj,zk,zg,leT,zZ,rvC,zY,zX,zW,zV,↓zU,↓zQ,reduceCtorEq,yz,yy,yY,yx,yw,yv,yu,yq,yp,yX,yj,yk,yg,yW,yV,yU,yZ,yQ,xz]) (by rfl) (by rw [hlm]; exact hcm) (by simp (maxSteps:=9999999) only [EV0,zx,zw,zv,zu,zq,zp,zj,zk,zg,leT,zZ,rvC,zY,zX,zW,zV,↓zU,↓zQ,reduceCtorEq,yz,yy,yY,yx,yw,yv,yu,yq,yp,yX,yj,yk,yg,yW,yV,yU,yZ,yQ,xz,hb3]))) ?_
    ·refine Wk.sel [3] (by decide) hnq ?_ ?_ ?_ ?_ hcq (clean_pick hcq _)
     ·simp (maxSteps:=9999999) only [EV0,zx,zw,zv,zu,zq,zp,zj,zk,zg,leT,zZ,rvC,zY,zX,zW,zV,↓zU,↓zQ,reduceCtorEq,yz,yy,yY,yx,yw,yv,yu,yq,yp,yX,yj,yk,yg,yW,yV,yU,yZ,yQ,xz,List.nil_append,Blk.ren,V.ren,C.ren,S_ren,wc_ren,R.pick_g,R.pick_0,R.pick_s,List.map_append,wc_cons,wc_snoc,wc_nil,hb3,b5,result]
     ·simp (maxSteps:=9999999) only [EV0,zx,zw,zv,zu,zq,zp,zj,zk,zg,leT,zZ,rvC,zY,zX,zW,zV,↓zU,↓zQ,reduceCtorEq,yz,yy,yY,yx,yw,yv,yu,yq,yp,yX,yj,yk,yg,yW,yV,yU,yZ,yQ,xz,List.nil_append,Blk.ren,V.ren,C.ren,S_ren,wc_ren,R.pick_g,R.pick_0,R.pick_s,hb3,b5,result]
     ·simp (maxSteps:=9999999) only [EV0,zx,zw,zv,zu,zq,zp,zj,zk,zg,leT,zZ,rvC,zY,zX,zW,zV,↓zU,↓zQ,reduceCtorEq,yz,yy,yY,yx,yw,yv,yu,yq,yp,yX,yj,yk,yg,yW,yV,yU,yZ,yQ,xz,List.nil_append,app_len,nlt0,nltn,reduceLT,Nat.le_add_right,hb3,b5,result]
     ·simp (maxSteps:=9999999) only [EV0,zx,zw,zv,zu,zq,zp,zj,zk,zg,leT,zZ,rvC,zY,zX,zW,zV,↓zU,↓zQ,reduceCtorEq,yz,yy,yY,yx,yw,yv,yu,yq,yp,yX,yj,yk,yg,yW,yV,yU,yZ,yQ,xz,List.nil_append,app_len,nlt0,nltn,reduceLT,Nat.le_add_right,vals_cons,vals_nil,wc_val,wc_vals,hb3,b5,result]
    ·simp (maxSteps:=9999999) only [EV0,zx,zw,zv,zu,zq,zp,zj,zk,zg,leT,zZ,rvC,zY,zX,zW,zV,↓zU,↓zQ,reduceCtorEq,yz,yy,yY,yx,yw,yv,yu,yq,yp,yX,yj,yk,yg,yW,yV,yU,yZ,yQ,xz]
     refine ⟨[0],by simp,rfl, ?_⟩
     simp only [getAll,List.getElem?_cons_zero]
     refine ⟨?_, ?_⟩
     ·have hk:=intsB_kept [0] (y :: l')
      rw [hB] at hk
      simp only [List.all_cons,List.all_nil,hk,decide_true,Bool.and_true]
     ·refine cast ?_ (hS c' (by simpa using hlc))
      simp only [V.ren,C.ren,S.ren,R.prom,List.map_cons,List.map_nil,Blk.ren,b5,spec_ok,hlm,List.idxOf,List.findIdx,List.findIdx.go,beq_self_eq_true,cond_true,Nat.add_zero,setM_len]
  refine lis_bw rfl H hc H.ltb _ _ _ _ 0 (by simp only [List.length_nil]; omega) (Nat.le_refl _) ?_ ?_
  ·intro l' m2 p c' x' e hlc hp
   rcases hp with rfl | rfl
   ·simp only [Option.getD_none]
    unfold swp
    exact key _ _ _ _ e hlc
   ·simp only [Option.getD_some,swx,if_true]
    exact key _ _ _ _ e hlc
  ·intro m2 l' c' x' e
   simp only [Option.getD_some]
   rw [e] at hS
   simp only [dscR,spec_ok] at hS
   have hcm : clean h.length (setM h a b m2) = true:=setM_clean H hc H.ltb
   have hlm : (setM h a b m2).length = h.length:=setM_len
   cases l'
   all_goals
    refine fin_of (v:=.tup [.s .ns, .s (.i .i64 110)]) (ls:=[]) (h:=setM h a b m2) rfl (.trans (Wk.keep 0 (ls:=[]) (t':=[.tup [.s .ns, .s (.i .i64 110)]]) rfl rfl (by simp (maxSteps:=9999999) only [EV0,zx,zw,zv,zu,zq,zp,zj,zk,zg,leT,zZ,rvC,zY,zX,zW,zV,↓zU,↓zQ,reduceCtorEq,yz,yy,yY,yx,yw,yv,yu,yq,yp,yX,yj,yk,yg,yW,yV,yU,yZ,yQ,xz]) (by rfl) (by rfl)) (Wk.keepH h.length (by unfold bhH; rw [← hlm,List.take_left']; rfl) (Nat.le_of_eq hlm.symm) (by simp (maxSteps:=9999999) only [EV0,zx,zw,zv,zu,zq,zp,zj,zk,zg,leT,zZ,rvC,zY,zX,zW,zV,↓zU,↓zQ,reduceCtorEq,yz,yy,yY,yx,yw,yv,yu,yq,yp,yX,yj,yk,yg,yW,yV,yU,yZ,yQ,xz]) (by rfl) (by rw [hlm]; exact hcm) (by rfl))) ?_
    simp (maxSteps:=9999999) only [EV0,zx,zw,zv,zu,zq,zp,zj,zk,zg,leT,zZ,rvC,zY,zX,zW,zV,↓zU,↓zQ,reduceCtorEq,yz,yy,yY,yx,yw,yv,yu,yq,yp,yX,yj,yk,yg,yW,yV,yU,yZ,yQ,xz]
    exact hS
 ·exact hS.elim
end Go.Proofs.Ytcdfofeolgbnbaa

