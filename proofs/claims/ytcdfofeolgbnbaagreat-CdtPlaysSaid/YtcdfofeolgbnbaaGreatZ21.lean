/- Package cdt: full,listed,turn,join,whatever words lie there. -/
import Derived.Test.YtcdfofeolgbnbaaGreatZ13
import Derived.Test.YtcdfofeolgbnbaaGreatZ20
/- Package heap: the kernel's words. -/
namespace Go.Proofs.YtcdfofeolgbnbaaGreat
open Go.D
open Nat (reduceAdd reducePow reduceMul reduceSub reduceLeDiff reduceLT reduceEqDiff)
open Int (reduceNeg reduceLE reduceEq reduceNe reduceToNat)
open Go.D renaming istep → zy,pickR → zx,bin1R → zw,un1R → zv,eqS → zu,eq1 → zq,cmpS → zp,cmp1 → zj,isNil → zk,shows → zg,result → zZ,q_cond_t → zV,q_cond_f → zU
open List renaming set → zY,replicate → zX
open Option renaming map → zW
open Nat renaming reduceAdd → zQ,reducePow → yz,reduceMul → yy,reduceSub → yx,reduceLeDiff → yw,reduceLT → yv,reduceEqDiff → yu
open Int renaming reduceNeg → yq,reduceLE → yj,reduceEq → yk,reduceNe → yg,reduceToNat → yZ,reducePow → yY,reduceLT → yX,reduceAdd → yW,reduceSub → yV,reduceMul → yU,reduceBEq → yQ,reduceBNe → xz
set_option linter.all false
set_option maxRecDepth 100000
set_option maxHeartbeats 4000000

noncomputable def keptF (f : Int → Int → Int → Nat → M → (M → List Blk) → List V → Res) : List V → List Blk → Res
 | .agg [.i .i64 x, .i .i64 y, .i .i64 z] :: rest,h => memF (f x y z) rest h
 | _,_ => .bad
theorem keptF_spec {f : Int → Int → Int → Nat → M → (M → List Blk) → List V → Res} {args : List V} {h : List Blk} {K : V → List Blk → Prop} (hS : (keptF f args h).spec K) :
  ∃ x y z a b m rest,args = .agg [.i .i64 x, .i .i64 y, .i .i64 z] :: .s (.p (.g a) 0) :: rest ∧ IsMem h a b m ∧ (f x y z b m (setM h a b) rest).spec K:=by
 unfold keptF at hS
 split at hS
 ·obtain ⟨a,b,m,rest,rfl,H,hS⟩:=memF_spec hS
  exact ⟨_,_,_,a,b,m,rest,rfl,H,hS⟩
 ·exact hS.elim

def keptB (words least : Int) (m : M) (n : Int) : Bool:=decide (least ≤ n) && (n.tmod words == 0 && decide (n ≤ IntKind.i64.wrap (m.w.length - words)))
def mayM (at_ words least : Int) (b : Nat) (m : M) (st : M → List Blk) : List V → Res
 | [.s (.i .i64 n)] => .ob (words ≠ 0) (.ok (.s (.b (keptB words least m n))) [] (st m))
 | _ => .bad
noncomputable def mayG:=keptF mayM
noncomputable def TMw : Tab:=addT 150 wordsG noT
theorem TMw_snd : TMw.Snd Tryz.prog:=addT_snd ok150 mwords_snd (noT_snd _)
theorem may_snd : Snd Tryz.prog 188 (FSpec.of mayG):=snd_run TMw_snd mixed Tryz.func188 dc188 100 fun args h K hc hS => by
 obtain ⟨x,y,z,a,b,m,rest,rfl,H,hS1⟩:=keptF_spec hS
 clear hS
 unfold mayM at hS1
 split at hS1
 ·rename_i n
  simp only [spec_ok,spec_ob,setM_self H,keptB] at hS1
  obtain ⟨hy,hS⟩:=hS1
  have hy : ¬ y = 0:=hy
  by_cases c1 : z ≤ n
  ·cases c2 : n.tmod y == 0
   ·simp (maxSteps:=9999999) only [EV0,zy,zx,zw,zv,zu,zq,zp,zj,zk,leT,zg,rvC,zZ,zY,zX,zW,↓zV,↓zU,reduceCtorEq,zQ,yz,yY,yy,yx,yw,yv,yu,yq,yX,yj,yk,yg,yW,yV,yU,yZ,yQ,xz,df188,TMw,wordsG,memF_eq H,wordsM,setM_self H,hy,c1,c2,sub,EVt]
    simpa [c1,c2] using hS
   ·have c3 : n.tmod y = 0:=by simpa using c2
    simp (maxSteps:=9999999) only [EV0,zy,zx,zw,zv,zu,zq,zp,zj,zk,leT,zg,rvC,zZ,zY,zX,zW,↓zV,↓zU,reduceCtorEq,zQ,yz,yY,yy,yx,yw,yv,yu,yq,yX,yj,yk,yg,yW,yV,yU,yZ,yQ,xz,df188,TMw,wordsG,memF_eq H,wordsM,setM_self H,hy,c1,c2,c3,sub,EVt]
    simpa [c1,c3] using hS
  ·simp (maxSteps:=9999999) only [EV0,zy,zx,zw,zv,zu,zq,zp,zj,zk,leT,zg,rvC,zZ,zY,zX,zW,↓zV,↓zU,reduceCtorEq,zQ,yz,yY,yy,yx,yw,yv,yu,yq,yX,yj,yk,yg,yW,yV,yU,yZ,yQ,xz,df188,TMw,wordsG,memF_eq H,wordsM,setM_self H,hy,c1,sub,EVt]
   simpa [c1] using hS
 ·exact hS1.elim

def setM_ (at_ words least : Int) (b : Nat) (m : M) (st : M → List Blk) : List V → Res
 | [.s (.i .i64 n)] => .ob (words ≠ 0) (.br (n == 0 || keptB words least m n)
   (.br (m.has at_ 1) (.ok (.s (.i .i64 0)) [] (st ((m.put at_.toNat (IntKind.u64.wrap n)).tick 1))) (.ok (.s (.i .i64 20)) [] (st m)))
   (.ok (.s (.i .i64 20)) [] (st m)))
 | _ => .bad
noncomputable def setG_:=keptF setM_
noncomputable def TKs : Tab:=addT 188 mayG (addT 141 writeG (addT 86 readG noT))
theorem TKs_snd : TKs.Snd Tryz.prog:=addT_snd ok188 may_snd (addT_snd ok141 mwrite_snd (addT_snd ok86 mread_snd (noT_snd _)))
theorem wrapu_u (n : Int) : u64 (IntKind.u64.wrap n):=by rw [IntKind.wrap_u64]; simp only [u64]; omega
theorem kset_snd : Snd Tryz.prog 143 (FSpec.of setG_):=snd_run TKs_snd mixed Tryz.func143 dc143 100 fun args h K hc hS => by
 obtain ⟨x,y,z,a,b,m,rest,rfl,H,hS1⟩:=keptF_spec hS
 clear hS
 unfold setM_ at hS1
 split at hS1
 ·rename_i n
  simp only [spec_ok,spec_ob,spec_br,setM_self H] at hS1
  obtain ⟨hy,hS⟩:=hS1
  have hy : ¬ y = 0:=hy
  have hu:=wrapu_u n
  by_cases c1 : n = 0
  ·cases hh : m.has x 1
   ·have hS:=(hS.1 (by simp [c1])).2 hh
    simp (maxSteps:=9999999) only [EV0,zy,zx,zw,zv,zu,zq,zp,zj,zk,leT,zg,rvC,zZ,zY,zX,zW,↓zV,↓zU,reduceCtorEq,zQ,yz,yY,yy,yx,yw,yv,yu,yq,yX,yj,yk,yg,yW,yV,yU,yZ,yQ,xz,df143,TKs,mayG,keptF,writeG,memF_eq H,writeM,mayM,setM_self H,hy,c1,hh,hu,sub,EVt,wrapu_u]
    exact hS
   ·have hS:=(hS.1 (by simp [c1])).1 hh
    simp (maxSteps:=9999999) only [EV0,zy,zx,zw,zv,zu,zq,zp,zj,zk,leT,zg,rvC,zZ,zY,zX,zW,↓zV,↓zU,reduceCtorEq,zQ,yz,yY,yy,yx,yw,yv,yu,yq,yX,yj,yk,yg,yW,yV,yU,yZ,yQ,xz,df143,TKs,mayG,keptF,writeG,memF_eq H,writeM,mayM,setM_self H,hy,c1,hh,hu,sub,EVt,wrapu_u]
    simpa [c1] using hS
  ·cases c2 : keptB y z m n
   ·have hS:=hS.2 (by simp [c1,c2])
    simp (maxSteps:=9999999) only [EV0,zy,zx,zw,zv,zu,zq,zp,zj,zk,leT,zg,rvC,zZ,zY,zX,zW,↓zV,↓zU,reduceCtorEq,zQ,yz,yY,yy,yx,yw,yv,yu,yq,yX,yj,yk,yg,yW,yV,yU,yZ,yQ,xz,df143,TKs,mayG,keptF,writeG,memF_eq H,writeM,mayM,setM_self H,hy,c1,c2,hu,sub,EVt]
    exact hS
   ·cases hh : m.has x 1
    ·have hS:=(hS.1 (by simp [c2])).2 hh
     simp (maxSteps:=9999999) only [EV0,zy,zx,zw,zv,zu,zq,zp,zj,zk,leT,zg,rvC,zZ,zY,zX,zW,↓zV,↓zU,reduceCtorEq,zQ,yz,yY,yy,yx,yw,yv,yu,yq,yX,yj,yk,yg,yW,yV,yU,yZ,yQ,xz,df143,TKs,mayG,keptF,writeG,memF_eq H,writeM,mayM,setM_self H,hy,c1,c2,hh,hu,sub,EVt]
     exact hS
    ·have hS:=(hS.1 (by simp [c2])).1 hh
     simp (maxSteps:=9999999) only [EV0,zy,zx,zw,zv,zu,zq,zp,zj,zk,leT,zg,rvC,zZ,zY,zX,zW,↓zV,↓zU,reduceCtorEq,zQ,yz,yY,yy,yx,yw,yv,yu,yq,yX,yj,yk,yg,yW,yV,yU,yZ,yQ,xz,df143,TKs,mayG,keptF,writeG,memF_eq H,writeM,mayM,setM_self H,hy,c1,c2,hh,hu,sub,EVt]
     exact hS
 ·exact hS1.elim

def keptV (words least : Int) (m : M) (w : Int) : Int:=if w ≤ 65535 ∧ keptB words least m (IntKind.i64.wrap w) = true then IntKind.i64.wrap w else 0
def getM_ (at_ words least : Int) (b : Nat) (m : M) (st : M → List Blk) : List V → Res
 | [] => .ob (words ≠ 0) (.br (m.has at_ 1) (.ok (.s (.i .i64 (keptV words least m (m.at at_)))) [] (st (m.tick 1))) (.ok (.s (.i .i64 (keptV words least m 0))) [] (st m)))
 | _ => .bad
noncomputable def getG_:=keptF getM_
theorem keptB_tick (y z : Int) (m : M) (k n : Int) : keptB y z (m.tick k) n = keptB y z m n:=rfl
theorem kget_snd : Snd Tryz.prog 161 (FSpec.of getG_):=snd_run TKs_snd mixed Tryz.func161 dc161 100 fun args h K hc hS => by
 obtain ⟨x,y,z,a,b,m,rest,rfl,H,hS1⟩:=keptF_spec hS
 clear hS
 unfold getM_ at hS1
 split at hS1
 ·simp only [spec_ok,spec_ob,spec_br,setM_self H] at hS1
  obtain ⟨hy,hS⟩:=hS1
  have hy : ¬ y = 0:=hy
  cases hh : m.has x 1
  ·have hS:=hS.2 hh
   have w0 : IntKind.i64.wrap 0 = 0:=by decide
   cases c2 : keptB y z m 0
   ·simp only [keptV,w0,c2,Bool.false_eq_true,and_false,if_false] at hS
    simp (maxSteps:=9999999) only [EV0,zy,zx,zw,zv,zu,zq,zp,zj,zk,leT,zg,rvC,zZ,zY,zX,zW,↓zV,↓zU,reduceCtorEq,zQ,yz,yY,yy,yx,yw,yv,yu,yq,yX,yj,yk,yg,yW,yV,yU,yZ,yQ,xz,df161,TKs,mayG,keptF,readG,memF_eq H,readM,mayM,setM_self H,hy,c2,hh,w0,sub,EVt]
    exact hS
   ·simp only [keptV,w0,c2,if_true,and_true] at hS
    rw [if_pos (by omega)] at hS
    simp (maxSteps:=9999999) only [EV0,zy,zx,zw,zv,zu,zq,zp,zj,zk,leT,zg,rvC,zZ,zY,zX,zW,↓zV,↓zU,reduceCtorEq,zQ,yz,yY,yy,yx,yw,yv,yu,yq,yX,yj,yk,yg,yW,yV,yU,yZ,yQ,xz,df161,TKs,mayG,keptF,readG,memF_eq H,readM,mayM,setM_self H,hy,c2,hh,w0,sub,EVt]
    exact hS
  ·have hS:=hS.1 hh
   by_cases c1 : m.at x ≤ 65535
   ·have c3 : ¬ (65535 < m.at x):=by omega
    cases c2 : keptB y z m (IntKind.i64.wrap (m.at x))
    ·simp only [keptV,c1,c2,Bool.false_eq_true,and_false,if_false] at hS
     simp (maxSteps:=9999999) only [EV0,zy,zx,zw,zv,zu,zq,zp,zj,zk,leT,zg,rvC,zZ,zY,zX,zW,↓zV,↓zU,reduceCtorEq,zQ,yz,yY,yy,yx,yw,yv,yu,yq,yX,yj,yk,yg,yW,yV,yU,yZ,yQ,xz,df161,TKs,mayG,keptF,readG,memF_eq H,memF_set H,readM,mayM,setM_self H,hy,c2,c3,hh,keptB_tick,sub,EVt]
     exact hS
    ·simp only [keptV,c1,c2,and_self,if_true] at hS
     simp (maxSteps:=9999999) only [EV0,zy,zx,zw,zv,zu,zq,zp,zj,zk,leT,zg,rvC,zZ,zY,zX,zW,↓zV,↓zU,reduceCtorEq,zQ,yz,yY,yy,yx,yw,yv,yu,yq,yX,yj,yk,yg,yW,yV,yU,yZ,yQ,xz,df161,TKs,mayG,keptF,readG,memF_eq H,memF_set H,readM,mayM,setM_self H,hy,c2,c3,hh,keptB_tick,sub,EVt]
     exact hS
   ·have c3 : 65535 < m.at x:=by omega
    simp only [keptV,c1,false_and,if_false] at hS
    simp (maxSteps:=9999999) only [EV0,zy,zx,zw,zv,zu,zq,zp,zj,zk,leT,zg,rvC,zZ,zY,zX,zW,↓zV,↓zU,reduceCtorEq,zQ,yz,yY,yy,yx,yw,yv,yu,yq,yX,yj,yk,yg,yW,yV,yU,yZ,yQ,xz,df161,TKs,mayG,keptF,readG,memF_eq H,memF_set H,readM,mayM,setM_self H,hy,c3,hh,keptB_tick,sub,EVt]
    exact hS
 ·exact hS1.elim


def M.gE (m : M) (a : Int) : Int:=if thereB m a = true then (if m.slotB a = true then 0 else 110) else 20
def M.gV (m : M) (a : Int) : Slot:=if thereB m a = true ∧ m.slotB a = true then m.slotC a else slotZ
def M.gX (m : M) (a : Int) : M:=if thereB m a = true then m.tick 4 else m
def M.pE (m : M) (a : Int) (s : Slot) : Int:=if thereB m a = true then (if slotRB s = true then 0 else 110) else 20
def M.pX (m : M) (a : Int) (s : Slot) : M:=if thereB m a = true ∧ slotRB s = true then m.putS a s else m
def get2M (b : Nat) (m : M) (st : M → List Blk) : List V → Res
 | [.s (.i .i64 a)] => .ok (.tup [.agg (m.gV a).cl, .s (.i .i64 (m.gE a))]) [] (st (m.gX a))
 | _ => .bad
noncomputable def get2G:=memF get2M
def put2M (b : Nat) (m : M) (st : M → List Blk) : List V → Res
 | [.s (.i .i64 a),x] => slotF (fun s => .ok (.s (.i .i64 (m.pE a s))) [] (st (m.pX a s))) [x]
 | _ => .bad
noncomputable def put2G:=memF put2M
theorem get2_of {args : List V} {h : List Blk} {K : V → List Blk → Prop} (hS : (get2G args h).spec K) : (getSG args h).spec K:=by
 obtain ⟨a,b,m,rest,rfl,H,hS⟩:=memF_spec hS
 unfold getSG
 rw [memF_eq H]
 unfold get2M at hS
 split at hS
 ·rename_i x
  simp only [spec_ok,M.gE,M.gV,M.gX] at hS
  simp only [getSM,spec_br,spec_ok]
  refine ⟨fun ht => ⟨fun hb => ?_,fun hb => ?_⟩,fun ht => ?_⟩
  ·simpa [ht,hb] using hS
  ·simpa [ht,hb] using hS
  ·simpa [ht] using hS
 ·exact hS.elim
theorem put2_of {args : List V} {h : List Blk} {K : V → List Blk → Prop} (hS : (put2G args h).spec K) : (putSG args h).spec K:=by
 obtain ⟨a,b,m,rest,rfl,H,hS⟩:=memF_spec hS
 unfold putSG
 rw [memF_eq H]
 unfold put2M at hS
 split at hS
 ·rename_i x y
  obtain ⟨s,e,hS2⟩:=slotF_spec hS
  simp only [List.cons.injEq,and_true] at e
  subst e
  simp only [spec_ok,M.pE,M.pX] at hS2
  simp only [putSM]
  show (slotF _ [.agg s.cl]).spec K
  simp only [slotF,Slot.cl,slot_eta,spec_br,spec_ok]
  refine ⟨fun ht => ⟨fun hb => ?_,fun hb => ?_⟩,fun ht => ?_⟩
  ·simpa [ht,hb] using hS2
  ·simpa [ht,hb] using hS2
  ·simpa [ht] using hS2
 ·exact hS.elim
theorem get2_snd : Snd Tryz.prog 26 (FSpec.of get2G):=getS_snd.weaken fun _ _ _ _ hS => get2_of hS
theorem rget2_snd : Snd Tryz.prog 126 (FSpec.of get2G):=rgetS_snd.weaken fun _ _ _ _ hS => get2_of hS
theorem put2_snd : Snd Tryz.prog 79 (FSpec.of put2G):=putS_snd.weaken fun _ _ _ _ hS => put2_of hS
theorem rput2_snd : Snd Tryz.prog 118 (FSpec.of put2G):=rputS_snd.weaken fun _ _ _ _ hS => put2_of hS
def M.eB (m : M) (a : Int) : Bool:=if m.gE a = 0 then (m.gV a).isZ else false
def empty2M (b : Nat) (m : M) (st : M → List Blk) : List V → Res
 | [.s (.i .i64 a)] => .ok (.tup [.s (.b (m.eB a)), .s (.i .i64 (m.gE a))]) [] (st (m.gX a))
 | _ => .bad
noncomputable def empty2G:=memF empty2M
theorem empty2_of {args : List V} {h : List Blk} {K : V → List Blk → Prop} (hS : (empty2G args h).spec K) : (emptySG args h).spec K:=by
 obtain ⟨a,b,m,rest,rfl,H,hS⟩:=memF_spec hS
 unfold emptySG
 rw [memF_eq H]
 unfold empty2M at hS
 split at hS
 ·rename_i x
  simp only [spec_ok,M.eB,M.gE,M.gV,M.gX] at hS
  simp only [emptySM,spec_br,spec_ok]
  refine ⟨fun ht => ⟨fun hb => ?_,fun hb => ?_⟩,fun ht => ?_⟩
  ·simpa [ht,hb] using hS
  ·simpa [ht,hb] using hS
  ·simpa [ht] using hS
 ·exact hS.elim
theorem empty2_snd : Snd Tryz.prog 125 (FSpec.of empty2G):=emptyS_snd.weaken fun _ _ _ _ hS => empty2_of hS
theorem rempty2_snd : Snd Tryz.prog 116 (FSpec.of empty2G):=remptyS_snd.weaken fun _ _ _ _ hS => empty2_of hS

theorem M.gV_u (m : M) (a : Int) : slotRB (m.gV a) = true:=by
 unfold M.gV
 split
 ·rename_i h
  have:=h.2
  simp only [M.slotB,_root_.Go.Proofs.YtcdfofeolgbnbaaGreat.slotB,Bool.and_eq_true] at this
  exact this.2.2.2
 ·decide
theorem M.gV_null {m : M} {a : Int} (h : (m.gV a).cap.ty = 0) : m.gV a = slotZ:=by
 have:=slot_null (m.gV_u a)
 rw [h] at this
 exact Slot.isZ_iff.1 this.symm
def M.fst (m : M) : Int:=keptV 4 4 m (if m.has 2 1 = true then m.at 2 else 0)
def M.fstX (m : M) : M:=if m.has 2 1 = true then m.tick 1 else m
def M.sfE (m : M) (n : Int) : Int:=if (n == 0 || keptB 4 4 m n) = true ∧ m.has 2 1 = true then 0 else 20
def M.sfX (m : M) (n : Int) : M:=if (n == 0 || keptB 4 4 m n) = true ∧ m.has 2 1 = true then (m.put 2 (IntKind.u64.wrap n)).tick 1 else m
def firstM (b : Nat) (m : M) (st : M → List Blk) : List V → Res
 | [] => .ok (.s (.i .i64 m.fst)) [] (st m.fstX)
 | _ => .bad
noncomputable def firstG:=memF firstM
def setFirstM (b : Nat) (m : M) (st : M → List Blk) : List V → Res
 | [.s (.i .i64 n)] => .ok (.s (.i .i64 (m.sfE n))) [] (st (m.sfX n))
 | _ => .bad
noncomputable def setFirstG:=memF setFirstM
def hfirstG : List V → List Blk → Res
 | [],h => .ok (.agg [.i .i64 2, .i .i64 4, .i .i64 4]) [] h
 | _,_ => .bad
theorem hfirst_snd : Snd Tryz.prog 142 (FSpec.of hfirstG):=snd_run (noT_snd _) mixed Tryz.func142 dc142 100 fun args h K hc hS => by
 unfold hfirstG at hS
 split at hS
 ·simp only [spec_ok] at hS
  simp (maxSteps:=9999999) only [EV0,zy,zx,zw,zv,zu,zq,zp,zj,zk,leT,zg,rvC,zZ,zY,zX,zW,↓zV,↓zU,reduceCtorEq,zQ,yz,yY,yy,yx,yw,yv,yu,yq,yX,yj,yk,yg,yW,yV,yU,yZ,yQ,xz,df142,put,fillP,sub,EVt]
  exact hS
 ·exact hS.elim
noncomputable def THf : Tab:=addT 142 hfirstG (addT 143 setG_ (addT 161 getG_ (noT)))
theorem THf_snd : THf.Snd Tryz.prog:=addT_snd ok142 hfirst_snd (addT_snd ok143 kset_snd (addT_snd ok161 kget_snd ((noT_snd _))))
theorem first_snd : Snd Tryz.prog 100 (FSpec.of firstG):=snd_run THf_snd mixed Tryz.func100 dc100 100 fun args h K hc hS => by
 obtain ⟨a,b,m,rest,rfl,H,hS1⟩:=memF_spec hS
 clear hS
 have hS:=hS1
 clear hS1
 unfold firstM at hS
 split at hS
 ·simp only [spec_ok,M.fst,M.fstX] at hS
  cases hh : m.has 2 1
  ·simp only [hh,Bool.false_eq_true,if_false,setM_self H] at hS
   simp (maxSteps:=9999999) only [EV0,zy,zx,zw,zv,zu,zq,zp,zj,zk,leT,zg,rvC,zZ,zY,zX,zW,↓zV,↓zU,reduceCtorEq,zQ,yz,yY,yy,yx,yw,yv,yu,yq,yX,yj,yk,yg,yW,yV,yU,yZ,yQ,xz,df100,THf,hfirstG,getG_,keptF,memF_eq H,getM_,setM_self H,hh]
   exact hS
  ·simp only [hh,if_true] at hS
   simp (maxSteps:=9999999) only [EV0,zy,zx,zw,zv,zu,zq,zp,zj,zk,leT,zg,rvC,zZ,zY,zX,zW,↓zV,↓zU,reduceCtorEq,zQ,yz,yY,yy,yx,yw,yv,yu,yq,yX,yj,yk,yg,yW,yV,yU,yZ,yQ,xz,df100,THf,hfirstG,getG_,keptF,memF_eq H,getM_,setM_self H,hh]
   exact hS
 ·exact hS.elim
theorem setFirst_snd : Snd Tryz.prog 80 (FSpec.of setFirstG):=snd_run THf_snd mixed Tryz.func80 dc80 100 fun args h K hc hS => by
 obtain ⟨a,b,m,rest,rfl,H,hS1⟩:=memF_spec hS
 clear hS
 have hS:=hS1
 clear hS1
 unfold setFirstM at hS
 split at hS
 ·rename_i n
  simp only [spec_ok,M.sfE,M.sfX] at hS
  cases c1 : (n == 0 || keptB 4 4 m n)
  ·simp only [c1,Bool.false_eq_true,false_and,if_false,setM_self H] at hS
   simp only [Bool.or_eq_false_iff,beq_eq_false_iff_ne,ne_eq] at c1
   simp (maxSteps:=9999999) only [EV0,zy,zx,zw,zv,zu,zq,zp,zj,zk,leT,zg,rvC,zZ,zY,zX,zW,↓zV,↓zU,reduceCtorEq,zQ,yz,yY,yy,yx,yw,yv,yu,yq,yX,yj,yk,yg,yW,yV,yU,yZ,yQ,xz,df80,THf,hfirstG,setG_,keptF,memF_eq H,setM_,setM_self H,c1]
   exact hS
  ·cases hh : m.has 2 1
   ·simp only [hh,Bool.false_eq_true,and_false,if_false,setM_self H] at hS
    simp only [Bool.or_eq_true,beq_iff_eq] at c1
    simp (maxSteps:=9999999) only [EV0,zy,zx,zw,zv,zu,zq,zp,zj,zk,leT,zg,rvC,zZ,zY,zX,zW,↓zV,↓zU,reduceCtorEq,zQ,yz,yY,yy,yx,yw,yv,yu,yq,yX,yj,yk,yg,yW,yV,yU,yZ,yQ,xz,df80,THf,hfirstG,setG_,keptF,memF_eq H,setM_,setM_self H,c1,hh]
    exact hS
   ·simp only [c1,hh,and_self,if_true] at hS
    simp only [Bool.or_eq_true,beq_iff_eq] at c1
    simp (maxSteps:=9999999) only [EV0,zy,zx,zw,zv,zu,zq,zp,zj,zk,leT,zg,rvC,zZ,zY,zX,zW,↓zV,↓zU,reduceCtorEq,zQ,yz,yY,yy,yx,yw,yv,yu,yq,yX,yj,yk,yg,yW,yV,yU,yZ,yQ,xz,df80,THf,hfirstG,setG_,keptF,memF_eq H,setM_,setM_self H,c1,hh]
    exact hS
 ·exact hS.elim
end Go.Proofs.YtcdfofeolgbnbaaGreat

/- The machine's memory: Copy; the document's Fill,Copy,Dump. -/
namespace Go.Proofs.YtcdfofeolgbnbaaGreat
open Go.D
set_option linter.all false
set_option maxRecDepth 100000
set_option maxHeartbeats 4000000

def M.part (m : M) (x k : Nat) : List Int:=(m.w.drop x).take k
def M.copy (m : M) (x y k : Nat) : M:=(m.lay y (m.part x k)).tick (2 * k)

/-! ### the specs without choices -/


section
variable {h X : List Blk} {m : M} {k : Nat}
theorem listOf_at {H : List Blk} {j c room : Nat} {st : BK} {vs : List Int} {n : Nat} (hj : H[j]? = some ⟨st,wc vs,room⟩) (hs : st ≠ .dead) (hn : vs.length = n) : listOf H (.sl (.g j) 0 n c) = some vs:=by
 subst hn; exact listOf_eq (IsList.whole hj hs)
end

section
variable {h X : List Blk} {m n : M} {k : Nat}
end

section
variable {h X : List Blk} {m n m' n' : M} {k : Nat} {B : Blk}
end


theorem nlt0 {a k : Nat} : (a < a + k) = (0 < k):=by simp
theorem nltn {a j k : Nat} : (a + j < a + k) = (j < k):=by simp
section
variable {h X : List Blk} {A B : Blk} {m : M}
theorem vals_nil {n k : Nat} : vals n k [] = true:=by rfl
theorem vals_cons {n k : Nat} {s : S} {l : List S} : vals n k (s :: l) = (s.val n k && vals n k l):=by rfl
theorem app_len {X : List Blk} : (h ++ X).length = h.length + X.length:=List.length_append
end

theorem IsList.of {h : List Blk} {s : S} {vs : List Int} (H : IsList h s vs) (X : List Blk) : listOf (h ++ X) s = some vs:=listOf_eq H.app

end Go.Proofs.YtcdfofeolgbnbaaGreat

/- Package cdt: full,listed,turn,join,whatever words lie there. -/
namespace Go.Proofs.YtcdfofeolgbnbaaGreat
open Go.D
open Nat (reduceAdd reducePow reduceMul reduceSub reduceLeDiff reduceLT reduceEqDiff)
open Int (reduceNeg reduceLE reduceEq reduceNe reduceToNat)
open Go.D renaming istep → zy,pickR → zx,bin1R → zw,un1R → zv,eqS → zu,eq1 → zq,cmpS → zp,cmp1 → zj,isNil → zk,shows → zg,result → zZ,q_cond_t → zV,q_cond_f → zU
open List renaming set → zY,replicate → zX
open Option renaming map → zW
open Nat renaming reduceAdd → zQ,reducePow → yz,reduceMul → yy,reduceSub → yx,reduceLeDiff → yw,reduceLT → yv,reduceEqDiff → yu
open Int renaming reduceNeg → yq,reduceLE → yj,reduceEq → yk,reduceNe → yg,reduceToNat → yZ,reducePow → yY,reduceLT → yX,reduceAdd → yW,reduceSub → yV,reduceMul → yU,reduceBEq → yQ,reduceBNe → xz
set_option linter.all false
set_option maxRecDepth 100000
set_option maxHeartbeats 4000000

def M.fE (m : M) (a : Int) : Int:=if m.gE a = 0 ∧ (m.gV a).cap.ty = 0 then 121 else m.gE a
def fullM (b : Nat) (m : M) (st : M → List Blk) : List V → Res
 | [.s (.i .i64 a)] => .ok (.tup [.agg (m.gV a).cl, .s (.i .i64 (m.fE a))]) [] (st (m.gX a))
 | _ => .bad
noncomputable def fullG:=memF fullM
noncomputable def TGt2 : Tab:=addT 26 get2G (addT 126 get2G (noT))
theorem TGt2_snd : TGt2.Snd Tryz.prog:=addT_snd ok26 get2_snd (addT_snd ok126 rget2_snd ((noT_snd _)))
theorem full_snd : Snd Tryz.prog 74 (FSpec.of fullG):=snd_run TGt2_snd mixed Tryz.func74 dc74 200 fun args h K hc hS => by
 obtain ⟨a,b,m,rest,rfl,H,hS1⟩:=memF_spec hS
 clear hS
 have hS:=hS1
 clear hS1
 unfold fullM at hS
 split at hS
 ·rename_i x
  simp only [spec_ok,M.fE] at hS
  by_cases c1 : m.gE x = 0
  ·by_cases c2 : (m.gV x).cap.ty = 0
   ·rw [M.gV_null c2] at hS
    simp only [M.gV_null c2,slotZ,capZ,Slot.cl,c1,and_self,if_true] at hS
    have c3:=M.gV_null c2
    simp (maxSteps:=9999999) only [EV0,zy,zx,zw,zv,zu,zq,zp,zj,zk,leT,zg,rvC,zZ,zY,zX,zW,↓zV,↓zU,reduceCtorEq,zQ,yz,yY,yy,yx,yw,yv,yu,yq,yX,yj,yk,yg,yW,yV,yU,yZ,yQ,xz,df74,TGt2,get2G,memF_eq H,get2M,Slot.cl,c1,c2,c3,slotZ,capZ,put,fillP,sub,EVt]
    exact hS
   ·simp only [Slot.cl,c1,c2,and_false,if_false] at hS
    simp (maxSteps:=9999999) only [EV0,zy,zx,zw,zv,zu,zq,zp,zj,zk,leT,zg,rvC,zZ,zY,zX,zW,↓zV,↓zU,reduceCtorEq,zQ,yz,yY,yy,yx,yw,yv,yu,yq,yX,yj,yk,yg,yW,yV,yU,yZ,yQ,xz,df74,TGt2,get2G,memF_eq H,get2M,Slot.cl,c1,c2,put,fillP,sub,EVt]
    exact hS
  ·simp only [Slot.cl,c1,false_and,if_false] at hS
   simp (maxSteps:=9999999) only [EV0,zy,zx,zw,zv,zu,zq,zp,zj,zk,leT,zg,rvC,zZ,zY,zX,zW,↓zV,↓zU,reduceCtorEq,zQ,yz,yY,yy,yx,yw,yv,yu,yq,yX,yj,yk,yg,yW,yV,yU,yZ,yQ,xz,df74,TGt2,get2G,memF_eq H,get2M,Slot.cl,c1,put,fillP,sub,EVt]
   exact hS
 ·exact hS.elim
theorem rfull_snd : Snd Tryz.prog 98 (FSpec.of fullG):=snd_run TGt2_snd mixed Tryz.func98 dc98 200 fun args h K hc hS => by
 obtain ⟨a,b,m,rest,rfl,H,hS1⟩:=memF_spec hS
 clear hS
 have hS:=hS1
 clear hS1
 unfold fullM at hS
 split at hS
 ·rename_i x
  simp only [spec_ok,M.fE] at hS
  by_cases c1 : m.gE x = 0
  ·by_cases c2 : (m.gV x).cap.ty = 0
   ·rw [M.gV_null c2] at hS
    simp only [M.gV_null c2,slotZ,capZ,Slot.cl,c1,and_self,if_true] at hS
    have c3:=M.gV_null c2
    simp (maxSteps:=9999999) only [EV0,zy,zx,zw,zv,zu,zq,zp,zj,zk,leT,zg,rvC,zZ,zY,zX,zW,↓zV,↓zU,reduceCtorEq,zQ,yz,yY,yy,yx,yw,yv,yu,yq,yX,yj,yk,yg,yW,yV,yU,yZ,yQ,xz,df98,TGt2,get2G,memF_eq H,get2M,Slot.cl,c1,c2,c3,slotZ,capZ,put,fillP,sub,EVt]
    exact hS
   ·simp only [Slot.cl,c1,c2,and_false,if_false] at hS
    simp (maxSteps:=9999999) only [EV0,zy,zx,zw,zv,zu,zq,zp,zj,zk,leT,zg,rvC,zZ,zY,zX,zW,↓zV,↓zU,reduceCtorEq,zQ,yz,yY,yy,yx,yw,yv,yu,yq,yX,yj,yk,yg,yW,yV,yU,yZ,yQ,xz,df98,TGt2,get2G,memF_eq H,get2M,Slot.cl,c1,c2,put,fillP,sub,EVt]
    exact hS
  ·simp only [Slot.cl,c1,false_and,if_false] at hS
   simp (maxSteps:=9999999) only [EV0,zy,zx,zw,zv,zu,zq,zp,zj,zk,leT,zg,rvC,zZ,zY,zX,zW,↓zV,↓zU,reduceCtorEq,zQ,yz,yY,yy,yx,yw,yv,yu,yq,yX,yj,yk,yg,yW,yV,yU,yZ,yQ,xz,df98,TGt2,get2G,memF_eq H,get2M,Slot.cl,c1,put,fillP,sub,EVt]
   exact hS
 ·exact hS.elim

def M.liB (m : M) (a : Int) (s : Slot) : Bool:=!(s.prev == 0 && (s.next == 0 && s.depth == 0)) || m.fst == a
def M.liX (m : M) (s : Slot) : M:=if (s.prev == 0 && (s.next == 0 && s.depth == 0)) = true then m.fstX else m
def listedM (b : Nat) (m : M) (st : M → List Blk) : List V → Res
 | [.s (.i .i64 a),x] => slotF (fun s => .ok (.s (.b (m.liB a s))) [] (st (m.liX s))) [x]
 | _ => .bad
noncomputable def listedG:=memF listedM
noncomputable def TFs : Tab:=addT 100 firstG (addT 80 setFirstG (noT))
theorem TFs_snd : TFs.Snd Tryz.prog:=addT_snd ok100 first_snd (addT_snd ok80 setFirst_snd ((noT_snd _)))
theorem listed_snd : Snd Tryz.prog 75 (FSpec.of listedG):=snd_run TFs_snd mixed Tryz.func75 dc75 200 fun args h K hc hS => by
 obtain ⟨a,b,m,rest,rfl,H,hS1⟩:=memF_spec hS
 clear hS
 have hS:=hS1
 clear hS1
 unfold listedM at hS
 split at hS
 ·rename_i x y
  obtain ⟨s,e,hS2⟩:=slotF_spec hS
  simp only [List.cons.injEq,and_true] at e
  subst e
  clear hS
  have hS:=hS2
  simp only [spec_ok,M.liB,M.liX] at hS
  by_cases c1 : s.prev = 0
  ·by_cases c2 : s.next = 0
   ·by_cases c3 : s.depth = 0
    ·simp only [c1,c2,c3,beq_self_eq_true,Bool.and_self,Bool.not_true,Bool.false_or,if_true] at hS
     simp (maxSteps:=9999999) only [EV0,zy,zx,zw,zv,zu,zq,zp,zj,zk,leT,zg,rvC,zZ,zY,zX,zW,↓zV,↓zU,reduceCtorEq,zQ,yz,yY,yy,yx,yw,yv,yu,yq,yX,yj,yk,yg,yW,yV,yU,yZ,yQ,xz,df75,TFs,firstG,memF_eq H,firstM,Slot.cl,c1,c2,c3,put,fillP,sub,EVt]
     exact hS
    ·have c4 : (s.depth == 0) = false:=by simpa using c3
     simp only [c1,c2,c4,Bool.and_false,Bool.not_false,Bool.true_or,Bool.false_eq_true,if_false,setM_self H] at hS
     simp (maxSteps:=9999999) only [EV0,zy,zx,zw,zv,zu,zq,zp,zj,zk,leT,zg,rvC,zZ,zY,zX,zW,↓zV,↓zU,reduceCtorEq,zQ,yz,yY,yy,yx,yw,yv,yu,yq,yX,yj,yk,yg,yW,yV,yU,yZ,yQ,xz,df75,TFs,firstG,memF_eq H,firstM,Slot.cl,c1,c2,c3,put,fillP,sub,EVt]
     exact hS
   ·have c4 : (s.next == 0) = false:=by simpa using c2
    simp only [c1,c4,Bool.and_false,Bool.false_and,Bool.not_false,Bool.true_or,Bool.false_eq_true,if_false,setM_self H] at hS
    simp (maxSteps:=9999999) only [EV0,zy,zx,zw,zv,zu,zq,zp,zj,zk,leT,zg,rvC,zZ,zY,zX,zW,↓zV,↓zU,reduceCtorEq,zQ,yz,yY,yy,yx,yw,yv,yu,yq,yX,yj,yk,yg,yW,yV,yU,yZ,yQ,xz,df75,TFs,firstG,memF_eq H,firstM,Slot.cl,c1,c2,put,fillP,sub,EVt]
    exact hS
  ·have c4 : (s.prev == 0) = false:=by simpa using c1
   simp only [c4,Bool.false_and,Bool.not_false,Bool.true_or,Bool.false_eq_true,if_false,setM_self H] at hS
   simp (maxSteps:=9999999) only [EV0,zy,zx,zw,zv,zu,zq,zp,zj,zk,leT,zg,rvC,zZ,zY,zX,zW,↓zV,↓zU,reduceCtorEq,zQ,yz,yY,yy,yx,yw,yv,yu,yq,yX,yj,yk,yg,yW,yV,yU,yZ,yQ,xz,df75,TFs,firstG,memF_eq H,firstM,Slot.cl,c1,put,fillP,sub,EVt]
   exact hS
 ·exact hS.elim

/-! ### what a slot's links are turned to -/
def cellAt (h : List Blk) (k : Nat) : Option Int:=match h[k]? with
 | some ⟨.rw,[.i .i64 v],_⟩ => some v
 | _ => none
def slotAt (h : List Blk) (k : Nat) : Option Slot:=match h[k]? with
 | some ⟨.rw,[.i .i64 a, .i .i64 b, .i .i64 c, .i .i64 d, .i .i64 e, .i .i64 g, .i .i64 i, .i .i64 j, .i .i64 k, .i .i64 l, .i .i64 m, .i .i64 p, .i .i64 n, .i .i64 q],14⟩ => some ⟨⟨a,b,c,d,e,g,i,j,k,l,m⟩,p,n,q⟩
 | _ => none
theorem cellAt_some {h : List Blk} {k : Nat} {v : Int} (e : cellAt h k = some v) : ∃ room,h[k]? = some ⟨.rw,[.i .i64 v],room⟩:=by
 unfold cellAt at e
 split at e
 ·rename_i h1
  rw [Option.some.injEq] at e
  subst e
  exact ⟨_,h1⟩
 ·cases e
theorem slotAt_some {h : List Blk} {k : Nat} {s : Slot} (e : slotAt h k = some s) : h[k]? = some ⟨.rw,s.cl,14⟩:=by
 unfold slotAt at e
 split at e
 ·rename_i h1
  rw [Option.some.injEq] at e
  subst e
  exact h1
 ·cases e
theorem cellAt_eq {h : List Blk} {k room : Nat} {v : Int} (e : h[k]? = some ⟨.rw,[.i .i64 v],room⟩) : cellAt h k = some v:=by simp only [cellAt,e]
theorem slotAt_eq {h : List Blk} {k : Nat} {s : Slot} (e : h[k]? = some ⟨.rw,s.cl,14⟩) : slotAt h k = some s:=by simp only [slotAt,e,Slot.cl]
theorem setM_other {h : List Blk} {a b k : Nat} {m m' : M} {B : Blk} (H : IsMem h a b m) (e : h[k]? = some B) (h1 : B ≠ MB b m) (h2 : B ≠ MW m) : (setM h a b m')[k]? = some B:=by
 have ka : a ≠ k:=fun x => by subst x; rw [H.ha,Option.some.injEq] at e; exact h1 e.symm
 have kb : b ≠ k:=fun x => by subst x; rw [H.hb,Option.some.injEq] at e; exact h2 e.symm
 simp only [setM]
 rw [List.getElem?_set_ne kb,List.getElem?_set_ne ka,e]
theorem wc_head {w : List Int} {n : Int} {l : List S} (e : S.i .i64 n :: l = wc w) : False:=by
 cases w with
 | nil => cases e
 | cons x w => rw [wc_cons] at e; simp at e
theorem cell_setM {h : List Blk} {a b k room : Nat} {m : M} {v : Int} (H : IsMem h a b m) (e : h[k]? = some ⟨.rw,[.i .i64 v],room⟩) (m' : M) : (setM h a b m')[k]? = some ⟨.rw,[.i .i64 v],room⟩ :=
 setM_other H e (fun x => by simp [MB] at x) (fun x => by simp only [MW,Blk.mk.injEq] at x; exact wc_head x.2.1)
theorem slot_setM {h : List Blk} {a b k room : Nat} {m : M} {s : Slot} (H : IsMem h a b m) (e : h[k]? = some ⟨.rw,s.cl,room⟩) (m' : M) : (setM h a b m')[k]? = some ⟨.rw,s.cl,room⟩ :=
 setM_other H e (fun x => by simp [MB,Slot.cl] at x) (fun x => by simp only [MW,Blk.mk.injEq,Slot.cl] at x; exact wc_head x.2.1)

def chg (h : List Blk) (f : Nat) (cs : List (R × Nat)) : Option (Slot → Slot) :=
 match cs with
 | [] => if f = 77 ∨ f = 78 then some fun s => ⟨s.cap,s.prev,s.next,IntKind.i64.wrap (s.depth - 1)⟩ else none
 | [(.g k,0)] =>
  if f = 176 then match cellAt h k with
   | some v => some fun s => ⟨s.cap,s.prev,v,s.depth⟩
   | none => none
  else if f = 177 then match cellAt h k with
   | some v => some fun s => ⟨s.cap,v,s.next,s.depth⟩
   | none => none
  else if f = 81 then match slotAt h k with
   | some v => some fun s => ⟨s.cap,s.prev,v.next,s.depth⟩
   | none => none
  else if f = 82 then match slotAt h k with
   | some v => some fun s => ⟨s.cap,v.prev,s.next,s.depth⟩
   | none => none
  else none
 | _ => none
def depG : List V → List Blk → Res
 | [.s (.p (.g i) 0)],h => match slotAt h i with
  | some s => .ok (.tup []) [] (h.set i ⟨.rw,(⟨s.cap,s.prev,s.next,IntKind.i64.wrap (s.depth - 1)⟩ : Slot).cl,14⟩)
  | none => .bad
 | _,_ => .bad
def jn1G : List V → List Blk → Res
 | [.s (.p (.g i) 0), .s (.p (.g k) 0)],h => match slotAt h i,cellAt h k with
  | some s,some v => .ok (.tup []) [] (h.set i ⟨.rw,(⟨s.cap,s.prev,v,s.depth⟩ : Slot).cl,14⟩)
  | _,_ => .bad
 | _,_ => .bad
def jn2G : List V → List Blk → Res
 | [.s (.p (.g i) 0), .s (.p (.g k) 0)],h => match slotAt h i,cellAt h k with
  | some s,some v => .ok (.tup []) [] (h.set i ⟨.rw,(⟨s.cap,v,s.next,s.depth⟩ : Slot).cl,14⟩)
  | _,_ => .bad
 | _,_ => .bad
def rm3G : List V → List Blk → Res
 | [.s (.p (.g i) 0), .s (.p (.g k) 0)],h => match slotAt h i,slotAt h k with
  | some s,some v => .ok (.tup []) [] (h.set i ⟨.rw,(⟨s.cap,s.prev,v.next,s.depth⟩ : Slot).cl,14⟩)
  | _,_ => .bad
 | _,_ => .bad
def rm4G : List V → List Blk → Res
 | [.s (.p (.g i) 0), .s (.p (.g k) 0)],h => match slotAt h i,slotAt h k with
  | some s,some v => .ok (.tup []) [] (h.set i ⟨.rw,(⟨s.cap,v.prev,s.next,s.depth⟩ : Slot).cl,14⟩)
  | _,_ => .bad
 | _,_ => .bad
theorem dep1_snd : Snd Tryz.prog 77 (FSpec.of depG):=snd_run (noT_snd _) mixed Tryz.func77 dc77 100 fun args h K hc hS => by
 unfold depG at hS
 split at hS
 ·split at hS
  ·rename_i s hs
   have e1:=slotAt_some hs
   simp only [spec_ok,Slot.cl] at hS
   simp (maxSteps:=9999999) only [EV0,zy,zx,zw,zv,zu,zq,zp,zj,zk,leT,zg,rvC,zZ,zY,zX,zW,↓zV,↓zU,reduceCtorEq,zQ,yz,yY,yy,yx,yw,yv,yu,yq,yX,yj,yk,yg,yW,yV,yU,yZ,yQ,xz,df77,e1,Slot.cl,put,fillP,sub,EVt]
   exact hS
  ·exact hS.elim
 ·exact hS.elim
theorem dep2_snd : Snd Tryz.prog 78 (FSpec.of depG):=snd_run (noT_snd _) mixed Tryz.func78 dc78 100 fun args h K hc hS => by
 unfold depG at hS
 split at hS
 ·split at hS
  ·rename_i s hs
   have e1:=slotAt_some hs
   simp only [spec_ok,Slot.cl] at hS
   simp (maxSteps:=9999999) only [EV0,zy,zx,zw,zv,zu,zq,zp,zj,zk,leT,zg,rvC,zZ,zY,zX,zW,↓zV,↓zU,reduceCtorEq,zQ,yz,yY,yy,yx,yw,yv,yu,yq,yX,yj,yk,yg,yW,yV,yU,yZ,yQ,xz,df78,e1,Slot.cl,put,fillP,sub,EVt]
   exact hS
  ·exact hS.elim
 ·exact hS.elim
theorem jn1_snd : Snd Tryz.prog 176 (FSpec.of jn1G):=snd_run (noT_snd _) mixed Tryz.func176 dc176 100 fun args h K hc hS => by
 unfold jn1G at hS
 split at hS
 ·split at hS
  ·rename_i s v hs hv
   have e1:=slotAt_some hs
   obtain ⟨room,e2⟩:=cellAt_some hv
   simp only [spec_ok,Slot.cl] at hS
   simp (maxSteps:=9999999) only [EV0,zy,zx,zw,zv,zu,zq,zp,zj,zk,leT,zg,rvC,zZ,zY,zX,zW,↓zV,↓zU,reduceCtorEq,zQ,yz,yY,yy,yx,yw,yv,yu,yq,yX,yj,yk,yg,yW,yV,yU,yZ,yQ,xz,df176,e1,e2,Slot.cl,put,fillP,sub,EVt]
   exact hS
  ·exact hS.elim
 ·exact hS.elim
theorem jn2_snd : Snd Tryz.prog 177 (FSpec.of jn2G):=snd_run (noT_snd _) mixed Tryz.func177 dc177 100 fun args h K hc hS => by
 unfold jn2G at hS
 split at hS
 ·split at hS
  ·rename_i s v hs hv
   have e1:=slotAt_some hs
   obtain ⟨room,e2⟩:=cellAt_some hv
   simp only [spec_ok,Slot.cl] at hS
   simp (maxSteps:=9999999) only [EV0,zy,zx,zw,zv,zu,zq,zp,zj,zk,leT,zg,rvC,zZ,zY,zX,zW,↓zV,↓zU,reduceCtorEq,zQ,yz,yY,yy,yx,yw,yv,yu,yq,yX,yj,yk,yg,yW,yV,yU,yZ,yQ,xz,df177,e1,e2,Slot.cl,put,fillP,sub,EVt]
   exact hS
  ·exact hS.elim
 ·exact hS.elim
theorem rm3_snd : Snd Tryz.prog 81 (FSpec.of rm3G):=snd_run (noT_snd _) mixed Tryz.func81 dc81 100 fun args h K hc hS => by
 unfold rm3G at hS
 split at hS
 ·split at hS
  ·rename_i s v hs hv
   have e1:=slotAt_some hs
   have e2:=slotAt_some hv
   simp only [spec_ok,Slot.cl] at hS
   simp (maxSteps:=9999999) only [EV0,zy,zx,zw,zv,zu,zq,zp,zj,zk,leT,zg,rvC,zZ,zY,zX,zW,↓zV,↓zU,reduceCtorEq,zQ,yz,yY,yy,yx,yw,yv,yu,yq,yX,yj,yk,yg,yW,yV,yU,yZ,yQ,xz,df81,e1,e2,Slot.cl,put,fillP,sub,EVt]
   exact hS
  ·exact hS.elim
 ·exact hS.elim
theorem rm4_snd : Snd Tryz.prog 82 (FSpec.of rm4G):=snd_run (noT_snd _) mixed Tryz.func82 dc82 100 fun args h K hc hS => by
 unfold rm4G at hS
 split at hS
 ·split at hS
  ·rename_i s v hs hv
   have e1:=slotAt_some hs
   have e2:=slotAt_some hv
   simp only [spec_ok,Slot.cl] at hS
   simp (maxSteps:=9999999) only [EV0,zy,zx,zw,zv,zu,zq,zp,zj,zk,leT,zg,rvC,zZ,zY,zX,zW,↓zV,↓zU,reduceCtorEq,zQ,yz,yY,yy,yx,yw,yv,yu,yq,yX,yj,yk,yg,yW,yV,yU,yZ,yQ,xz,df82,e1,e2,Slot.cl,put,fillP,sub,EVt]
   exact hS
  ·exact hS.elim
 ·exact hS.elim
end Go.Proofs.YtcdfofeolgbnbaaGreat

