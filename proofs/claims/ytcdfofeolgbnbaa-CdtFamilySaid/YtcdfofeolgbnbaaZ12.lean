/- Package slots: the document's Get,Put,Empty. -/
import Derived.Test.YtcdfofeolgbnbaaZ8
import Derived.Test.YtcdfofeolgbnbaaZ11
/- The machine's memory: what its functions do. -/
namespace Go.Proofs.Ytcdfofeolgbnbaa
open Go.D
open Nat (reduceAdd reducePow reduceMul reduceSub reduceLeDiff reduceLT reduceEqDiff)
open Int (reduceNeg reduceLE reduceEq reduceNe reduceToNat)
open Go.D renaming istep → zx,pickR → zw,bin1R → zv,un1R → zu,eqS → zq,eq1 → zp,cmpS → zj,cmp1 → zk,isNil → zg,shows → zZ,result → zY,q_cond_t → zU,q_cond_f → zQ
open List renaming set → zX,replicate → zW
open Option renaming map → zV
open Nat renaming reduceAdd → yz,reducePow → yy,reduceMul → yx,reduceSub → yw,reduceLeDiff → yv,reduceLT → yu,reduceEqDiff → yq
open Int renaming reduceNeg → yp,reduceLE → yj,reduceEq → yk,reduceNe → yg,reduceToNat → yZ,reducePow → yY,reduceLT → yX,reduceAdd → yW,reduceSub → yV,reduceMul → yU,reduceBEq → yQ,reduceBNe → xz
set_option linter.all false
set_option maxRecDepth 100000
set_option maxHeartbeats 4000000

theorem pow16 (k : Nat) : 2 ^ min k 16 ≤ 65536:=by
 have : min k 16 ≤ 16:=by omega
 exact Nat.pow_le_pow_right (n:=2) (by omega) this
def M.zero (k : Nat) : M:=⟨List.replicate (2 ^ min k 16) 0,0,fun x hx => by rw [List.eq_of_mem_replicate hx]; exact u64_0,by simpa using pow16 k⟩
theorem M.zero_len (k : Nat) : (M.zero k).w.length = 2 ^ min k 16:=by simp [M.zero]

def newM : List V → List Blk → Res
 | [.s (.i .i64 b)],h => .br (decide (11 ≤ b) && decide (b ≤ 16)) (.ok (.tup [.s (.p (.g h.length) 0), .s (.i .i64 0)]) [] (memH h (M.zero b.toNat))) (.ok (.tup [.s .np, .s (.i .i64 1)]) [] h)
 | _,_ => .bad
theorem new_snd : Snd Try.prog 9 (FSpec.of newM):=snd_run (noT_snd _) mixed Try.func9 dc9 100 fun args h K hc hS => by
 unfold newM at hS
 split at hS
 ·rename_i b
  simp only [spec_br,spec_ok,Bool.and_eq_true,decide_eq_true_eq] at hS
  by_cases c1 : b < 11
  ·simp (maxSteps:=9999999) only [EV0,zx,zw,zv,zu,zq,zp,zj,zk,zg,leT,zZ,rvC,zY,zX,zW,zV,↓zU,↓zQ,reduceCtorEq,yz,yy,yY,yx,yw,yv,yu,yq,yp,yX,yj,yk,yg,yW,yV,yU,yZ,yQ,xz,df9,c1]
   exact hS.2 (by simp; omega)
  by_cases c2 : 16 < b
  ·simp (maxSteps:=9999999) only [EV0,zx,zw,zv,zu,zq,zp,zj,zk,zg,leT,zZ,rvC,zY,zX,zW,zV,↓zU,↓zQ,reduceCtorEq,yz,yy,yY,yx,yw,yv,yu,yq,yp,yX,yj,yk,yg,yW,yV,yU,yZ,yQ,xz,df9,c1,c2]
   exact hS.2 (by simp; omega)
  have hS:=hS.1 (by omega)
  obtain ⟨k,rfl⟩ : ∃ k : Nat,b = k:=⟨b.toNat,by omega⟩
  have hk : min k 16 = k:=by omega
  have m1 : min k IntKind.i64.bits = k:=by show min k 64 = _; omega
  have p1:=pow16 k
  rw [hk] at p1
  obtain ⟨p,hp⟩ : ∃ p : Nat,2 ^ k = p:=⟨_,rfl⟩
  rw [hp] at p1
  have c3 : (0 : Int) ≤ k:=by omega
  have w1 : IntKind.i64.wrap (1 * 2 ^ k) = (p : Int):=by
   rw [Int.one_mul,show (2 : Int) ^ k = (p : Int) by rw [← hp]; simp,wrap64] <;> omega
  have c4 : (0 : Int) ≤ (p : Int):=by omega
  have c5 : (p : Int) ≤ 1099511627776:=by omega
  have c6 : (8 : Int) * (p : Int) ≤ 281474976710656:=by omega
  simp (maxSteps:=9999999) only [EV0,zx,zw,zv,zu,zq,zp,zj,zk,zg,leT,zZ,rvC,zY,zX,zW,zV,↓zU,↓zQ,reduceCtorEq,yz,yy,yY,yx,yw,yv,yu,yq,yp,yX,yj,yk,yg,yW,yV,yU,yZ,yQ,xz,df9,c1,c2,c3,m1,w1,c4,Int.le_refl,c5,c6,wc_zeros,put,fillP]
  refine ⟨[1,0],by simp,rfl, ?_⟩
  simp only [getAll,List.getElem?_cons_zero,List.getElem?_cons_succ]
  refine ⟨?_, ?_⟩
  ·simp [S.kept,R.kept,wc_kept]
  ·refine cast (congrArg (K _) ?_) hS
   simp [memH,MB,MW,M.zero,hk,hp,Blk.ren,S.ren,R.prom,List.idxOf,List.findIdx,List.findIdx.go,wc_ren,wc_len,V.ren,C.ren,wc_map]
 ·exact hS.elim
theorem rnew_snd : Snd Try.prog 60 (FSpec.of newM):=snd_run (noT_snd _) mixed Try.func60 dc60 100 fun args h K hc hS => by
 unfold newM at hS
 split at hS
 ·rename_i b
  simp only [spec_br,spec_ok,Bool.and_eq_true,decide_eq_true_eq] at hS
  by_cases c1 : b < 11
  ·simp (maxSteps:=9999999) only [EV0,zx,zw,zv,zu,zq,zp,zj,zk,zg,leT,zZ,rvC,zY,zX,zW,zV,↓zU,↓zQ,reduceCtorEq,yz,yy,yY,yx,yw,yv,yu,yq,yp,yX,yj,yk,yg,yW,yV,yU,yZ,yQ,xz,df60,c1]
   exact hS.2 (by simp; omega)
  by_cases c2 : 16 < b
  ·simp (maxSteps:=9999999) only [EV0,zx,zw,zv,zu,zq,zp,zj,zk,zg,leT,zZ,rvC,zY,zX,zW,zV,↓zU,↓zQ,reduceCtorEq,yz,yy,yY,yx,yw,yv,yu,yq,yp,yX,yj,yk,yg,yW,yV,yU,yZ,yQ,xz,df60,c1,c2]
   exact hS.2 (by simp; omega)
  have hS:=hS.1 (by omega)
  obtain ⟨k,rfl⟩ : ∃ k : Nat,b = k:=⟨b.toNat,by omega⟩
  have hk : min k 16 = k:=by omega
  have m1 : min k IntKind.i64.bits = k:=by show min k 64 = _; omega
  have p1:=pow16 k
  rw [hk] at p1
  obtain ⟨p,hp⟩ : ∃ p : Nat,2 ^ k = p:=⟨_,rfl⟩
  rw [hp] at p1
  have c3 : (0 : Int) ≤ k:=by omega
  have w1 : IntKind.i64.wrap (1 * 2 ^ k) = (p : Int):=by
   rw [Int.one_mul,show (2 : Int) ^ k = (p : Int) by rw [← hp]; simp,wrap64] <;> omega
  have c4 : (0 : Int) ≤ (p : Int):=by omega
  have c5 : (p : Int) ≤ 1099511627776:=by omega
  have c6 : (8 : Int) * (p : Int) ≤ 281474976710656:=by omega
  simp (maxSteps:=9999999) only [EV0,zx,zw,zv,zu,zq,zp,zj,zk,zg,leT,zZ,rvC,zY,zX,zW,zV,↓zU,↓zQ,reduceCtorEq,yz,yy,yY,yx,yw,yv,yu,yq,yp,yX,yj,yk,yg,yW,yV,yU,yZ,yQ,xz,df60,c1,c2,c3,m1,w1,c4,Int.le_refl,c5,c6,wc_zeros,put,fillP]
  refine ⟨[1,0],by simp,rfl, ?_⟩
  simp only [getAll,List.getElem?_cons_zero,List.getElem?_cons_succ]
  refine ⟨?_, ?_⟩
  ·simp [S.kept,R.kept,wc_kept]
  ·refine cast (congrArg (K _) ?_) hS
   simp [memH,MB,MW,M.zero,hk,hp,Blk.ren,S.ren,R.prom,List.idxOf,List.findIdx,List.findIdx.go,wc_ren,wc_len,V.ren,C.ren,wc_map]
 ·exact hS.elim
def wordsM (b : Nat) (m : M) (st : M → List Blk) : List V → Res
 | [] => .ok (.s (.i .i64 m.w.length)) [] (st m)
 | _ => .bad
noncomputable def wordsG:=memF wordsM
theorem mwords_snd : Snd Try.prog 62 (FSpec.of wordsG):=snd_run (noT_snd _) mixed Try.func62 dc62 100 fun args h K hc hS => by
 obtain ⟨a,b,m,rest,rfl,H,hS1⟩:=memF_spec hS
 clear hS
 have hS:=hS1
 clear hS1
 unfold wordsM at hS
 split at hS
 ·simp only [spec_ok,setM_self H] at hS
  simp (maxSteps:=9999999) only [EV0,zx,zw,zv,zu,zq,zp,zj,zk,zg,leT,zZ,rvC,zY,zX,zW,zV,↓zU,↓zQ,reduceCtorEq,yz,yy,yY,yx,yw,yv,yu,yq,yp,yX,yj,yk,yg,yW,yV,yU,yZ,yQ,xz,df62,H.ha,MB]
  exact hS
 ·exact hS.elim

def spanM (b : Nat) (m : M) (st : M → List Blk) : List V → Res
 | [.s (.i .i64 a), .s (.i .i64 k)] => .br (m.has a k) (.ok (.tup [.s (.sl (.g b) (if m.w.length = a.toNat then 0 else a.toNat) k.toNat (m.w.length - a.toNat)), .s (.b true)]) [] (st m)) (.ok (.tup [.s .ns, .s (.b false)]) [] (st m))
 | _ => .bad
noncomputable def spanG:=memF spanM
theorem span_snd : Snd Try.prog 32 (FSpec.of spanG):=snd_run (noT_snd _) mixed Try.func32 dc32 100 fun args h K hc hS => by
 obtain ⟨a,b,m,rest,rfl,H,hS1⟩:=memF_spec hS
 clear hS
 have hS:=hS1
 clear hS1
 unfold spanM at hS
 split at hS
 ·rename_i x k
  simp only [spec_ok,spec_br,setM_self H] at hS
  have hl:=m.l
  cases hh : m.has x k with
  | true =>
   have hS:=hS.1 hh
   obtain ⟨i,j,rfl,rfl,hij⟩:=M.has_nat hh
   have c1 : ¬ ((i : Int) < 0):=by omega
   have c2 : ¬ ((j : Int) < 0):=by omega
   have c3 : ¬ ((m.w.length : Int) < i):=by omega
   have w1 : IntKind.i64.wrap ((m.w.length : Int) - i) = m.w.length - i:=wrap64 (by omega) (by omega)
   have c4 : ¬ ((m.w.length : Int) - i < j):=by omega
   have w2 : IntKind.i64.wrap ((i : Int) + j) = ((i + j : Nat) : Int):=by rw [wrap64] <;> omega
   have c5 : (0 : Int) ≤ i:=by omega
   have c6 : (i : Int) ≤ ((i + j : Nat) : Int):=by omega
   have c7 : ((i + j : Nat) : Int) ≤ m.w.length:=by omega
   have e1 : i + j - i = j:=by omega
   have c8 : 0 ≤ (i : Int) ∧ (i : Int) ≤ ((i + j : Nat) : Int) ∧ ((i + j : Nat) : Int) ≤ m.w.length:=by omega
   simp (maxSteps:=9999999) only [EV0,zx,zw,zv,zu,zq,zp,zj,zk,zg,leT,zZ,rvC,zY,zX,zW,zV,↓zU,↓zQ,reduceCtorEq,yz,yy,yY,yx,yw,yv,yu,yq,yp,yX,yj,yk,yg,yW,yV,yU,yZ,yQ,xz,df32,H.ha,MB,c1,c2,c3,w1,c4,w2,slcR,c5,c6,c7,e1]
   exact hS
  | false =>
   have hS:=hS.2 hh
   have hn:=M.has_not hh
   by_cases c1 : x < 0
   ·simp (maxSteps:=9999999) only [EV0,zx,zw,zv,zu,zq,zp,zj,zk,zg,leT,zZ,rvC,zY,zX,zW,zV,↓zU,↓zQ,reduceCtorEq,yz,yy,yY,yx,yw,yv,yu,yq,yp,yX,yj,yk,yg,yW,yV,yU,yZ,yQ,xz,df32,c1]
    exact hS
   by_cases c2 : k < 0
   ·simp (maxSteps:=9999999) only [EV0,zx,zw,zv,zu,zq,zp,zj,zk,zg,leT,zZ,rvC,zY,zX,zW,zV,↓zU,↓zQ,reduceCtorEq,yz,yy,yY,yx,yw,yv,yu,yq,yp,yX,yj,yk,yg,yW,yV,yU,yZ,yQ,xz,df32,c1,c2]
    exact hS
   by_cases c3 : (m.w.length : Int) < x
   ·simp (maxSteps:=9999999) only [EV0,zx,zw,zv,zu,zq,zp,zj,zk,zg,leT,zZ,rvC,zY,zX,zW,zV,↓zU,↓zQ,reduceCtorEq,yz,yy,yY,yx,yw,yv,yu,yq,yp,yX,yj,yk,yg,yW,yV,yU,yZ,yQ,xz,df32,H.ha,MB,c1,c2,c3]
    exact hS
   have w1 : IntKind.i64.wrap ((m.w.length : Int) - x) = m.w.length - x:=wrap64 (by omega) (by omega)
   have c4 : (m.w.length : Int) - x < k:=by omega
   simp (maxSteps:=9999999) only [EV0,zx,zw,zv,zu,zq,zp,zj,zk,zg,leT,zZ,rvC,zY,zX,zW,zV,↓zU,↓zQ,reduceCtorEq,yz,yy,yY,yx,yw,yv,yu,yq,yp,yX,yj,yk,yg,yW,yV,yU,yZ,yQ,xz,df32,H.ha,MB,c1,c2,c3,w1,c4]
   exact hS
 ·exact hS.elim

def thereM (b : Nat) (m : M) (st : M → List Blk) : List V → Res
 | [.s (.i .i64 a), .s (.i .i64 k)] => .ok (.s (.b (m.has a k))) [] (st m)
 | _ => .bad
noncomputable def thereG:=memF thereM
theorem rthere_snd : Snd Try.prog 90 (FSpec.of thereG):=snd_run (noT_snd _) mixed Try.func90 dc90 100 fun args h K hc hS => by
 obtain ⟨a,b,m,rest,rfl,H,hS1⟩:=memF_spec hS
 clear hS
 have hS:=hS1
 clear hS1
 unfold thereM at hS
 split at hS
 ·rename_i x k
  simp only [spec_ok,setM_self H] at hS
  have hl:=m.l
  cases hh : m.has x k with
  | true =>
   rw [hh] at hS
   obtain ⟨i,j,rfl,rfl,hij⟩:=M.has_nat hh
   have w1 : IntKind.i64.wrap ((m.w.length : Int) - i) = m.w.length - i:=wrap64 (by omega) (by omega)
   have c1 : (0 : Int) ≤ i:=by omega
   have c2 : (0 : Int) ≤ j:=by omega
   have c3 : (i : Int) ≤ m.w.length:=by omega
   have c4 : (j : Int) ≤ (m.w.length : Int) - i:=by omega
   simp (maxSteps:=9999999) only [EV0,zx,zw,zv,zu,zq,zp,zj,zk,zg,leT,zZ,rvC,zY,zX,zW,zV,↓zU,↓zQ,reduceCtorEq,yz,yy,yY,yx,yw,yv,yu,yq,yp,yX,yj,yk,yg,yW,yV,yU,yZ,yQ,xz,df90,H.ha,MB,c1,c2,c3,w1,c4]
   exact hS
  | false =>
   rw [hh] at hS
   have hn:=M.has_not hh
   by_cases c1 : 0 ≤ x
   ·by_cases c2 : 0 ≤ k
    ·by_cases c3 : x ≤ m.w.length
     ·have w1 : IntKind.i64.wrap ((m.w.length : Int) - x) = m.w.length - x:=wrap64 (by omega) (by omega)
      have c4 : ¬ (k ≤ (m.w.length : Int) - x):=by omega
      simp (maxSteps:=9999999) only [EV0,zx,zw,zv,zu,zq,zp,zj,zk,zg,leT,zZ,rvC,zY,zX,zW,zV,↓zU,↓zQ,reduceCtorEq,yz,yy,yY,yx,yw,yv,yu,yq,yp,yX,yj,yk,yg,yW,yV,yU,yZ,yQ,xz,df90,H.ha,MB,c1,c2,c3,w1,c4]
      exact hS
     ·simp (maxSteps:=9999999) only [EV0,zx,zw,zv,zu,zq,zp,zj,zk,zg,leT,zZ,rvC,zY,zX,zW,zV,↓zU,↓zQ,reduceCtorEq,yz,yy,yY,yx,yw,yv,yu,yq,yp,yX,yj,yk,yg,yW,yV,yU,yZ,yQ,xz,df90,H.ha,MB,c1,c2,c3]
      exact hS
    ·simp (maxSteps:=9999999) only [EV0,zx,zw,zv,zu,zq,zp,zj,zk,zg,leT,zZ,rvC,zY,zX,zW,zV,↓zU,↓zQ,reduceCtorEq,yz,yy,yY,yx,yw,yv,yu,yq,yp,yX,yj,yk,yg,yW,yV,yU,yZ,yQ,xz,df90,H.ha,MB,c1,c2]
     exact hS
   ·simp (maxSteps:=9999999) only [EV0,zx,zw,zv,zu,zq,zp,zj,zk,zg,leT,zZ,rvC,zY,zX,zW,zV,↓zU,↓zQ,reduceCtorEq,yz,yy,yY,yx,yw,yv,yu,yq,yp,yX,yj,yk,yg,yW,yV,yU,yZ,yQ,xz,df90,H.ha,MB,c1]
    exact hS
 ·exact hS.elim

theorem IsMem.hb' {h : List Blk} {a b : Nat} {m : M} (H : IsMem h a b m) (B : Blk) : (h.set a B)[b]? = some (MW m):=by rw [set_miss H.ne]; exact H.hb
theorem IsMem.ha' {h : List Blk} {a b : Nat} {m : M} (H : IsMem h a b m) (B : Blk) : (h.set b B)[a]? = some (MB b m):=by rw [set_miss (Ne.symm H.ne)]; exact H.ha

noncomputable def TSp : Tab:=addT 32 spanG (addT 90 thereG noT)
theorem TSp_snd : TSp.Snd Try.prog:=addT_snd ok32 span_snd (addT_snd ok90 rthere_snd (noT_snd _))

def readM (b : Nat) (m : M) (st : M → List Blk) : List V → Res
 | [.s (.i .i64 x)] => .br (m.has x 1) (.ok (.tup [.s (.i .u64 (m.at x)), .s (.i .i64 0)]) [] (st (m.tick 1))) (.ok (.tup [.s (.i .u64 0), .s (.i .i64 20)]) [] (st m))
 | _ => .bad
noncomputable def readG:=memF readM
theorem mread_snd : Snd Try.prog 56 (FSpec.of readG):=snd_run TSp_snd mixed Try.func56 dc56 100 fun args h K hc hS => by
 obtain ⟨a,b,m,rest,rfl,H,hS1⟩:=memF_spec hS
 clear hS
 have hS:=hS1
 clear hS1
 unfold readM at hS
 split at hS
 ·rename_i x
  simp only [spec_ok,spec_br,setM_self H] at hS
  rw [← setM_steps H (m':=m.tick 1) rfl] at hS
  cases hh : m.has x 1 with
  | true =>
   have hS:=hS.1 hh
   obtain ⟨i,j,rfl,e,hij⟩:=M.has_nat hh
   have c1 : ¬ (m.w.length = i):=by omega
   have c2 : (0 : Int) ≤ i ∧ (i : Int) < m.w.length:=by omega
   have g:=wc_get (w:=m.w) (i:=i) (by omega)
   simp (maxSteps:=9999999) only [EV0,zx,zw,zv,zu,zq,zp,zj,zk,zg,leT,zZ,rvC,zY,zX,zW,zV,↓zU,↓zQ,reduceCtorEq,yz,yy,yY,yx,yw,yv,yu,yq,yp,yX,yj,yk,yg,yW,yV,yU,yZ,yQ,xz,df56,TSp,spanG,thereG,memF_eq H,spanM,thereM,setM_self H,hh,c1,c2,H.ha,H.hb,H.hb',MB,MW,g,Int.toNat_natCast,set_hit H.ha]
   exact hS
  | false =>
   have hS:=hS.2 hh
   simp (maxSteps:=9999999) only [EV0,zx,zw,zv,zu,zq,zp,zj,zk,zg,leT,zZ,rvC,zY,zX,zW,zV,↓zU,↓zQ,reduceCtorEq,yz,yy,yY,yx,yw,yv,yu,yq,yp,yX,yj,yk,yg,yW,yV,yU,yZ,yQ,xz,df56,TSp,spanG,thereG,memF_eq H,spanM,thereM,setM_self H,hh]
   exact hS
 ·exact hS.elim
theorem rread_snd : Snd Try.prog 76 (FSpec.of readG):=snd_run TSp_snd mixed Try.func76 dc76 100 fun args h K hc hS => by
 obtain ⟨a,b,m,rest,rfl,H,hS1⟩:=memF_spec hS
 clear hS
 have hS:=hS1
 clear hS1
 unfold readM at hS
 split at hS
 ·rename_i x
  simp only [spec_ok,spec_br,setM_self H] at hS
  rw [← setM_steps H (m':=m.tick 1) rfl] at hS
  cases hh : m.has x 1 with
  | true =>
   have hS:=hS.1 hh
   obtain ⟨i,j,rfl,e,hij⟩:=M.has_nat hh
   have c1 : ¬ (m.w.length = i):=by omega
   have c2 : (0 : Int) ≤ i ∧ (i : Int) < m.w.length:=by omega
   have g:=wc_get (w:=m.w) (i:=i) (by omega)
   simp (maxSteps:=9999999) only [EV0,zx,zw,zv,zu,zq,zp,zj,zk,zg,leT,zZ,rvC,zY,zX,zW,zV,↓zU,↓zQ,reduceCtorEq,yz,yy,yY,yx,yw,yv,yu,yq,yp,yX,yj,yk,yg,yW,yV,yU,yZ,yQ,xz,df76,TSp,spanG,thereG,memF_eq H,spanM,thereM,setM_self H,hh,c1,c2,H.ha,H.hb,H.hb',MB,MW,g,Int.toNat_natCast,set_hit H.ha]
   exact hS
  | false =>
   have hS:=hS.2 hh
   simp (maxSteps:=9999999) only [EV0,zx,zw,zv,zu,zq,zp,zj,zk,zg,leT,zZ,rvC,zY,zX,zW,zV,↓zU,↓zQ,reduceCtorEq,yz,yy,yY,yx,yw,yv,yu,yq,yp,yX,yj,yk,yg,yW,yV,yU,yZ,yQ,xz,df76,TSp,spanG,thereG,memF_eq H,spanM,thereM,setM_self H,hh]
   exact hS
 ·exact hS.elim

def fillM (b : Nat) (m : M) (st : M → List Blk) : List V → Res
 | [.s (.i .i64 x), .s (.i .i64 k), .s (.i .u64 v)] => .ob (u64 v) (.br (m.has x k) (.ok (.s (.i .i64 0)) [] (st ((m.fill x.toNat v k.toNat).tick k))) (.ok (.s (.i .i64 20)) [] (st m)))
 | _ => .bad
noncomputable def fillG:=memF fillM
theorem mfill_snd : Snd Try.prog 88 (FSpec.of fillG):=snd_run TSp_snd mixed Try.func88 dc88 100 fun args h K hc hS => by
 obtain ⟨a,b,m,rest,rfl,H,hS1⟩:=memF_spec hS
 clear hS
 have hS:=hS1
 clear hS1
 unfold fillM at hS
 split at hS
 ·rename_i x k v
  simp only [spec_ob,spec_ok,spec_br,setM_self H] at hS
  obtain ⟨hv,hS⟩:=hS
  cases hh : m.has x k with
  | true =>
   have hS:=hS.1 hh
   obtain ⟨i,j,rfl,rfl,hij⟩:=M.has_nat hh
   simp only [Int.toNat_natCast] at hS
   have hl:=m.l
   obtain ⟨o,ho,hoi⟩ : ∃ o : Nat,(if m.w.length = i then 0 else i) = o ∧ (i < m.w.length → o = i):=⟨_,rfl,fun hlt => if_neg (by omega)⟩
   simp (maxSteps:=9999999) only [EV0,zx,zw,zv,zu,zq,zp,zj,zk,zg,leT,zZ,rvC,zY,zX,zW,zV,↓zU,↓zQ,reduceCtorEq,yz,yy,yY,yx,yw,yv,yu,yq,yp,yX,yj,yk,yg,yW,yV,yU,yZ,yQ,xz,df88,TSp,spanG,memF_eq H,spanM,setM_self H,hh,Int.toNat_natCast,ho]
   refine loop_rule (α:=Nat) [11,23,24,25,26,27,28,29,30] (fun q => [(23, .s (.i .i64 q))]) (fun _ => []) (fun q => h.set b ⟨.rw,wc (m.fill i v q).w,m.w.length⟩) (fun q => q ≤ j) (fun q => j - q) 0 (by omega) ?_ ?_
   ·simp only [M.fill]
    rw [show (⟨.rw,wc m.w,m.w.length⟩ : Blk) = MW m from rfl,set_self H.hb]
    refine Wk.less ?_
    simp (maxSteps:=9999999) only [EV0,zx,zw,zv,zu,zq,zp,zj,zk,zg,leT,zZ,rvC,zY,zX,zW,zV,↓zU,↓zQ,reduceCtorEq,yz,yy,yY,yx,yw,yv,yu,yq,yp,yX,yj,yk,yg,yW,yV,yU,yZ,yQ,xz,q_cast,Int.natCast_zero]
   ·rintro X q hq IH
    rcases Nat.lt_or_ge q j with h1 | h1
    ·obtain ⟨d1,d2,d3,d4⟩:=idx h1 (by omega)
     have c1:=(hoi (by omega)).symm
     subst c1
     have c3 : (h.set b ⟨BK.rw,wc (m.fill i v q).w,m.w.length⟩)[b]? = some ⟨BK.rw,wc (m.fill i v q).w,m.w.length⟩:=set_hit H.hb
     have c4 : i + q + 1 ≤ (wc (m.fill i v q).w).length:=by rw [wc_len,M.fill_len]; omega
     have c5 : ((wc (m.fill i v q).w).set (i + q) (S.i .u64 v)) = wc (m.fill i v (q + 1)).w:=by rw [wc_set]; simp only [M.fill,M.put,uw_of hv]
     refine run_sound (Tab.ok_Γ _) 100 _ _ _ _ ?_
     simp (maxSteps:=9999999) only [EV0,zx,zw,zv,zu,zq,zp,zj,zk,zg,leT,zZ,rvC,zY,zX,zW,zV,↓zU,↓zQ,reduceCtorEq,yz,yy,yY,yx,yw,yv,yu,yq,yp,yX,yj,yk,yg,yW,yV,yU,yZ,yQ,xz,d1,d2,d3,d4,c3,MW,c4,Int.toNat_natCast,put,c5,List.set_set]
     exact IH (q + 1) _ (by omega) (by omega) (Wk.same rfl rfl (by simp (maxSteps:=9999999) only [EV0,zx,zw,zv,zu,zq,zp,zj,zk,zg,leT,zZ,rvC,zY,zX,zW,zV,↓zU,↓zQ,reduceCtorEq,yz,yy,yY,yx,yw,yv,yu,yq,yp,yX,yj,yk,yg,yW,yV,yU,yZ,yQ,xz]))
    ·have : q = j:=by omega
     subst this
     have ha:=H.ha'
     refine run_sound (Tab.ok_Γ _) 100 _ _ _ _ ?_
     simp (maxSteps:=9999999) only [EV0,zx,zw,zv,zu,zq,zp,zj,zk,zg,leT,zZ,rvC,zY,zX,zW,zV,↓zU,↓zQ,reduceCtorEq,yz,yy,yY,yx,yw,yv,yu,yq,yp,yX,yj,yk,yg,yW,yV,yU,yZ,yQ,xz,Int.lt_irrefl,ha,MB]
     refine cast (congrArg (K _) ?_) hS
     simp only [setM]
     rw [List.set_comm _ _ H.ne]
     simp only [MW,MB,M.tick,M.fill_len,M.fill_n]
  | false =>
   have hS:=hS.2 hh
   simp (maxSteps:=9999999) only [EV0,zx,zw,zv,zu,zq,zp,zj,zk,zg,leT,zZ,rvC,zY,zX,zW,zV,↓zU,↓zQ,reduceCtorEq,yz,yy,yY,yx,yw,yv,yu,yq,yp,yX,yj,yk,yg,yW,yV,yU,yZ,yQ,xz,df88,TSp,spanG,memF_eq H,spanM,setM_self H,hh]
   exact hS
 ·exact hS.elim

def writeM (b : Nat) (m : M) (st : M → List Blk) : List V → Res
 | [.s (.i .i64 x), .s (.i .u64 v)] => .ob (u64 v) (.br (m.has x 1) (.ok (.s (.i .i64 0)) [] (st ((m.put x.toNat v).tick 1))) (.ok (.s (.i .i64 20)) [] (st m)))
 | _ => .bad
noncomputable def writeG:=memF writeM
noncomputable def TFi : Tab:=addT 88 fillG noT
theorem TFi_snd : TFi.Snd Try.prog:=addT_snd ok88 mfill_snd (noT_snd _)
theorem mwrite_snd : Snd Try.prog 69 (FSpec.of writeG):=snd_run TFi_snd mixed Try.func69 dc69 100 fun args h K hc hS => by
 obtain ⟨a,b,m,rest,rfl,H,hS1⟩:=memF_spec hS
 clear hS
 have hS:=hS1
 clear hS1
 unfold writeM at hS
 split at hS
 ·rename_i x v
  simp only [spec_ob,spec_ok,spec_br,setM_self H] at hS
  obtain ⟨hv,hS⟩:=hS
  cases hh : m.has x 1 with
  | true =>
   have hS:=hS.1 hh
   simp (maxSteps:=9999999) only [EV0,zx,zw,zv,zu,zq,zp,zj,zk,zg,leT,zZ,rvC,zY,zX,zW,zV,↓zU,↓zQ,reduceCtorEq,yz,yy,yY,yx,yw,yv,yu,yq,yp,yX,yj,yk,yg,yW,yV,yU,yZ,yQ,xz,df69,TFi,fillG,memF_eq H,fillM,setM_self H,hh,hv,M.fill]
   exact hS
  | false =>
   have hS:=hS.2 hh
   simp (maxSteps:=9999999) only [EV0,zx,zw,zv,zu,zq,zp,zj,zk,zg,leT,zZ,rvC,zY,zX,zW,zV,↓zU,↓zQ,reduceCtorEq,yz,yy,yY,yx,yw,yv,yu,yq,yp,yX,yj,yk,yg,yW,yV,yU,yZ,yQ,xz,df69,TFi,fillG,memF_eq H,fillM,setM_self H,hh,hv,M.fill]
   exact hS
 ·exact hS.elim
theorem rwrite_snd : Snd Try.prog 80 (FSpec.of writeG):=snd_run TSp_snd mixed Try.func80 dc80 100 fun args h K hc hS => by
 obtain ⟨a,b,m,rest,rfl,H,hS1⟩:=memF_spec hS
 clear hS
 have hS:=hS1
 clear hS1
 unfold writeM at hS
 split at hS
 ·rename_i x v
  simp only [spec_ob,spec_ok,spec_br,setM_self H] at hS
  obtain ⟨hv,hS⟩:=hS
  cases hh : m.has x 1 with
  | true =>
   have hS:=hS.1 hh
   obtain ⟨i,j,rfl,e,hij⟩:=M.has_nat hh
   have c2 : (0 : Int) ≤ i ∧ (i : Int) < m.w.length:=by omega
   have c4 : i + 1 ≤ (wc m.w).length:=by rw [wc_len]; omega
   simp (maxSteps:=9999999) only [EV0,zx,zw,zv,zu,zq,zp,zj,zk,zg,leT,zZ,rvC,zY,zX,zW,zV,↓zU,↓zQ,reduceCtorEq,yz,yy,yY,yx,yw,yv,yu,yq,yp,yX,yj,yk,yg,yW,yV,yU,yZ,yQ,xz,df80,TSp,thereG,memF_eq H,thereM,setM_self H,hh,c2,H.ha,H.hb,H.ha',H.hb',MB,MW,put,wc_set,Int.toNat_natCast,c4,set_hit H.ha]
   refine cast (congrArg (K _) ?_) hS
   simp only [setM,MW,MB,M.tick,M.put,List.length_set,uw_of hv,Int.toNat_natCast]
  | false =>
   have hS:=hS.2 hh
   simp (maxSteps:=9999999) only [EV0,zx,zw,zv,zu,zq,zp,zj,zk,zg,leT,zZ,rvC,zY,zX,zW,zV,↓zU,↓zQ,reduceCtorEq,yz,yy,yY,yx,yw,yv,yu,yq,yp,yX,yj,yk,yg,yW,yV,yU,yZ,yQ,xz,df80,TSp,thereG,memF_eq H,thereM,setM_self H,hh]
   exact hS
 ·exact hS.elim
end Go.Proofs.Ytcdfofeolgbnbaa

/- The machine's memory: what is read behind a write. -/
namespace Go.Proofs.Ytcdfofeolgbnbaa
open Go.D
set_option linter.all false
set_option maxRecDepth 100000
set_option maxHeartbeats 4000000

theorem nth_set {α : Type} {d : α} : ∀ (l : List α) (i j : Nat) (x : α),nth d (l.set i x) j = if i = j ∧ i < l.length then x else nth d l j
 | [],i,j,x => by simp [nth]
 | y :: l,0,0,x => by simp [nth]
 | y :: l,0,j + 1,x => by simp [nth]
 | y :: l,i + 1,0,x => by simp [nth]
 | y :: l,i + 1,j + 1,x => by simp [nth,nth_set l i j x]
theorem nth_replicate {α : Type} {d : α} {n i : Nat} : nth d (List.replicate n d) i = d:=by
 induction n generalizing i with
 | zero => rfl
 | succ n ih => cases i with
  | zero => rfl
  | succ i => exact ih
theorem M.at_put (m : M) (i : Nat) (x : Int) (j : Int) : (m.put i x).at j = if i = j.toNat ∧ i < m.w.length then uw x else m.at j:=by
 simp only [M.at,M.put,nth_set]
theorem M.at_tick (m : M) (k j : Int) : (m.tick k).at j = m.at j:=rfl
theorem M.at_zero (k : Nat) (j : Int) : (M.zero k).at j = 0:=by simp only [M.at,M.zero,nth_replicate]
theorem M.has_of {m : M} {a k : Int} (h : 0 ≤ a ∧ 0 ≤ k ∧ a + k ≤ m.w.length) : m.has a k = true:=by rw [M.has_iff]; omega
end Go.Proofs.Ytcdfofeolgbnbaa

/- Package slots: which slots may be,where. -/
namespace Go.Proofs.Ytcdfofeolgbnbaa
open Go.D
open Nat (reduceAdd reducePow reduceMul reduceSub reduceLeDiff reduceLT reduceEqDiff)
open Int (reduceNeg reduceLE reduceEq reduceNe reduceToNat)
open Go.D renaming istep → zx,pickR → zw,bin1R → zv,un1R → zu,eqS → zq,eq1 → zp,cmpS → zj,cmp1 → zk,isNil → zg,shows → zZ,result → zY,q_cond_t → zU,q_cond_f → zQ
open List renaming set → zX,replicate → zW
open Option renaming map → zV
open Nat renaming reduceAdd → yz,reducePow → yy,reduceMul → yx,reduceSub → yw,reduceLeDiff → yv,reduceLT → yu,reduceEqDiff → yq
open Int renaming reduceNeg → yp,reduceLE → yj,reduceEq → yk,reduceNe → yg,reduceToNat → yZ,reducePow → yY,reduceLT → yX,reduceAdd → yW,reduceSub → yV,reduceMul → yU,reduceBEq → yQ,reduceBNe → xz
set_option linter.all false
set_option maxRecDepth 100000
set_option maxHeartbeats 4000000

structure Slot where
 cap : Cap
 prev : Int
 next : Int
 depth : Int
def Slot.cl (s : Slot) : List S:=[.i .i64 s.cap.ty, .i .i64 s.cap.obj, .i .i64 s.cap.bits, .i .i64 s.cap.mark, .i .i64 s.cap.guard, .i .i64 s.cap.gbits, .i .i64 s.cap.badge, .i .i64 s.cap.rights, .i .i64 s.cap.asid, .i .i64 s.cap.vaddr, .i .i64 s.cap.line,
 .i .i64 s.prev, .i .i64 s.next, .i .i64 s.depth]
def slotZ : Slot:=⟨capZ,0,0,0⟩
def slotF (f : Slot → Res) : List V → Res
 | [.agg [.i .i64 a, .i .i64 b, .i .i64 c, .i .i64 d, .i .i64 e, .i .i64 g, .i .i64 i, .i .i64 j, .i .i64 k, .i .i64 l, .i .i64 m, .i .i64 p, .i .i64 n, .i .i64 q]] => f ⟨⟨a,b,c,d,e,g,i,j,k,l,m⟩,p,n,q⟩
 | _ => .bad
theorem slotF_spec {f : Slot → Res} {args : List V} {K : V → List Blk → Prop} (h : (slotF f args).spec K) : ∃ s : Slot,args = [.agg s.cl] ∧ (f s).spec K:=by
 unfold slotF at h
 split at h
 ·exact ⟨_,rfl,h⟩
 ·exact h.elim
theorem slot_eta (s : Slot) : (⟨⟨s.cap.ty,s.cap.obj,s.cap.bits,s.cap.mark,s.cap.guard,s.cap.gbits,s.cap.badge,s.cap.rights,s.cap.asid,s.cap.vaddr,s.cap.line⟩,s.prev,s.next,s.depth⟩ : Slot) = s:=rfl

def linkB (n : Int) : Bool:=decide (0 ≤ n) && (decide (n < 65536) && n.tmod 4 == 0)
def linkG : List V → List Blk → Res
 | [.s (.i .i64 n)],h => .ok (.s (.b (linkB n))) [] h
 | _,_ => .bad
theorem link_snd : Snd Try.prog 83 (FSpec.of linkG):=snd_run (noT_snd _) mixed Try.func83 dc83 100 fun args h K hc hS => by
 unfold linkG at hS
 split at hS
 ·simp only [spec_ok,linkB] at hS
  simp (maxSteps:=9999999) only [EV0,zx,zw,zv,zu,zq,zp,zj,zk,zg,leT,zZ,rvC,zY,zX,zW,zV,↓zU,↓zQ,reduceCtorEq,yz,yy,yY,yx,yw,yv,yu,yq,yp,yX,yj,yk,yg,yW,yV,yU,yZ,yQ,xz,df83,Bool.and_assoc]
  exact hS
 ·exact hS.elim
theorem link_ref (n : Int) : (decide (0 ≤ n) && (decide (n ≤ 65532) && n.tmod 4 == 0)) = linkB n:=by
 unfold linkB
 by_cases h : 0 ≤ n
 ·rw [Int.tmod_eq_emod_of_nonneg h,Bool.eq_iff_iff]
  simp only [Bool.and_eq_true,decide_eq_true_eq,beq_iff_eq]
  omega
 ·simp [h]
theorem rlink_snd : Snd Try.prog 92 (FSpec.of linkG):=snd_run (noT_snd _) mixed Try.func92 dc92 100 fun args h K hc hS => by
 unfold linkG at hS
 split at hS
 ·simp only [spec_ok,← link_ref] at hS
  simp (maxSteps:=9999999) only [EV0,zx,zw,zv,zu,zq,zp,zj,zk,zg,leT,zZ,rvC,zY,zX,zW,zV,↓zU,↓zQ,reduceCtorEq,yz,yy,yY,yx,yw,yv,yu,yq,yp,yX,yj,yk,yg,yW,yV,yU,yZ,yQ,xz,df92,Bool.and_assoc]
  exact hS
 ·exact hS.elim

def Slot.isZ (s : Slot) : Bool:=s.cap.ty == 0 && (s.cap.obj == 0 && (s.cap.bits == 0 && (s.cap.mark == 0 && (s.cap.guard == 0 && (s.cap.gbits == 0 && (s.cap.badge == 0 && (s.cap.rights == 0 && (s.cap.asid == 0 && (s.cap.vaddr == 0 && (s.cap.line == 0 && (s.prev == 0 && (s.next == 0 && s.depth == 0))))))))))))
theorem Slot.isZ_iff {s : Slot} : s.isZ = true ↔ s = slotZ:=by
 obtain ⟨⟨t,o,b,d,e,g,i,j,k,l,m⟩,p,n,q⟩:=s
 simp [Slot.isZ,slotZ,capZ,Bool.and_eq_true,and_assoc]
def slotRB (s : Slot) : Bool:=!(s.cap.ty == 0 && !s.isZ) && (rightB s.cap && (linkB s.prev && (linkB s.next && (decide (0 ≤ s.depth) && decide (s.depth < 65536)))))
def slotRG (args : List V) (h : List Blk) : Res:=slotF (fun s => .ok (.s (.b (slotRB s))) [] h) args
def TSr : Tab:=addT 83 linkG (addT 81 rightG (addT 92 linkG (addT 91 rightG noT)))
theorem TSr_snd : TSr.Snd Try.prog:=addT_snd ok83 link_snd (addT_snd ok81 right_snd (addT_snd ok92 rlink_snd (addT_snd ok91 rright_snd (noT_snd _))))
theorem slotR_snd : Snd Try.prog 59 (FSpec.of slotRG):=snd_run TSr_snd mixed Try.func59 dc59 200 fun args h K hc hS => by
 obtain ⟨s,rfl,hR⟩:=slotF_spec hS
 clear hS
 simp only [spec_ok] at hR
 obtain ⟨c,p,n,q⟩:=s
 have hR : K (.s (.b (!(c.ty == 0 && !(Slot.mk c p n q).isZ) && (rightB c && (linkB p && (linkB n && (decide (0 ≤ q) && decide (q < 65536)))))))) h:=hR
 have ez : (c.ty == 0 && (c.obj == 0 && (c.bits == 0 && (c.mark == 0 && (c.guard == 0 && (c.gbits == 0 && (c.badge == 0 && (c.rights == 0 && (c.asid == 0 && (c.vaddr == 0 && (c.line == 0 && (p == 0 && (n == 0 && q == 0))))))))))))) = (Slot.mk c p n q).isZ:=rfl
 simp only [Slot.cl]
 by_cases h0 : c.ty = 0
 ·have hne : (c.ty != 0) = false:=by simp [h0]
  cases hz : (Slot.mk c p n q).isZ <;> cases hr : rightB c <;> cases hp : linkB p <;> cases hn : linkB n
  all_goals simp only [hz,hr,hp,hn,h0,beq_self_eq_true,Bool.not_true,Bool.not_false,Bool.true_and,Bool.and_true,Bool.false_and,Bool.and_false] at hR
  all_goals by_cases hq : q < 0
  all_goals (try have hq1 : ¬ 0 ≤ q:=by omega)
  all_goals (try have hq1 : 0 ≤ q:=by omega)
  all_goals by_cases hq2 : 65535 < q
  all_goals try (exfalso; omega)
  all_goals (try have hq3 : ¬ q < 65536:=by omega)
  all_goals (try have hq3 : q < 65536:=by omega)
  all_goals try simp only [hq1,hq3,decide_true,decide_false,Bool.true_and,Bool.and_true,Bool.false_and,Bool.and_false] at hR
  all_goals (simp (maxSteps:=9999999) only [EV0,zx,zw,zv,zu,zq,zp,zj,zk,zg,leT,zZ,rvC,zY,zX,zW,zV,↓zU,↓zQ,reduceCtorEq,yz,yy,yY,yx,yw,yv,yu,yq,yp,yX,yj,yk,yg,yW,yV,yU,yZ,yQ,xz,df59,TSr,linkG,rightG,capF,cap_eta,ez,hne,hz,hr,hp,hn,hq,hq1,hq2,hq3,put,fillP,sub,EVt])
  all_goals first | exact hR | exact ⟨fun _ => hR,fun _ => hR⟩ | exact ⟨fun _ => hR,fun x => absurd h0 x⟩
 ·have h1 : (c.ty == 0) = false:=by simpa using h0
  have hne : (c.ty != 0) = true:=by simpa using h0
  cases hr : rightB c <;> cases hp : linkB p <;> cases hn : linkB n
  all_goals simp only [hr,hp,hn,h1,Bool.not_true,Bool.not_false,Bool.true_and,Bool.and_true,Bool.false_and,Bool.and_false] at hR
  all_goals by_cases hq : q < 0
  all_goals (try have hq1 : ¬ 0 ≤ q:=by omega)
  all_goals (try have hq1 : 0 ≤ q:=by omega)
  all_goals by_cases hq2 : 65535 < q
  all_goals try (exfalso; omega)
  all_goals (try have hq3 : ¬ q < 65536:=by omega)
  all_goals (try have hq3 : q < 65536:=by omega)
  all_goals try simp only [hq1,hq3,decide_true,decide_false,Bool.true_and,Bool.and_true,Bool.false_and,Bool.and_false] at hR
  all_goals (simp (maxSteps:=9999999) only [EV0,zx,zw,zv,zu,zq,zp,zj,zk,zg,leT,zZ,rvC,zY,zX,zW,zV,↓zU,↓zQ,reduceCtorEq,yz,yy,yY,yx,yw,yv,yu,yq,yp,yX,yj,yk,yg,yW,yV,yU,yZ,yQ,xz,df59,TSr,linkG,rightG,capF,cap_eta,h0,h1,hne,hr,hp,hn,hq,hq1,hq2,hq3,put,fillP,sub,EVt])
  all_goals exact hR
theorem rslotR_snd : Snd Try.prog 78 (FSpec.of slotRG):=snd_run TSr_snd mixed Try.func78 dc78 200 fun args h K hc hS => by
 obtain ⟨s,rfl,hR⟩:=slotF_spec hS
 clear hS
 simp only [spec_ok] at hR
 obtain ⟨c,p,n,q⟩:=s
 have hR : K (.s (.b (!(c.ty == 0 && !(Slot.mk c p n q).isZ) && (rightB c && (linkB p && (linkB n && (decide (0 ≤ q) && decide (q < 65536)))))))) h:=hR
 have ez : (c.ty == 0 && (c.obj == 0 && (c.bits == 0 && (c.mark == 0 && (c.guard == 0 && (c.gbits == 0 && (c.badge == 0 && (c.rights == 0 && (c.asid == 0 && (c.vaddr == 0 && (c.line == 0 && (p == 0 && (n == 0 && q == 0))))))))))))) = (Slot.mk c p n q).isZ:=rfl
 simp only [Slot.cl]
 by_cases h0 : c.ty = 0
 ·have hne : (c.ty != 0) = false:=by simp [h0]
  cases hz : (Slot.mk c p n q).isZ <;> cases hr : rightB c <;> cases hp : linkB p <;> cases hn : linkB n
  all_goals simp only [hz,hr,hp,hn,h0,beq_self_eq_true,Bool.not_true,Bool.not_false,Bool.true_and,Bool.and_true,Bool.false_and,Bool.and_false] at hR
  all_goals by_cases hq : q < 0
  all_goals (try have hq1 : ¬ 0 ≤ q:=by omega)
  all_goals (try have hq1 : 0 ≤ q:=by omega)
  all_goals by_cases hq2 : 65535 < q
  all_goals try (exfalso; omega)
  all_goals (try have hq3 : ¬ q < 65536:=by omega)
  all_goals (try have hq3 : q < 65536:=by omega)
  all_goals try simp only [hq1,hq3,decide_true,decide_false,Bool.true_and,Bool.and_true,Bool.false_and,Bool.and_false] at hR
  all_goals (simp (maxSteps:=9999999) only [EV0,zx,zw,zv,zu,zq,zp,zj,zk,zg,leT,zZ,rvC,zY,zX,zW,zV,↓zU,↓zQ,reduceCtorEq,yz,yy,yY,yx,yw,yv,yu,yq,yp,yX,yj,yk,yg,yW,yV,yU,yZ,yQ,xz,df78,TSr,linkG,rightG,capF,cap_eta,ez,hne,hz,hr,hp,hn,hq,hq1,hq2,hq3,put,fillP,sub,EVt])
  all_goals first | exact hR | exact ⟨fun _ => hR,fun _ => hR⟩ | exact ⟨fun _ => hR,fun x => absurd h0 x⟩
 ·have h1 : (c.ty == 0) = false:=by simpa using h0
  have hne : (c.ty != 0) = true:=by simpa using h0
  cases hr : rightB c <;> cases hp : linkB p <;> cases hn : linkB n
  all_goals simp only [hr,hp,hn,h1,Bool.not_true,Bool.not_false,Bool.true_and,Bool.and_true,Bool.false_and,Bool.and_false] at hR
  all_goals by_cases hq : q < 0
  all_goals (try have hq1 : ¬ 0 ≤ q:=by omega)
  all_goals (try have hq1 : 0 ≤ q:=by omega)
  all_goals by_cases hq2 : 65535 < q
  all_goals try (exfalso; omega)
  all_goals (try have hq3 : ¬ q < 65536:=by omega)
  all_goals (try have hq3 : q < 65536:=by omega)
  all_goals try simp only [hq1,hq3,decide_true,decide_false,Bool.true_and,Bool.and_true,Bool.false_and,Bool.and_false] at hR
  all_goals (simp (maxSteps:=9999999) only [EV0,zx,zw,zv,zu,zq,zp,zj,zk,zg,leT,zZ,rvC,zY,zX,zW,zV,↓zU,↓zQ,reduceCtorEq,yz,yy,yY,yx,yw,yv,yu,yq,yp,yX,yj,yk,yg,yW,yV,yU,yZ,yQ,xz,df78,TSr,linkG,rightG,capF,cap_eta,h0,h1,hne,hr,hp,hn,hq,hq1,hq2,hq3,put,fillP,sub,EVt])
  all_goals exact hR

def thereB (m : M) (a : Int) : Bool:=decide (4 ≤ a) && (a.tmod 4 == 0 && decide (a ≤ m.w.length - 4))
def sthereM (b : Nat) (m : M) (st : M → List Blk) : List V → Res
 | [.s (.i .i64 a)] => .ok (.s (.b (thereB m a))) [] (st m)
 | _ => .bad
noncomputable def sthereG:=memF sthereM
noncomputable def TMw2 : Tab:=addT 62 wordsG (addT 90 thereG noT)
theorem TMw2_snd : TMw2.Snd Try.prog:=addT_snd ok62 mwords_snd (addT_snd ok90 rthere_snd (noT_snd _))
theorem sthere_snd : Snd Try.prog 55 (FSpec.of sthereG):=snd_run TMw2_snd mixed Try.func55 dc55 100 fun args h K hc hS => by
 obtain ⟨a,b,m,rest,rfl,H,hS1⟩:=memF_spec hS
 clear hS
 have hS:=hS1
 clear hS1
 unfold sthereM at hS
 split at hS
 ·rename_i x
  simp only [spec_ok,setM_self H,thereB] at hS
  have hl:=m.l
  have w1 : IntKind.i64.wrap ((m.w.length : Int) - 4) = m.w.length - 4:=wrap64 (by omega) (by omega)
  by_cases c1 : 4 ≤ x
  ·by_cases c2 : x.tmod 4 = 0
   ·simp only [c1,c2,decide_true,Bool.true_and,beq_self_eq_true] at hS
    simp (maxSteps:=9999999) only [EV0,zx,zw,zv,zu,zq,zp,zj,zk,zg,leT,zZ,rvC,zY,zX,zW,zV,↓zU,↓zQ,reduceCtorEq,yz,yy,yY,yx,yw,yv,yu,yq,yp,yX,yj,yk,yg,yW,yV,yU,yZ,yQ,xz,df55,TMw2,wordsG,memF_eq H,wordsM,setM_self H,c1,c2,w1]
    exact hS
   ·have c3 : (x.tmod 4 == 0) = false:=by simpa using c2
    simp only [c1,c3,decide_true,Bool.true_and,Bool.false_and] at hS
    simp (maxSteps:=9999999) only [EV0,zx,zw,zv,zu,zq,zp,zj,zk,zg,leT,zZ,rvC,zY,zX,zW,zV,↓zU,↓zQ,reduceCtorEq,yz,yy,yY,yx,yw,yv,yu,yq,yp,yX,yj,yk,yg,yW,yV,yU,yZ,yQ,xz,df55,TMw2,wordsG,memF_eq H,wordsM,setM_self H,c1,c2,c3,w1]
    exact hS
  ·simp only [c1,decide_false,Bool.false_and] at hS
   simp (maxSteps:=9999999) only [EV0,zx,zw,zv,zu,zq,zp,zj,zk,zg,leT,zZ,rvC,zY,zX,zW,zV,↓zU,↓zQ,reduceCtorEq,yz,yy,yY,yx,yw,yv,yu,yq,yp,yX,yj,yk,yg,yW,yV,yU,yZ,yQ,xz,df55,TMw2,wordsG,memF_eq H,wordsM,setM_self H,c1]
   exact hS
 ·exact hS.elim
theorem there_has (m : M) (a : Int) : (m.has a 4 && (decide (4 ≤ a) && a.tmod 4 == 0)) = thereB m a:=by
 have hl:=m.l
 rw [Bool.eq_iff_iff]
 simp only [M.has,thereB,Bool.and_eq_true,decide_eq_true_eq,beq_iff_eq]
 omega
theorem rat_snd : Snd Try.prog 75 (FSpec.of sthereG):=snd_run TMw2_snd mixed Try.func75 dc75 100 fun args h K hc hS => by
 obtain ⟨a,b,m,rest,rfl,H,hS1⟩:=memF_spec hS
 clear hS
 have hS:=hS1
 clear hS1
 unfold sthereM at hS
 split at hS
 ·rename_i x
  simp only [spec_ok,setM_self H,← there_has] at hS
  cases hh : m.has x 4
  ·simp only [hh,Bool.false_and] at hS
   simp (maxSteps:=9999999) only [EV0,zx,zw,zv,zu,zq,zp,zj,zk,zg,leT,zZ,rvC,zY,zX,zW,zV,↓zU,↓zQ,reduceCtorEq,yz,yy,yY,yx,yw,yv,yu,yq,yp,yX,yj,yk,yg,yW,yV,yU,yZ,yQ,xz,df75,TMw2,thereG,memF_eq H,thereM,setM_self H,hh]
   exact hS
  ·simp only [hh,Bool.true_and] at hS
   simp (maxSteps:=9999999) only [EV0,zx,zw,zv,zu,zq,zp,zj,zk,zg,leT,zZ,rvC,zY,zX,zW,zV,↓zU,↓zQ,reduceCtorEq,yz,yy,yY,yx,yw,yv,yu,yq,yp,yX,yj,yk,yg,yW,yV,yU,yZ,yQ,xz,df75,TMw2,thereG,memF_eq H,thereM,setM_self H,hh]
   exact hS
 ·exact hS.elim

theorem M.tick_tick (m : M) (j k : Int) : (m.tick j).tick k = m.tick (j + k):=by
 refine M.ext' rfl ?_
 simp only [M.tick]
 rw [IntKind.wrap_i64,IntKind.wrap_i64,IntKind.wrap_i64]; omega

def slotC (w0 w1 w2 : Int) : Slot:=⟨decC w0 w1,w2 % 65536,w2 / 65536 % 65536,w2 / 4294967296 % 65536⟩
def slotB (w0 w1 w2 w3 : Int) : Bool:=decB w0 w1 && (decide (w2 / 281474976710656 = 0) && (w3 == 0 && slotRB (slotC w0 w1 w2)))
def M.slotB (m : M) (a : Int) : Bool:=_root_.Go.Proofs.Ytcdfofeolgbnbaa.slotB (m.at a) (m.at (a + 1)) (m.at (a + 2)) (m.at (a + 3))
def M.slotC (m : M) (a : Int) : Slot:=_root_.Go.Proofs.Ytcdfofeolgbnbaa.slotC (m.at a) (m.at (a + 1)) (m.at (a + 2))
def getSM (b : Nat) (m : M) (st : M → List Blk) : List V → Res
 | [.s (.i .i64 a)] => .br (thereB m a) (.br (m.slotB a) (.ok (.tup [.agg (m.slotC a).cl, .s (.i .i64 0)]) [] (st (m.tick 4))) (.ok (.tup [.agg slotZ.cl, .s (.i .i64 110)]) [] (st (m.tick 4))))
   (.ok (.tup [.agg slotZ.cl, .s (.i .i64 20)]) [] (st m))
 | _ => .bad
noncomputable def getSG:=memF getSM

theorem there_iff {m : M} {a : Int} : thereB m a = true ↔ 4 ≤ a ∧ a.tmod 4 = 0 ∧ a ≤ m.w.length - 4:=by
 simp only [thereB,Bool.and_eq_true,decide_eq_true_eq,beq_iff_eq]

theorem up16_B (w : Nat) : unpackB (w : Int) [16,16,16] 0 = decide ((w : Int) / 281474976710656 = 0):=by
 simp only [unpackB,fieldB,Int.reduceAdd,Int.reduceSub,reduceLE,reduceToNat,Int.toNat_natCast,reducePow,and_true,decide_true,Bool.true_and]
 rw [Bool.eq_iff_iff]; simp only [decide_eq_true_eq]; omega
theorem up16_V (w : Nat) : unpackV (w : Int) [16,16,16] 0 = [(w : Int) % 65536,(w : Int) / 65536 % 65536,(w : Int) / 4294967296 % 65536]:=by
 simp only [unpackV,getV,Int.reduceAdd,reduceToNat,Int.toNat_natCast,reducePow,Nat.div_one]
 simp only [List.cons.injEq,and_true]
 omega

noncomputable def TGt : Tab:=addT 55 sthereG (addT 56 readG (addT 57 decG (addT 58 unpackG (addT 59 slotRG noT))))
theorem TGt_snd : TGt.Snd Try.prog:=addT_snd ok55 sthere_snd (addT_snd ok56 mread_snd (addT_snd ok57 dec_snd (addT_snd ok58 unpack_snd (addT_snd ok59 slotR_snd (noT_snd _)))))
theorem getS_snd : Snd Try.prog 29 (FSpec.of getSG):=snd_run TGt_snd mixed Try.func29 dc29 300 fun args h K hc hS => by
 obtain ⟨a,b,m,rest,rfl,H,hS1⟩:=memF_spec hS
 clear hS
 have hS:=hS1
 clear hS1
 unfold getSM at hS
 split at hS
 ·rename_i x
  simp only [spec_ok,spec_br,setM_self H] at hS
  have hl:=m.l
  cases ht : thereB m x with
  | false =>
   have hS:=hS.2 ht
   simp (maxSteps:=9999999) only [EV0,zx,zw,zv,zu,zq,zp,zj,zk,zg,leT,zZ,rvC,zY,zX,zW,zV,↓zU,↓zQ,reduceCtorEq,yz,yy,yY,yx,yw,yv,yu,yq,yp,yX,yj,yk,yg,yW,yV,yU,yZ,yQ,xz,df29,TGt,sthereG,memF_eq H,sthereM,setM_self H,ht,put,fillP,sub,EVt]
   exact hS
  | true =>
   have hS:=hS.1 ht
   have hb:=there_iff.1 ht
   have hcm : ∀ m',clean (setM h a b m').length (setM h a b m') = true:=fun m' => by rw [setM_len]; exact setM_clean H hc H.ltb
   have h0 : m.has x 1 = true:=M.has_of (by omega)
   have h1 : m.has (x + 1) 1 = true:=M.has_of (by omega)
   have h2 : m.has (x + 2) 1 = true:=M.has_of (by omega)
   have h3 : m.has (x + 3) 1 = true:=M.has_of (by omega)
   have w0 : IntKind.i64.wrap (x + 0) = x:=by rw [wrap64] <;> omega
   have w1 : IntKind.i64.wrap (x + 1) = x + 1:=wrap64 (by omega) (by omega)
   have w2 : IntKind.i64.wrap (x + 2) = x + 2:=wrap64 (by omega) (by omega)
   have w3 : IntKind.i64.wrap (x + 3) = x + 3:=wrap64 (by omega) (by omega)
   have v1 : IntKind.i64.wrap 1 = 1:=by decide
   have v2 : IntKind.i64.wrap 2 = 2:=by decide
   have v3 : IntKind.i64.wrap 3 = 3:=by decide
   have v4 : IntKind.i64.wrap 4 = 4:=by decide
   have u0:=m.at_u x
   have u1:=m.at_u (x + 1)
   have u2:=m.at_u (x + 2)
   have u3:=m.at_u (x + 3)
   simp only [M.slotB,M.slotC] at hS
   obtain ⟨a0,e0⟩ : ∃ a,m.at x = a:=⟨_,rfl⟩
   obtain ⟨a1,e1⟩ : ∃ a,m.at (x + 1) = a:=⟨_,rfl⟩
   obtain ⟨a2,e2⟩ : ∃ a,m.at (x + 2) = a:=⟨_,rfl⟩
   obtain ⟨a3,e3⟩ : ∃ a,m.at (x + 3) = a:=⟨_,rfl⟩
   rw [e0] at u0 hS
   rw [e1] at u1 hS
   rw [e2] at u2 hS
   rw [e3] at hS
   obtain ⟨a2,rfl,_⟩:=u2.nat
   have eB:=up16_B a2
   have eV:=up16_V a2
   have i0 : IntKind.i64.wrap ((a2 : Int) % 65536) = (a2 : Int) % 65536:=wrap64 (by omega) (by omega)
   have i1 : IntKind.i64.wrap ((a2 : Int) / 65536 % 65536) = (a2 : Int) / 65536 % 65536:=wrap64 (by omega) (by omega)
   have i2 : IntKind.i64.wrap ((a2 : Int) / 4294967296 % 65536) = (a2 : Int) / 4294967296 % 65536:=wrap64 (by omega) (by omega)
   simp (maxSteps:=9999999) only [EV0,zx,zw,zv,zu,zq,zp,zj,zk,zg,leT,zZ,rvC,zY,zX,zW,zV,↓zU,↓zQ,reduceCtorEq,yz,yy,yY,yx,yw,yv,yu,yq,yp,yX,yj,yk,yg,yW,yV,yU,yZ,yQ,xz,df29,TGt,sthereG,memF_eq H,sthereM,setM_self H,ht,put,fillP,sub,EVt]
   rw [holds_loop]
   refine swp_loop fun X hX => ?_
   refine hX _ ?_
   refine run_sound (Tab.ok_Γ _) 200 _ _ _ _ ?_
   simp (maxSteps:=9999999) only [EV0,zx,zw,zv,zu,zq,zp,zj,zk,zg,leT,zZ,rvC,zY,zX,zW,zV,↓zU,↓zQ,reduceCtorEq,yz,yy,yY,yx,yw,yv,yu,yq,yp,yX,yj,yk,yg,yW,yV,yU,yZ,yQ,xz,TGt,readG,memF_eq H,memF_set H,readM,h0,h1,h2,h3,w0,w1,w2,w3,v1,v2,v3,v4,e0,e1,e2,e3,M.at_tick,M.tick_has,M.tick_tick,put,setM_fun H]
   refine hX _ ?_
   refine run_sound (Tab.ok_Γ _) 200 _ _ _ _ ?_
   simp (maxSteps:=9999999) only [EV0,zx,zw,zv,zu,zq,zp,zj,zk,zg,leT,zZ,rvC,zY,zX,zW,zV,↓zU,↓zQ,reduceCtorEq,yz,yy,yY,yx,yw,yv,yu,yq,yp,yX,yj,yk,yg,yW,yV,yU,yZ,yQ,xz,TGt,readG,memF_eq H,memF_set H,readM,h0,h1,h2,h3,w0,w1,w2,w3,v1,v2,v3,v4,e0,e1,e2,e3,M.at_tick,M.tick_has,M.tick_tick,put,setM_fun H]
   refine hX _ ?_
   refine run_sound (Tab.ok_Γ _) 200 _ _ _ _ ?_
   simp (maxSteps:=9999999) only [EV0,zx,zw,zv,zu,zq,zp,zj,zk,zg,leT,zZ,rvC,zY,zX,zW,zV,↓zU,↓zQ,reduceCtorEq,yz,yy,yY,yx,yw,yv,yu,yq,yp,yX,yj,yk,yg,yW,yV,yU,yZ,yQ,xz,TGt,readG,memF_eq H,memF_set H,readM,h0,h1,h2,h3,w0,w1,w2,w3,v1,v2,v3,v4,e0,e1,e2,e3,M.at_tick,M.tick_has,M.tick_tick,put,setM_fun H]
   refine hX _ ?_
   refine run_sound (Tab.ok_Γ _) 200 _ _ _ _ ?_
   simp (maxSteps:=9999999) only [EV0,zx,zw,zv,zu,zq,zp,zj,zk,zg,leT,zZ,rvC,zY,zX,zW,zV,↓zU,↓zQ,reduceCtorEq,yz,yy,yY,yx,yw,yv,yu,yq,yp,yX,yj,yk,yg,yW,yV,yU,yZ,yQ,xz,TGt,readG,memF_eq H,memF_set H,readM,h0,h1,h2,h3,w0,w1,w2,w3,v1,v2,v3,v4,e0,e1,e2,e3,M.at_tick,M.tick_has,M.tick_tick,put,setM_fun H]
   refine hX _ ?_
   cases hd : decB a0 a1 with
   | false =>
    have hS:=hS.2 (by simp only [slotB,hd,Bool.false_and])
    by_cases c2 : (a2 : Int) / 281474976710656 = 0
    ·refine run_sound (Tab.ok_Γ _) 400 _ _ _ _ ?_
     simp (maxSteps:=9999999) only [EV0,zx,zw,zv,zu,zq,zp,zj,zk,zg,leT,zZ,rvC,zY,zX,zW,zV,↓zU,↓zQ,reduceCtorEq,yz,yy,yY,yx,yw,yv,yu,yq,yp,yX,yj,yk,yg,yW,yV,yU,yZ,yQ,xz,TGt,readG,memF_eq H,memF_set H,readM,h0,h1,h2,h3,w0,w1,w2,w3,v1,v2,v3,v4,e0,e1,e2,e3,M.at_tick,M.tick_has,M.tick_tick,put,setM_fun H,decG,unpackG,wordsR,pairV,R.lend,R.unlend,S_ren,C.ren,V.ren,Blk.ren,take_app,drop_app,Nat.not_lt_zero,Nat.lt_irrefl,Nat.add_sub_cancel_left,Nat.not_lt,Nat.le_add_right,decI,arr,Ic,Uc,List.take,eB,eV,u0,u1,u2,hd,c2,capZ,Cap.cl,fillP,nlt,hcm,sub,EVt,List.map_cons,List.map_nil]
     first | exact hS | exact fun _ _ => hS
    ·refine run_sound (Tab.ok_Γ _) 400 _ _ _ _ ?_
     simp (maxSteps:=9999999) only [EV0,zx,zw,zv,zu,zq,zp,zj,zk,zg,leT,zZ,rvC,zY,zX,zW,zV,↓zU,↓zQ,reduceCtorEq,yz,yy,yY,yx,yw,yv,yu,yq,yp,yX,yj,yk,yg,yW,yV,yU,yZ,yQ,xz,TGt,readG,memF_eq H,memF_set H,readM,h0,h1,h2,h3,w0,w1,w2,w3,v1,v2,v3,v4,e0,e1,e2,e3,M.at_tick,M.tick_has,M.tick_tick,put,setM_fun H,decG,unpackG,wordsR,pairV,R.lend,R.unlend,S_ren,C.ren,V.ren,Blk.ren,take_app,drop_app,Nat.not_lt_zero,Nat.lt_irrefl,Nat.add_sub_cancel_left,Nat.not_lt,Nat.le_add_right,decI,arr,Ic,Uc,List.take,eB,eV,u0,u1,u2,hd,c2,capZ,Cap.cl,fillP,nlt,hcm,sub,EVt]
     first | exact hS | exact fun _ _ => hS
   | true =>
    by_cases c2 : (a2 : Int) / 281474976710656 = 0
    ·by_cases c3 : a3 = 0
     ·cases hr : slotRB (slotC a0 a1 a2) with
      | false =>
       have hS:=hS.2 (by simp only [slotB,hd,hr,Bool.and_false])
       simp only [slotC] at hr
       refine run_sound (Tab.ok_Γ _) 400 _ _ _ _ ?_
       simp (maxSteps:=9999999) only [EV0,zx,zw,zv,zu,zq,zp,zj,zk,zg,leT,zZ,rvC,zY,zX,zW,zV,↓zU,↓zQ,reduceCtorEq,yz,yy,yY,yx,yw,yv,yu,yq,yp,yX,yj,yk,yg,yW,yV,yU,yZ,yQ,xz,TGt,readG,memF_eq H,memF_set H,readM,h0,h1,h2,h3,w0,w1,w2,w3,v1,v2,v3,v4,e0,e1,e2,e3,M.at_tick,M.tick_has,M.tick_tick,put,setM_fun H,decG,unpackG,wordsR,pairV,slotRG,slotF,cap_eta,R.lend,R.unlend,S_ren,C.ren,V.ren,Blk.ren,take_app,drop_app,Nat.not_lt_zero,Nat.lt_irrefl,Nat.add_sub_cancel_left,Nat.not_lt,Nat.le_add_right,decI,arr,Ic,Uc,List.take,eB,eV,u0,u1,u2,hd,c2,c3,hr,i0,i1,i2,capZ,Cap.cl,fillP,nlt,hcm,sub,EVt]
       first | exact hS | exact fun _ _ => hS
      | true =>
       have hS:=hS.1 (by simp only [slotB,hd,c2,c3,hr,decide_true,beq_self_eq_true,Bool.and_true])
       simp only [slotC] at hr
       simp only [slotC,Slot.cl] at hS
       refine run_sound (Tab.ok_Γ _) 400 _ _ _ _ ?_
       simp (maxSteps:=9999999) only [EV0,zx,zw,zv,zu,zq,zp,zj,zk,zg,leT,zZ,rvC,zY,zX,zW,zV,↓zU,↓zQ,reduceCtorEq,yz,yy,yY,yx,yw,yv,yu,yq,yp,yX,yj,yk,yg,yW,yV,yU,yZ,yQ,xz,TGt,readG,memF_eq H,memF_set H,readM,h0,h1,h2,h3,w0,w1,w2,w3,v1,v2,v3,v4,e0,e1,e2,e3,M.at_tick,M.tick_has,M.tick_tick,put,setM_fun H,decG,unpackG,wordsR,pairV,slotRG,slotF,cap_eta,R.lend,R.unlend,S_ren,C.ren,V.ren,Blk.ren,take_app,drop_app,Nat.not_lt_zero,Nat.lt_irrefl,Nat.add_sub_cancel_left,Nat.not_lt,Nat.le_add_right,decI,arr,Ic,Uc,List.take,eB,eV,u0,u1,u2,hd,c2,c3,hr,i0,i1,i2,capZ,Cap.cl,fillP,nlt,hcm,sub,EVt]
       first | exact hS | exact fun _ _ => hS
     ·have hS:=hS.2 (by simp [slotB,c3])
      refine run_sound (Tab.ok_Γ _) 400 _ _ _ _ ?_
      simp (maxSteps:=9999999) only [EV0,zx,zw,zv,zu,zq,zp,zj,zk,zg,leT,zZ,rvC,zY,zX,zW,zV,↓zU,↓zQ,reduceCtorEq,yz,yy,yY,yx,yw,yv,yu,yq,yp,yX,yj,yk,yg,yW,yV,yU,yZ,yQ,xz,TGt,readG,memF_eq H,memF_set H,readM,h0,h1,h2,h3,w0,w1,w2,w3,v1,v2,v3,v4,e0,e1,e2,e3,M.at_tick,M.tick_has,M.tick_tick,put,setM_fun H,decG,unpackG,wordsR,pairV,slotRG,slotF,cap_eta,R.lend,R.unlend,S_ren,C.ren,V.ren,Blk.ren,take_app,drop_app,Nat.not_lt_zero,Nat.lt_irrefl,Nat.add_sub_cancel_left,Nat.not_lt,Nat.le_add_right,decI,arr,Ic,Uc,List.take,eB,eV,u0,u1,u2,hd,c2,c3,i0,i1,i2,capZ,Cap.cl,fillP,nlt,hcm,sub,EVt]
      first | exact hS | exact fun _ _ => hS
    ·have hS:=hS.2 (by simp [slotB,c2])
     refine run_sound (Tab.ok_Γ _) 400 _ _ _ _ ?_
     simp (maxSteps:=9999999) only [EV0,zx,zw,zv,zu,zq,zp,zj,zk,zg,leT,zZ,rvC,zY,zX,zW,zV,↓zU,↓zQ,reduceCtorEq,yz,yy,yY,yx,yw,yv,yu,yq,yp,yX,yj,yk,yg,yW,yV,yU,yZ,yQ,xz,TGt,readG,memF_eq H,memF_set H,readM,h0,h1,h2,h3,w0,w1,w2,w3,v1,v2,v3,v4,e0,e1,e2,e3,M.at_tick,M.tick_has,M.tick_tick,put,setM_fun H,decG,unpackG,wordsR,pairV,R.lend,R.unlend,S_ren,C.ren,V.ren,Blk.ren,take_app,drop_app,Nat.not_lt_zero,Nat.lt_irrefl,Nat.add_sub_cancel_left,Nat.not_lt,Nat.le_add_right,decI,arr,Ic,Uc,List.take,eB,eV,u0,u1,u2,hd,c2,capZ,Cap.cl,fillP,nlt,hcm,sub,EVt]
     first | exact hS | exact fun _ _ => hS
 ·exact hS.elim

noncomputable def TGr : Tab:=addT 75 sthereG (addT 76 readG (addT 77 decG (addT 78 slotRG (addT 79 encG (addT 80 writeG noT)))))
theorem TGr_snd : TGr.Snd Try.prog:=addT_snd ok75 rat_snd (addT_snd ok76 rread_snd (addT_snd ok77 rdec_snd (addT_snd ok78 rslotR_snd (addT_snd ok79 renc_snd (addT_snd ok80 rwrite_snd (noT_snd _))))))
theorem min16 : min 16 IntKind.u64.bits = 16:=rfl
theorem min32 : min 32 IntKind.u64.bits = 32:=rfl
theorem rgetS_snd : Snd Try.prog 50 (FSpec.of getSG):=snd_run TGr_snd mixed Try.func50 dc50 300 fun args h K hc hS => by
 obtain ⟨a,b,m,rest,rfl,H,hS1⟩:=memF_spec hS
 clear hS
 have hS:=hS1
 clear hS1
 unfold getSM at hS
 split at hS
 ·rename_i x
  simp only [spec_ok,spec_br,setM_self H] at hS
  have hl:=m.l
  cases ht : thereB m x with
  | false =>
   have hS:=hS.2 ht
   simp (maxSteps:=9999999) only [EV0,zx,zw,zv,zu,zq,zp,zj,zk,zg,leT,zZ,rvC,zY,zX,zW,zV,↓zU,↓zQ,reduceCtorEq,yz,yy,yY,yx,yw,yv,yu,yq,yp,yX,yj,yk,yg,yW,yV,yU,yZ,yQ,xz,df50,TGr,sthereG,memF_eq H,sthereM,setM_self H,ht,put,fillP,sub,EVt]
   exact hS
  | true =>
   have hS:=hS.1 ht
   have hb:=there_iff.1 ht
   have h0 : m.has x 1 = true:=M.has_of (by omega)
   have h1 : m.has (x + 1) 1 = true:=M.has_of (by omega)
   have h2 : m.has (x + 2) 1 = true:=M.has_of (by omega)
   have h3 : m.has (x + 3) 1 = true:=M.has_of (by omega)
   have w1 : IntKind.i64.wrap (x + 1) = x + 1:=wrap64 (by omega) (by omega)
   have w2 : IntKind.i64.wrap (x + 2) = x + 2:=wrap64 (by omega) (by omega)
   have w3 : IntKind.i64.wrap (x + 3) = x + 3:=wrap64 (by omega) (by omega)
   have u0:=m.at_u x
   have u1:=m.at_u (x + 1)
   have u2:=m.at_u (x + 2)
   simp only [M.slotB,M.slotC] at hS
   obtain ⟨a0,e0⟩ : ∃ a,m.at x = a:=⟨_,rfl⟩
   obtain ⟨a1,e1⟩ : ∃ a,m.at (x + 1) = a:=⟨_,rfl⟩
   obtain ⟨a2,e2⟩ : ∃ a,m.at (x + 2) = a:=⟨_,rfl⟩
   obtain ⟨a3,e3⟩ : ∃ a,m.at (x + 3) = a:=⟨_,rfl⟩
   rw [e0] at u0 hS
   rw [e1] at u1 hS
   rw [e2] at u2 hS
   rw [e3] at hS
   obtain ⟨a2,rfl,_⟩:=u2.nat
   have t0 : ((a2 : Int)).tmod 65536 = (a2 : Int) % 65536:=Int.tmod_eq_emod_of_nonneg (by omega)
   have t1 : ((a2 : Int) / 65536).tmod 65536 = (a2 : Int) / 65536 % 65536:=Int.tmod_eq_emod_of_nonneg (by omega)
   have t2 : ((a2 : Int) / 4294967296).tmod 65536 = (a2 : Int) / 4294967296 % 65536:=Int.tmod_eq_emod_of_nonneg (by omega)
   have i0 : IntKind.i64.wrap ((a2 : Int) % 65536) = (a2 : Int) % 65536:=wrap64 (by omega) (by omega)
   have i1 : IntKind.i64.wrap ((a2 : Int) / 65536 % 65536) = (a2 : Int) / 65536 % 65536:=wrap64 (by omega) (by omega)
   have i2 : IntKind.i64.wrap ((a2 : Int) / 4294967296 % 65536) = (a2 : Int) / 4294967296 % 65536:=wrap64 (by omega) (by omega)
   have c2 : (281474976710656 ≤ (a2 : Int)) = ¬ ((a2 : Int) / 281474976710656 = 0):=propext (by omega)
   cases hd : decB a0 a1 with
   | false =>
    have hS:=hS.2 (by simp only [slotB,hd,Bool.false_and])
    cases hr : slotRB ⟨capZ,(a2 : Int) % 65536,(a2 : Int) / 65536 % 65536,(a2 : Int) / 4294967296 % 65536⟩
    all_goals simp only [capZ] at hr
    all_goals simp (maxSteps:=9999999) only [EV0,zx,zw,zv,zu,zq,zp,zj,zk,zg,leT,zZ,rvC,zY,zX,zW,zV,↓zU,↓zQ,reduceCtorEq,yz,yy,yY,yx,yw,yv,yu,yq,yp,yX,yj,yk,yg,yW,yV,yU,yZ,yQ,xz,df50,TGr,sthereG,memF_eq H,memF_set H,sthereM,setM_self H,setM_fun H,ht,readG,readM,h0,h1,h2,h3,w1,w2,w3,e0,e1,e2,e3,M.at_tick,M.tick_has,M.tick_tick,decG,slotRG,slotF,cap_eta,u0,u1,u2,t0,t1,t2,i0,i1,i2,hd,hr,min16,min32,capZ,Cap.cl,put,fillP,sub,EVt]
    all_goals exact hS
   | true =>
    by_cases hx : slotB a0 a1 a2 a3 = true
    ·have hS:=hS.1 hx
     simp only [slotB,hd,Bool.true_and,Bool.and_eq_true,decide_eq_true_eq,beq_iff_eq] at hx
     obtain ⟨c3,c4,hr⟩:=hx
     simp only [slotC] at hr
     simp only [slotC,Slot.cl] at hS
     simp (maxSteps:=9999999) only [EV0,zx,zw,zv,zu,zq,zp,zj,zk,zg,leT,zZ,rvC,zY,zX,zW,zV,↓zU,↓zQ,reduceCtorEq,yz,yy,yY,yx,yw,yv,yu,yq,yp,yX,yj,yk,yg,yW,yV,yU,yZ,yQ,xz,df50,TGr,sthereG,memF_eq H,memF_set H,sthereM,setM_self H,setM_fun H,ht,readG,readM,h0,h1,h2,h3,w1,w2,w3,e0,e1,e2,e3,M.at_tick,M.tick_has,M.tick_tick,decG,slotRG,slotF,cap_eta,u0,u1,u2,t0,t1,t2,i0,i1,i2,hd,hr,c2,c3,c4,min16,min32,capZ,Cap.cl,put,fillP,sub,EVt]
     exact hS
    ·have hS:=hS.2 (by simpa using hx)
     by_cases c3 : (a2 : Int) / 281474976710656 = 0
     all_goals by_cases c4 : a3 = 0
     all_goals cases hr : slotRB (slotC a0 a1 a2)
     all_goals try (exfalso; apply hx; simp [slotB,hd,c3,c4,hr]; done)
     all_goals simp only [slotC] at hr
     all_goals simp (maxSteps:=9999999) only [EV0,zx,zw,zv,zu,zq,zp,zj,zk,zg,leT,zZ,rvC,zY,zX,zW,zV,↓zU,↓zQ,reduceCtorEq,yz,yy,yY,yx,yw,yv,yu,yq,yp,yX,yj,yk,yg,yW,yV,yU,yZ,yQ,xz,df50,TGr,sthereG,memF_eq H,memF_set H,sthereM,setM_self H,setM_fun H,ht,readG,readM,h0,h1,h2,h3,w1,w2,w3,e0,e1,e2,e3,M.at_tick,M.tick_has,M.tick_tick,decG,slotRG,slotF,cap_eta,u0,u1,u2,t0,t1,t2,i0,i1,i2,hd,hr,c2,c3,c4,min16,min32,capZ,Cap.cl,put,fillP,sub,EVt]
     all_goals exact hS
 ·exact hS.elim

/-! ### Empty -/
def emptySM (b : Nat) (m : M) (st : M → List Blk) : List V → Res
 | [.s (.i .i64 a)] => .br (thereB m a) (.br (m.slotB a) (.ok (.tup [.s (.b (m.slotC a).isZ), .s (.i .i64 0)]) [] (st (m.tick 4))) (.ok (.tup [.s (.b false), .s (.i .i64 110)]) [] (st (m.tick 4))))
   (.ok (.tup [.s (.b false), .s (.i .i64 20)]) [] (st m))
 | _ => .bad
noncomputable def emptySG:=memF emptySM
noncomputable def TEm : Tab:=addT 29 getSG (addT 50 getSG noT)
theorem TEm_snd : TEm.Snd Try.prog:=addT_snd ok29 getS_snd (addT_snd ok50 rgetS_snd (noT_snd _))
theorem slot_null {s : Slot} (h : slotRB s = true) : (s.cap.ty == 0) = s.isZ:=by
 cases hz : s.isZ with
 | true => rw [Slot.isZ_iff.1 hz]; rfl
 | false =>
  simp only [slotRB,hz,Bool.not_false,Bool.and_true,Bool.and_eq_true,Bool.not_eq_true'] at h
  exact h.1
theorem emptyS_snd : Snd Try.prog 40 (FSpec.of emptySG):=snd_run TEm_snd mixed Try.func40 dc40 200 fun args h K hc hS => by
 obtain ⟨a,b,m,rest,rfl,H,hS1⟩:=memF_spec hS
 clear hS
 have hS:=hS1
 clear hS1
 unfold emptySM at hS
 split at hS
 ·rename_i x
  simp only [spec_ok,spec_br,setM_self H] at hS
  cases ht : thereB m x with
  | false =>
   have hS:=hS.2 ht
   simp (maxSteps:=9999999) only [EV0,zx,zw,zv,zu,zq,zp,zj,zk,zg,leT,zZ,rvC,zY,zX,zW,zV,↓zU,↓zQ,reduceCtorEq,yz,yy,yY,yx,yw,yv,yu,yq,yp,yX,yj,yk,yg,yW,yV,yU,yZ,yQ,xz,df40,TEm,getSG,memF_eq H,getSM,setM_self H,ht,slotZ,capZ,Slot.cl,put,fillP,sub,EVt]
   exact hS
  | true =>
   have hS:=hS.1 ht
   cases hb : m.slotB x with
   | false =>
    have hS:=hS.2 hb
    simp (maxSteps:=9999999) only [EV0,zx,zw,zv,zu,zq,zp,zj,zk,zg,leT,zZ,rvC,zY,zX,zW,zV,↓zU,↓zQ,reduceCtorEq,yz,yy,yY,yx,yw,yv,yu,yq,yp,yX,yj,yk,yg,yW,yV,yU,yZ,yQ,xz,df40,TEm,getSG,memF_eq H,getSM,setM_self H,ht,hb,slotZ,capZ,Slot.cl,put,fillP,sub,EVt]
    exact hS
   | true =>
    have hS:=hS.1 hb
    simp only [Slot.isZ] at hS
    simp (maxSteps:=9999999) only [EV0,zx,zw,zv,zu,zq,zp,zj,zk,zg,leT,zZ,rvC,zY,zX,zW,zV,↓zU,↓zQ,reduceCtorEq,yz,yy,yY,yx,yw,yv,yu,yq,yp,yX,yj,yk,yg,yW,yV,yU,yZ,yQ,xz,df40,TEm,getSG,memF_eq H,getSM,setM_self H,ht,hb,slotZ,capZ,Slot.cl,put,fillP,sub,EVt]
    exact hS
 ·exact hS.elim
theorem remptyS_snd : Snd Try.prog 27 (FSpec.of emptySG):=snd_run TEm_snd mixed Try.func27 dc27 200 fun args h K hc hS => by
 obtain ⟨a,b,m,rest,rfl,H,hS1⟩:=memF_spec hS
 clear hS
 have hS:=hS1
 clear hS1
 unfold emptySM at hS
 split at hS
 ·rename_i x
  simp only [spec_ok,spec_br,setM_self H] at hS
  cases ht : thereB m x with
  | false =>
   have hS:=hS.2 ht
   simp (maxSteps:=9999999) only [EV0,zx,zw,zv,zu,zq,zp,zj,zk,zg,leT,zZ,rvC,zY,zX,zW,zV,↓zU,↓zQ,reduceCtorEq,yz,yy,yY,yx,yw,yv,yu,yq,yp,yX,yj,yk,yg,yW,yV,yU,yZ,yQ,xz,df27,TEm,getSG,memF_eq H,getSM,setM_self H,ht,slotZ,capZ,Slot.cl,put,fillP,sub,EVt]
   exact hS
  | true =>
   have hS:=hS.1 ht
   cases hb : m.slotB x with
   | false =>
    have hS:=hS.2 hb
    simp (maxSteps:=9999999) only [EV0,zx,zw,zv,zu,zq,zp,zj,zk,zg,leT,zZ,rvC,zY,zX,zW,zV,↓zU,↓zQ,reduceCtorEq,yz,yy,yY,yx,yw,yv,yu,yq,yp,yX,yj,yk,yg,yW,yV,yU,yZ,yQ,xz,df27,TEm,getSG,memF_eq H,getSM,setM_self H,ht,hb,slotZ,capZ,Slot.cl,put,fillP,sub,EVt]
    exact hS
   | true =>
    have hS:=hS.1 hb
    have hr : slotRB (m.slotC x) = true:=by
     simp only [M.slotB,slotB,Bool.and_eq_true] at hb
     exact hb.2.2.2
    rw [← slot_null hr] at hS
    simp (maxSteps:=9999999) only [EV0,zx,zw,zv,zu,zq,zp,zj,zk,zg,leT,zZ,rvC,zY,zX,zW,zV,↓zU,↓zQ,reduceCtorEq,yz,yy,yY,yx,yw,yv,yu,yq,yp,yX,yj,yk,yg,yW,yV,yU,yZ,yQ,xz,df27,TEm,getSG,memF_eq H,getSM,setM_self H,ht,hb,slotZ,capZ,Slot.cl,put,fillP,sub,EVt]
    exact hS
 ·exact hS.elim
end Go.Proofs.Ytcdfofeolgbnbaa

