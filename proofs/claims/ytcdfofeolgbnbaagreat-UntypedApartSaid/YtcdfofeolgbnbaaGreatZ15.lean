/- Caps: what Right tells of the fields. -/
import Derived.Test.YtcdfofeolgbnbaaGreatZ11
import Derived.Test.YtcdfofeolgbnbaaGreatZ14
import Derived.Test.YtcdfofeolgbnbaaGreatZ13
/- The machine's memory: what its functions do. -/
namespace Go.Proofs.YtcdfofeolgbnbaaGreat
open Go.D
open Nat (reduceAdd reducePow reduceMul reduceSub reduceLeDiff reduceLT reduceEqDiff)
open Int (reduceNeg reduceLE reduceEq reduceNe reduceToNat)
open Go.D renaming istep → zy,pickR → zx,bin1R → zw,un1R → zv,eqS → zu,eq1 → zq,cmpS → zp,cmp1 → zj,isNil → zk,shows → zg,result → zZ,qT → zV,qF → zU
open List renaming set → zY,replicate → zX
open Option renaming map → zW
open Nat renaming reduceAdd → zQ,reducePow → yz,reduceMul → yy,reduceSub → yx,reduceLeDiff → yw,reduceLT → yv,reduceEqDiff → yu
open Int renaming reduceNeg → yq,reduceLE → yp,reduceEq → yj,reduceNe → yk,reduceToNat → yg,reducePow → yZ,reduceLT → yY,reduceAdd → yX,reduceSub → yW,reduceMul → yV,reduceBEq → yU,reduceBNe → yQ
set_option linter.all false
set_option maxRecDepth 100000
set_option maxHeartbeats 4000000

theorem pow16 (k:Nat):2^min k 16<=65536:=by
 have:min k 16<=16:=by omega
 exact Nat.pow_le_pow_right (n:=2) (by omega) this
def M.zero (k:Nat):M:=⟨List.replicate (2^min k 16) 0,0,fun x hx=>by rw [List.eq_of_mem_replicate hx]; exact u64_0,by simpa using pow16 k⟩
theorem M.zero_len (k:Nat):(M.zero k).w.length=2^min k 16:=by simp [M.zero]

def newM:List V->List Blk->Res
 | [.s (.i .i64 b)],h=>.br (decide (11<=b)&&decide (b<=16)) (.ok (.tup [.s (.p (.g h.length) 0), .s (.i .i64 0)]) [] (memH h (M.zero b.toNat))) (.ok (.tup [.s .np, .s (.i .i64 1)]) [] h)
 | _,_=>.bad
theorem new_snd:Snd Tryz.prog 49 (FSpec.of newM):=snd_run (noT_snd _) mixed Tryz.func49 dc49 100 fun args h K hc hS=>by
 unfold newM at hS
 split at hS
 ·rename_i b
  simp only [spec_br,spec_ok,Bool.and_eq_true,decide_eq_true_eq] at hS
  by_cases c1:b<11
  ·simp (maxSteps:=999999) only [EV0,zy,zx,zw,zv,zu,zq,zp,zj,zk,leT,zg,rvC,zZ,zY,zX,zW,↓zV,↓zU,reduceCtorEq,zQ,yz,yZ,yy,yx,yw,yv,yu,yq,yY,yp,yj,yk,yX,yW,yV,yg,yU,yQ,df49,c1]
   exact hS.2 (by simp; omega)
  by_cases c2:16<b
  ·simp (maxSteps:=999999) only [EV0,zy,zx,zw,zv,zu,zq,zp,zj,zk,leT,zg,rvC,zZ,zY,zX,zW,↓zV,↓zU,reduceCtorEq,zQ,yz,yZ,yy,yx,yw,yv,yu,yq,yY,yp,yj,yk,yX,yW,yV,yg,yU,yQ,df49,c1,c2]
   exact hS.2 (by simp; omega)
  have hS:=hS.1 (by omega)
  obtain ⟨k,rfl⟩:∃ k:Nat,b=k:=⟨b.toNat,by omega⟩
  have hk:min k 16=k:=by omega
  have m1:min k IntKind.i64.bits=k:=by show min k 64=_; omega
  have p1:=pow16 k
  rw [hk] at p1
  obtain ⟨p,hp⟩:∃ p:Nat,2^k=p:=⟨_,rfl⟩
  rw [hp] at p1
  have c3:(0:Int)<=k:=by omega
  have w1:IntKind.i64.wrap (1*2^k)=(p:Int):=by
   rw [Int.one_mul,show (2:Int)^k=(p:Int) by rw [<-hp]; simp,wrap64]<;>omega
  have c4:(0:Int)<=(p:Int):=by omega
  have c5:(p:Int)<=1099511627776:=by omega
  have c6:(8:Int)*(p:Int)<=281474976710656:=by omega
  simp (maxSteps:=999999) only [EV0,zy,zx,zw,zv,zu,zq,zp,zj,zk,leT,zg,rvC,zZ,zY,zX,zW,↓zV,↓zU,reduceCtorEq,zQ,yz,yZ,yy,yx,yw,yv,yu,yq,yY,yp,yj,yk,yX,yW,yV,yg,yU,yQ,df49,c1,c2,c3,m1,w1,c4,Int.le_refl,c5,c6,wc_zeros,put,fillP]
  refine ⟨[1,0],by simp,rfl, ?_⟩
  simp only [getAll,List.getElem?_cons_zero,List.getElem?_cons_succ]
  refine ⟨?_, ?_⟩
  ·simp [S.kept,R.kept,wc_kept]
  ·refine cast (congrArg (K _) ?_) hS
   simp [memH,MB,MW,M.zero,hk,hp,Blk.ren,S.ren,R.prom,List.idxOf,List.findIdx,List.findIdx.go,wc_ren,wc_len,V.ren,C.ren,wc_map]
 ·exact hS.elim
theorem rnew_snd:Snd Tryz.prog 50 (FSpec.of newM):=snd_run (noT_snd _) mixed Tryz.func50 dc50 100 fun args h K hc hS=>by
 unfold newM at hS
 split at hS
 ·rename_i b
  simp only [spec_br,spec_ok,Bool.and_eq_true,decide_eq_true_eq] at hS
  by_cases c1:b<11
  ·simp (maxSteps:=999999) only [EV0,zy,zx,zw,zv,zu,zq,zp,zj,zk,leT,zg,rvC,zZ,zY,zX,zW,↓zV,↓zU,reduceCtorEq,zQ,yz,yZ,yy,yx,yw,yv,yu,yq,yY,yp,yj,yk,yX,yW,yV,yg,yU,yQ,df50,c1]
   exact hS.2 (by simp; omega)
  by_cases c2:16<b
  ·simp (maxSteps:=999999) only [EV0,zy,zx,zw,zv,zu,zq,zp,zj,zk,leT,zg,rvC,zZ,zY,zX,zW,↓zV,↓zU,reduceCtorEq,zQ,yz,yZ,yy,yx,yw,yv,yu,yq,yY,yp,yj,yk,yX,yW,yV,yg,yU,yQ,df50,c1,c2]
   exact hS.2 (by simp; omega)
  have hS:=hS.1 (by omega)
  obtain ⟨k,rfl⟩:∃ k:Nat,b=k:=⟨b.toNat,by omega⟩
  have hk:min k 16=k:=by omega
  have m1:min k IntKind.i64.bits=k:=by show min k 64=_; omega
  have p1:=pow16 k
  rw [hk] at p1
  obtain ⟨p,hp⟩:∃ p:Nat,2^k=p:=⟨_,rfl⟩
  rw [hp] at p1
  have c3:(0:Int)<=k:=by omega
  have w1:IntKind.i64.wrap (1*2^k)=(p:Int):=by
   rw [Int.one_mul,show (2:Int)^k=(p:Int) by rw [<-hp]; simp,wrap64]<;>omega
  have c4:(0:Int)<=(p:Int):=by omega
  have c5:(p:Int)<=1099511627776:=by omega
  have c6:(8:Int)*(p:Int)<=281474976710656:=by omega
  simp (maxSteps:=999999) only [EV0,zy,zx,zw,zv,zu,zq,zp,zj,zk,leT,zg,rvC,zZ,zY,zX,zW,↓zV,↓zU,reduceCtorEq,zQ,yz,yZ,yy,yx,yw,yv,yu,yq,yY,yp,yj,yk,yX,yW,yV,yg,yU,yQ,df50,c1,c2,c3,m1,w1,c4,Int.le_refl,c5,c6,wc_zeros,put,fillP]
  refine ⟨[1,0],by simp,rfl, ?_⟩
  simp only [getAll,List.getElem?_cons_zero,List.getElem?_cons_succ]
  refine ⟨?_, ?_⟩
  ·simp [S.kept,R.kept,wc_kept]
  ·refine cast (congrArg (K _) ?_) hS
   simp [memH,MB,MW,M.zero,hk,hp,Blk.ren,S.ren,R.prom,List.idxOf,List.findIdx,List.findIdx.go,wc_ren,wc_len,V.ren,C.ren,wc_map]
 ·exact hS.elim
def wordsM (b:Nat) (m:M) (st:M->List Blk):List V->Res
 | []=>.ok (.s (.i .i64 m.w.length)) [] (st m)
 | _=>.bad
noncomputable def wordsG:=memF wordsM
theorem mwords_snd:Snd Tryz.prog 150 (FSpec.of wordsG):=snd_run (noT_snd _) mixed Tryz.func150 dc150 100 fun args h K hc hS=>by
 obtain ⟨a,b,m,rest,rfl,H,hS1⟩:=memF_spec hS
 clear hS
 have hS:=hS1
 clear hS1
 unfold wordsM at hS
 split at hS
 ·simp only [spec_ok,setM_self H] at hS
  simp (maxSteps:=999999) only [EV0,zy,zx,zw,zv,zu,zq,zp,zj,zk,leT,zg,rvC,zZ,zY,zX,zW,↓zV,↓zU,reduceCtorEq,zQ,yz,yZ,yy,yx,yw,yv,yu,yq,yY,yp,yj,yk,yX,yW,yV,yg,yU,yQ,df150,H.ha,MB]
  exact hS
 ·exact hS.elim

def spanM (b:Nat) (m:M) (st:M->List Blk):List V->Res
 | [.s (.i .i64 a), .s (.i .i64 k)]=>.br (m.has a k) (.ok (.tup [.s (.sl (.g b) (if m.w.length=a.toNat then 0 else a.toNat) k.toNat (m.w.length-a.toNat)), .s (.b true)]) [] (st m)) (.ok (.tup [.s .ns, .s (.b false)]) [] (st m))
 | _=>.bad
noncomputable def spanG:=memF spanM
theorem span_snd:Snd Tryz.prog 93 (FSpec.of spanG):=snd_run (noT_snd _) mixed Tryz.func93 dc93 100 fun args h K hc hS=>by
 obtain ⟨a,b,m,rest,rfl,H,hS1⟩:=memF_spec hS
 clear hS
 have hS:=hS1
 clear hS1
 unfold spanM at hS
 split at hS
 ·rename_i x k
  simp only [spec_ok,spec_br,setM_self H] at hS
  have hl:=m.l
  cases hh:m.has x k with
  | true =>
   have hS:=hS.1 hh
   obtain ⟨i,j,rfl,rfl,hij⟩:=M.has_nat hh
   have c1:¬ ((i:Int)<0):=by omega
   have c2:¬ ((j:Int)<0):=by omega
   have c3:¬ ((m.w.length:Int)<i):=by omega
   have w1:IntKind.i64.wrap ((m.w.length:Int)-i)=m.w.length-i:=wrap64 (by omega) (by omega)
   have c4:¬ ((m.w.length:Int)-i<j):=by omega
   have w2:IntKind.i64.wrap ((i:Int)+j)=((i+j:Nat):Int):=by rw [wrap64]<;>omega
   have c5:(0:Int)<=i:=by omega
   have c6:(i:Int)<=((i+j:Nat):Int):=by omega
   have c7:((i+j:Nat):Int)<=m.w.length:=by omega
   have e1:i+j-i=j:=by omega
   have c8:0<=(i:Int)/\(i:Int)<=((i+j:Nat):Int)/\((i+j:Nat):Int)<=m.w.length:=by omega
   simp (maxSteps:=999999) only [EV0,zy,zx,zw,zv,zu,zq,zp,zj,zk,leT,zg,rvC,zZ,zY,zX,zW,↓zV,↓zU,reduceCtorEq,zQ,yz,yZ,yy,yx,yw,yv,yu,yq,yY,yp,yj,yk,yX,yW,yV,yg,yU,yQ,df93,H.ha,MB,c1,c2,c3,w1,c4,w2,slcR,c5,c6,c7,e1]
   exact hS
  | false =>
   have hS:=hS.2 hh
   have hn:=M.has_not hh
   by_cases c1:x<0
   ·simp (maxSteps:=999999) only [EV0,zy,zx,zw,zv,zu,zq,zp,zj,zk,leT,zg,rvC,zZ,zY,zX,zW,↓zV,↓zU,reduceCtorEq,zQ,yz,yZ,yy,yx,yw,yv,yu,yq,yY,yp,yj,yk,yX,yW,yV,yg,yU,yQ,df93,c1]
    exact hS
   by_cases c2:k<0
   ·simp (maxSteps:=999999) only [EV0,zy,zx,zw,zv,zu,zq,zp,zj,zk,leT,zg,rvC,zZ,zY,zX,zW,↓zV,↓zU,reduceCtorEq,zQ,yz,yZ,yy,yx,yw,yv,yu,yq,yY,yp,yj,yk,yX,yW,yV,yg,yU,yQ,df93,c1,c2]
    exact hS
   by_cases c3:(m.w.length:Int)<x
   ·simp (maxSteps:=999999) only [EV0,zy,zx,zw,zv,zu,zq,zp,zj,zk,leT,zg,rvC,zZ,zY,zX,zW,↓zV,↓zU,reduceCtorEq,zQ,yz,yZ,yy,yx,yw,yv,yu,yq,yY,yp,yj,yk,yX,yW,yV,yg,yU,yQ,df93,H.ha,MB,c1,c2,c3]
    exact hS
   have w1:IntKind.i64.wrap ((m.w.length:Int)-x)=m.w.length-x:=wrap64 (by omega) (by omega)
   have c4:(m.w.length:Int)-x<k:=by omega
   simp (maxSteps:=999999) only [EV0,zy,zx,zw,zv,zu,zq,zp,zj,zk,leT,zg,rvC,zZ,zY,zX,zW,↓zV,↓zU,reduceCtorEq,zQ,yz,yZ,yy,yx,yw,yv,yu,yq,yY,yp,yj,yk,yX,yW,yV,yg,yU,yQ,df93,H.ha,MB,c1,c2,c3,w1,c4]
   exact hS
 ·exact hS.elim

def thereM (b:Nat) (m:M) (st:M->List Blk):List V->Res
 | [.s (.i .i64 a), .s (.i .i64 k)]=>.ok (.s (.b (m.has a k))) [] (st m)
 | _=>.bad
noncomputable def thereG:=memF thereM
theorem rthere_snd:Snd Tryz.prog 189 (FSpec.of thereG):=snd_run (noT_snd _) mixed Tryz.func189 dc189 100 fun args h K hc hS=>by
 obtain ⟨a,b,m,rest,rfl,H,hS1⟩:=memF_spec hS
 clear hS
 have hS:=hS1
 clear hS1
 unfold thereM at hS
 split at hS
 ·rename_i x k
  simp only [spec_ok,setM_self H] at hS
  have hl:=m.l
  cases hh:m.has x k with
  | true =>
   rw [hh] at hS
   obtain ⟨i,j,rfl,rfl,hij⟩:=M.has_nat hh
   have w1:IntKind.i64.wrap ((m.w.length:Int)-i)=m.w.length-i:=wrap64 (by omega) (by omega)
   have c1:(0:Int)<=i:=by omega
   have c2:(0:Int)<=j:=by omega
   have c3:(i:Int)<=m.w.length:=by omega
   have c4:(j:Int)<=(m.w.length:Int)-i:=by omega
   simp (maxSteps:=999999) only [EV0,zy,zx,zw,zv,zu,zq,zp,zj,zk,leT,zg,rvC,zZ,zY,zX,zW,↓zV,↓zU,reduceCtorEq,zQ,yz,yZ,yy,yx,yw,yv,yu,yq,yY,yp,yj,yk,yX,yW,yV,yg,yU,yQ,df189,H.ha,MB,c1,c2,c3,w1,c4]
   exact hS
  | false =>
   rw [hh] at hS
   have hn:=M.has_not hh
   by_cases c1:0<=x
   ·by_cases c2:0<=k
    ·by_cases c3:x<=m.w.length
     ·have w1:IntKind.i64.wrap ((m.w.length:Int)-x)=m.w.length-x:=wrap64 (by omega) (by omega)
      have c4:¬ (k<=(m.w.length:Int)-x):=by omega
      simp (maxSteps:=999999) only [EV0,zy,zx,zw,zv,zu,zq,zp,zj,zk,leT,zg,rvC,zZ,zY,zX,zW,↓zV,↓zU,reduceCtorEq,zQ,yz,yZ,yy,yx,yw,yv,yu,yq,yY,yp,yj,yk,yX,yW,yV,yg,yU,yQ,df189,H.ha,MB,c1,c2,c3,w1,c4]
      exact hS
     ·simp (maxSteps:=999999) only [EV0,zy,zx,zw,zv,zu,zq,zp,zj,zk,leT,zg,rvC,zZ,zY,zX,zW,↓zV,↓zU,reduceCtorEq,zQ,yz,yZ,yy,yx,yw,yv,yu,yq,yY,yp,yj,yk,yX,yW,yV,yg,yU,yQ,df189,H.ha,MB,c1,c2,c3]
      exact hS
    ·simp (maxSteps:=999999) only [EV0,zy,zx,zw,zv,zu,zq,zp,zj,zk,leT,zg,rvC,zZ,zY,zX,zW,↓zV,↓zU,reduceCtorEq,zQ,yz,yZ,yy,yx,yw,yv,yu,yq,yY,yp,yj,yk,yX,yW,yV,yg,yU,yQ,df189,H.ha,MB,c1,c2]
     exact hS
   ·simp (maxSteps:=999999) only [EV0,zy,zx,zw,zv,zu,zq,zp,zj,zk,leT,zg,rvC,zZ,zY,zX,zW,↓zV,↓zU,reduceCtorEq,zQ,yz,yZ,yy,yx,yw,yv,yu,yq,yY,yp,yj,yk,yX,yW,yV,yg,yU,yQ,df189,H.ha,MB,c1]
    exact hS
 ·exact hS.elim
end Go.Proofs.YtcdfofeolgbnbaaGreat

/- The machine's memory: reading and writing. -/
namespace Go.Proofs.YtcdfofeolgbnbaaGreat
open Go.D
set_option linter.all false
set_option maxRecDepth 100000
set_option maxHeartbeats 4000000

theorem IsMem.hb' {h:List Blk} {a b:Nat} {m:M} (H:IsMem h a b m) (B:Blk):(h.set a B)[b]?=some (MW m):=by rw [set_miss H.ne]; exact H.hb
theorem IsMem.ha' {h:List Blk} {a b:Nat} {m:M} (H:IsMem h a b m) (B:Blk):(h.set b B)[a]?=some (MB b m):=by rw [set_miss (Ne.symm H.ne)]; exact H.ha

noncomputable def TSp:Tab:=addT 93 spanG (addT 189 thereG noT)
theorem TSp_snd:TSp.Snd Tryz.prog:=addT_snd ok93 span_snd (addT_snd ok189 rthere_snd (noT_snd _))

def readM (b:Nat) (m:M) (st:M->List Blk):List V->Res
 | [.s (.i .i64 x)]=>.br (m.has x 1) (.ok (.tup [.s (.i .u64 (m.at x)), .s (.i .i64 0)]) [] (st (m.tick 1))) (.ok (.tup [.s (.i .u64 0), .s (.i .i64 20)]) [] (st m))
 | _=>.bad
noncomputable def readG:=memF readM
theorem mread_snd:Snd Tryz.prog 86 (FSpec.of readG):=snd_run TSp_snd mixed Tryz.func86 dc86 100 fun args h K hc hS=>by
 obtain ⟨a,b,m,rest,rfl,H,hS1⟩:=memF_spec hS
 clear hS
 have hS:=hS1
 clear hS1
 unfold readM at hS
 split at hS
 ·rename_i x
  simp only [spec_ok,spec_br,setM_self H] at hS
  rw [<-setM_steps H (m':=m.tick 1) rfl] at hS
  cases hh:m.has x 1 with
  | true =>
   have hS:=hS.1 hh
   obtain ⟨i,j,rfl,e,hij⟩:=M.has_nat hh
   have c1:¬ (m.w.length=i):=by omega
   have c2:(0:Int)<=i/\(i:Int)<m.w.length:=by omega
   have g:=wc_get (w:=m.w) (i:=i) (by omega)
   simp (maxSteps:=999999) only [go_sem,simprocAttr,↓qT,↓qF,df86,TSp,spanG,thereG,memF_eq H,spanM,thereM,setM_self H,hh,c1,c2,H.ha,H.hb,H.hb',MB,MW,g,Int.toNat_natCast,set_hit H.ha]
   exact hS
  | false =>
   have hS:=hS.2 hh
   simp (maxSteps:=999999) only [go_sem,simprocAttr,↓qT,↓qF,df86,TSp,spanG,thereG,memF_eq H,spanM,thereM,setM_self H,hh]
   exact hS
 ·exact hS.elim
theorem rread_snd:Snd Tryz.prog 179 (FSpec.of readG):=snd_run TSp_snd mixed Tryz.func179 dc179 100 fun args h K hc hS=>by
 obtain ⟨a,b,m,rest,rfl,H,hS1⟩:=memF_spec hS
 clear hS
 have hS:=hS1
 clear hS1
 unfold readM at hS
 split at hS
 ·rename_i x
  simp only [spec_ok,spec_br,setM_self H] at hS
  rw [<-setM_steps H (m':=m.tick 1) rfl] at hS
  cases hh:m.has x 1 with
  | true =>
   have hS:=hS.1 hh
   obtain ⟨i,j,rfl,e,hij⟩:=M.has_nat hh
   have c1:¬ (m.w.length=i):=by omega
   have c2:(0:Int)<=i/\(i:Int)<m.w.length:=by omega
   have g:=wc_get (w:=m.w) (i:=i) (by omega)
   simp (maxSteps:=999999) only [go_sem,simprocAttr,↓qT,↓qF,df179,TSp,spanG,thereG,memF_eq H,spanM,thereM,setM_self H,hh,c1,c2,H.ha,H.hb,H.hb',MB,MW,g,Int.toNat_natCast,set_hit H.ha]
   exact hS
  | false =>
   have hS:=hS.2 hh
   simp (maxSteps:=999999) only [go_sem,simprocAttr,↓qT,↓qF,df179,TSp,spanG,thereG,memF_eq H,spanM,thereM,setM_self H,hh]
   exact hS
 ·exact hS.elim

def fillM (b:Nat) (m:M) (st:M->List Blk):List V->Res
 | [.s (.i .i64 x), .s (.i .i64 k), .s (.i .u64 v)]=>.ob (u64 v) (.br (m.has x k) (.ok (.s (.i .i64 0)) [] (st ((m.fill x.toNat v k.toNat).tick k))) (.ok (.s (.i .i64 20)) [] (st m)))
 | _=>.bad
noncomputable def fillG:=memF fillM
theorem mfill_snd:Snd Tryz.prog 154 (FSpec.of fillG):=snd_run TSp_snd mixed Tryz.func154 dc154 100 fun args h K hc hS=>by
 obtain ⟨a,b,m,rest,rfl,H,hS1⟩:=memF_spec hS
 clear hS
 have hS:=hS1
 clear hS1
 unfold fillM at hS
 split at hS
 ·rename_i x k v
  simp only [spec_ob,spec_ok,spec_br,setM_self H] at hS
  obtain ⟨hv,hS⟩:=hS
  cases hh:m.has x k with
  | true =>
   have hS:=hS.1 hh
   obtain ⟨i,j,rfl,rfl,hij⟩:=M.has_nat hh
   simp only [Int.toNat_natCast] at hS
   have hl:=m.l
   obtain ⟨o,ho,hoi⟩:∃ o:Nat,(if m.w.length=i then 0 else i)=o/\(i<m.w.length->o=i):=⟨_,rfl,fun hlt=>if_neg (by omega)⟩
   simp (maxSteps:=999999) only [go_sem,simprocAttr,↓qT,↓qF,df154,TSp,spanG,memF_eq H,spanM,setM_self H,hh,Int.toNat_natCast,ho]
   refine loop_rule (α:=Nat) [11,23,24,25,26,27,28,29,30] (fun q=>[(23, .s (.i .i64 q))]) (fun _=>[]) (fun q=>h.set b ⟨.rw,wc (m.fill i v q).w,m.w.length⟩) (fun q=>q<=j) (fun q=>j-q) 0 (by omega) ?_ ?_
   ·simp only [M.fill]
    rw [show (⟨.rw,wc m.w,m.w.length⟩:Blk)=MW m from rfl,set_self H.hb]
    refine Wk.less ?_
    simp (maxSteps:=999999) only [go_sem,simprocAttr,↓qT,↓qF,q_cast,Int.natCast_zero]
   ·rintro X q hq IH
    rcases Nat.lt_or_ge q j with h1|h1
    ·obtain ⟨d1,d2,d3,d4⟩:=idx h1 (by omega)
     have c1:=(hoi (by omega)).symm
     subst c1
     have c3:(h.set b ⟨BK.rw,wc (m.fill i v q).w,m.w.length⟩)[b]?=some ⟨BK.rw,wc (m.fill i v q).w,m.w.length⟩:=set_hit H.hb
     have c4:i+q+1<=(wc (m.fill i v q).w).length:=by rw [wc_len,M.fill_len]; omega
     have c5:((wc (m.fill i v q).w).set (i+q) (S.i .u64 v))=wc (m.fill i v (q+1)).w:=by rw [wc_set]; simp only [M.fill,M.put,uw_of hv]
     refine run_sound (Tab.ok_Γ _) 100 _ _ _ _ ?_
     simp (maxSteps:=999999) only [go_sem,simprocAttr,↓qT,↓qF,d1,d2,d3,d4,c3,MW,c4,Int.toNat_natCast,put,c5,List.set_set]
     exact IH (q+1) _ (by omega) (by omega) (Wk.same rfl rfl (by simp only [go_sem,simprocAttr,↓qT,↓qF]))
    ·have:q=j:=by omega
     subst this
     have ha:=H.ha'
     refine run_sound (Tab.ok_Γ _) 100 _ _ _ _ ?_
     simp (maxSteps:=999999) only [go_sem,simprocAttr,↓qT,↓qF,Int.lt_irrefl,ha,MB]
     refine cast (congrArg (K _) ?_) hS
     simp only [setM]
     rw [List.set_comm _ _ H.ne]
     simp only [MW,MB,M.tick,M.fill_len,M.fill_n]
  | false =>
   have hS:=hS.2 hh
   simp (maxSteps:=999999) only [go_sem,simprocAttr,↓qT,↓qF,df154,TSp,spanG,memF_eq H,spanM,setM_self H,hh]
   exact hS
 ·exact hS.elim

def writeM (b:Nat) (m:M) (st:M->List Blk):List V->Res
 | [.s (.i .i64 x), .s (.i .u64 v)]=>.ob (u64 v) (.br (m.has x 1) (.ok (.s (.i .i64 0)) [] (st ((m.put x.toNat v).tick 1))) (.ok (.s (.i .i64 20)) [] (st m)))
 | _=>.bad
noncomputable def writeG:=memF writeM
noncomputable def TFi:Tab:=addT 154 fillG noT
theorem TFi_snd:TFi.Snd Tryz.prog:=addT_snd ok154 mfill_snd (noT_snd _)
theorem mwrite_snd:Snd Tryz.prog 141 (FSpec.of writeG):=snd_run TFi_snd mixed Tryz.func141 dc141 100 fun args h K hc hS=>by
 obtain ⟨a,b,m,rest,rfl,H,hS1⟩:=memF_spec hS
 clear hS
 have hS:=hS1
 clear hS1
 unfold writeM at hS
 split at hS
 ·rename_i x v
  simp only [spec_ob,spec_ok,spec_br,setM_self H] at hS
  obtain ⟨hv,hS⟩:=hS
  cases hh:m.has x 1 with
  | true =>
   have hS:=hS.1 hh
   simp (maxSteps:=999999) only [go_sem,simprocAttr,↓qT,↓qF,df141,TFi,fillG,memF_eq H,fillM,setM_self H,hh,hv,M.fill]
   exact hS
  | false =>
   have hS:=hS.2 hh
   simp (maxSteps:=999999) only [go_sem,simprocAttr,↓qT,↓qF,df141,TFi,fillG,memF_eq H,fillM,setM_self H,hh,hv,M.fill]
   exact hS
 ·exact hS.elim
theorem rwrite_snd:Snd Tryz.prog 175 (FSpec.of writeG):=snd_run TSp_snd mixed Tryz.func175 dc175 100 fun args h K hc hS=>by
 obtain ⟨a,b,m,rest,rfl,H,hS1⟩:=memF_spec hS
 clear hS
 have hS:=hS1
 clear hS1
 unfold writeM at hS
 split at hS
 ·rename_i x v
  simp only [spec_ob,spec_ok,spec_br,setM_self H] at hS
  obtain ⟨hv,hS⟩:=hS
  cases hh:m.has x 1 with
  | true =>
   have hS:=hS.1 hh
   obtain ⟨i,j,rfl,e,hij⟩:=M.has_nat hh
   have c2:(0:Int)<=i/\(i:Int)<m.w.length:=by omega
   have c4:i+1<=(wc m.w).length:=by rw [wc_len]; omega
   simp (maxSteps:=999999) only [go_sem,simprocAttr,↓qT,↓qF,df175,TSp,thereG,memF_eq H,thereM,setM_self H,hh,c2,H.ha,H.hb,H.ha',H.hb',MB,MW,put,wc_set,Int.toNat_natCast,c4,set_hit H.ha]
   refine cast (congrArg (K _) ?_) hS
   simp only [setM,MW,MB,M.tick,M.put,List.length_set,uw_of hv,Int.toNat_natCast]
  | false =>
   have hS:=hS.2 hh
   simp (maxSteps:=999999) only [go_sem,simprocAttr,↓qT,↓qF,df175,TSp,thereG,memF_eq H,thereM,setM_self H,hh]
   exact hS
 ·exact hS.elim

theorem nth_set {α:Type} {d:α}:∀ (l:List α) (i j:Nat) (x:α),nth d (l.set i x) j=if i=j/\i<l.length then x else nth d l j
 | [],i,j,x=>by simp [nth]
 | y::l,0,0,x=>by simp [nth]
 | y::l,0,j+1,x=>by simp [nth]
 | y::l,i+1,0,x=>by simp [nth]
 | y::l,i+1,j+1,x=>by simp [nth,nth_set l i j x]
theorem nth_replicate {α:Type} {d:α} {n i:Nat}:nth d (List.replicate n d) i=d:=by
 induction n generalizing i with
 | zero=>rfl
 | succ n ih=>cases i with
  | zero=>rfl
  | succ i=>exact ih
theorem M.at_put (m:M) (i:Nat) (x:Int) (j:Int):(m.put i x).at j=if i=j.toNat/\i<m.w.length then uw x else m.at j:=by
 simp only [M.at,M.put,nth_set]
theorem M.at_tick (m:M) (k j:Int):(m.tick k).at j=m.at j:=rfl
theorem M.at_zero (k:Nat) (j:Int):(M.zero k).at j=0:=by simp only [M.at,M.zero,nth_replicate]
theorem M.at_fill (m:M) (a:Nat) (x:Int) (j:Int):∀ k:Nat,(m.fill a x k).at j=if a<=j.toNat/\j.toNat<a+k/\j.toNat<m.w.length then uw x else m.at j
 | 0=>by rw [M.fill,if_neg (by omega)]
 | k+1=>by
  rw [M.fill,M.at_put,M.fill_len,M.at_fill m a x j k]
  split
  ·rw [if_pos (by omega)]
  ·split
   ·rw [if_pos (by omega)]
   ·rw [if_neg (by omega)]
theorem M.has_of {m:M} {a k:Int} (h:0<=a/\0<=k/\a+k<=m.w.length):m.has a k=true:=by rw [M.has_iff]; omega

def IsList (h:List Blk) (s:S) (vs:List Int):Prop :=
 ((s=.ns\/∃ a c,s=.es a c)/\vs=[])\/(∃ j o c B,s=.sl (.g j) o 0 c/\h[j]?=some B/\vs=[])\/∃ j o c B,s=.sl (.g j) o vs.length c/\h[j]?=some B/\B.st≠.dead/\o+vs.length<=B.cells.length/\sub B.cells o vs.length=wc vs
theorem IsList.uniq {h:List Blk} {s:S} {v w:List Int} (H:IsList h s v) (H':IsList h s w):v=w:=by
 rcases H with ⟨e0,rfl⟩|⟨j,o,c,B,rfl,e1,rfl⟩|⟨j,o,c,B,rfl,e1,_,_,e2⟩
 ·rcases H' with ⟨_,rfl⟩|⟨_,_,_,_,e,_⟩|⟨j,o,c,B,e,_⟩
  ·rfl
  ·subst e; rcases e0 with e0|⟨_,_,e0⟩<;>cases e0
  ·subst e; rcases e0 with e0|⟨_,_,e0⟩<;>cases e0
 ·rcases H' with ⟨e|⟨_,_,e⟩,_⟩|⟨_,_,_,_,_,_,rfl⟩|⟨j',o',c',B',e,_⟩
  ·cases e
  ·cases e
  ·rfl
  ·simp only [S.sl.injEq] at e
   exact (List.eq_nil_of_length_eq_zero e.2.2.1.symm).symm
 ·rcases H' with ⟨e|⟨_,_,e⟩,_⟩|⟨_,_,_,_,e,_,rfl⟩|⟨j',o',c',B',e,e3,_,_,e4⟩
  ·cases e
  ·cases e
  ·simp only [S.sl.injEq] at e
   exact List.eq_nil_of_length_eq_zero e.2.2.1
  ·simp only [S.sl.injEq,R.g.injEq] at e
   obtain ⟨rfl,rfl,e5,rfl⟩:=e
   rw [e1,Option.some.injEq] at e3
   subst e3
   rw [<-e5,e2] at e4
   exact wc_inj e4
theorem IsList.sl {h:List Blk} {s:S} {vs:List Int} (H:IsList h s vs):IsSl h.length s vs.length:=by
 rcases H with ⟨e0|⟨a,c',e0⟩,rfl⟩|⟨j,o,c,B,rfl,e1,rfl⟩|⟨j,o,c,B,rfl,e1,_,_,e2⟩
 ·exact .inl ⟨e0,rfl⟩
 ·exact .inr (.inl ⟨a,c',e0,rfl⟩)
 ·exact .inr (.inr ⟨j,o,c,rfl,(List.getElem?_eq_some_iff.1 e1).1⟩)
 ·exact .inr (.inr ⟨j,o,c,rfl,(List.getElem?_eq_some_iff.1 e1).1⟩)
theorem IsList.shows {h:List Blk} {s:S} {vs:List Int} (H:IsList h s vs) (ls:List Blk):shows ls h 1 s=some (vs.length,wc vs):=by
 rcases H with ⟨rfl|⟨a,c',rfl⟩,rfl⟩|⟨j,o,c,B,rfl,e1,rfl⟩|⟨j,o,c,B,rfl,e1,hd,hl,e2⟩
 ·rfl
 ·rfl
 ·simp only [D.shows,blk,e1]
  split
  ·simp [wc]
  ·simp [sub,wc]
 ·simp only [D.shows,blk,e1,Nat.mul_one]
  rw [if_neg (by rintro (x|x); exact hd x; omega),e2]
open Classical in
noncomputable def listOf (h:List Blk) (s:S):Option (List Int):=if hx:∃ v,IsList h s v then some (Classical.choose hx) else none
theorem listOf_eq {h:List Blk} {s:S} {v:List Int} (H:IsList h s v):listOf h s=some v:=by
 have hx:∃ v,IsList h s v:=⟨v,H⟩
 unfold listOf
 rw [dif_pos hx,IsList.uniq (Classical.choose_spec hx) H]
theorem listOf_some {h:List Blk} {s:S} {v:List Int} (e:listOf h s=some v):IsList h s v:=by
 unfold listOf at e
 split at e
 ·rename_i hx
  have:=Classical.choose_spec hx
  rw [Option.some.injEq] at e
  rw [e] at this
  exact this
 ·cases e
theorem IsList.whole {h:List Blk} {j c room:Nat} {st:BK} {vs:List Int} (hj:h[j]?=some ⟨st,wc vs,room⟩) (hs:st≠.dead):IsList h (.sl (.g j) 0 vs.length c) vs:=by
 refine .inr (.inr ⟨j,0,c,_,rfl,hj,hs, ?_, ?_⟩)
 ·simp [wc_len]
 ·rw [wc_sub,List.drop_zero,List.take_length]
theorem wc_val (n k:Nat) (w:List Int):(wc w).all (S.val n k)=true:=wc_all (fun _=>rfl) w
def apartS (b:Nat):S->Prop
 | .sl (.g j) _ _ _=>j≠b
 | _=>True
noncomputable def loadG:List V->List Blk->Res
 | [.s (.p (.g a) 0), .s (.i .i64 x), .s s],h=>match memOf h a,listOf h s with
  | some (b,m),some vs=>.ob (apartS b s/\∀ v,v∈vs->u64 v) (.br (m.has x vs.length) (.ok (.s (.i .i64 0)) [] (setM h a b (m.lay x.toNat vs))) (.ok (.s (.i .i64 20)) [] h))
  | _,_=>.bad
 | _,_=>.bad
theorem loadG_spec {args:List V} {h:List Blk} {K:V->List Blk->Prop} (hS:(loadG args h).spec K):∃ a x s b m vs,args=[.s (.p (.g a) 0), .s (.i .i64 x), .s s]/\IsMem h a b m/\IsList h s vs/\apartS b s/\(∀ v,v∈vs->u64 v) /\
  (m.has x vs.length=true->K (.s (.i .i64 0)) (setM h a b (m.lay x.toNat vs)))/\(m.has x vs.length=false->K (.s (.i .i64 20)) h):=by
 unfold loadG at hS
 split at hS
 ·split at hS
  ·rename_i e1 e2
   exact ⟨_,_,_,_,_,_,rfl,memOf_some e1,listOf_some e2,hS.1.1,hS.1.2,hS.2.1,hS.2.2⟩
  ·exact hS.elim
 ·exact hS.elim
theorem mload_snd:Snd Tryz.prog 64 (FSpec.of loadG):=snd_run TSp_snd mixed Tryz.func64 dc64 100 fun args h K hc hS=>by
 obtain ⟨a,x,s,b,m,vs,rfl,H,HL,hap,hu,q1,q2⟩:=loadG_spec hS
 clear hS
 have hl:=m.l
 have hlen:=fun ls h'=>HL.sl.len (ls:=ls) (h:=h')
 have hsh:=fun ls=>HL.shows ls
 cases hh:m.has x vs.length with
 | true =>
  have hS:=q1 hh
  obtain ⟨i,n,rfl,e,hij⟩:=M.has_nat hh
  have e:vs.length=n:=by omega
  simp only [Int.toNat_natCast] at hS
  have hcl:(wc m.w).length=m.w.length:=wc_len _
  obtain ⟨o',ho,hoi⟩:∃ o':Nat,(if m.w.length=i then 0 else i)=o'/\(i<m.w.length->o'=i):=⟨_,rfl,fun hlt=>if_neg (by omega)⟩
  have c2:o'+vs.length<=m.w.length:=by rw [<-ho]; split<;>omega
  have hsub:sub (wc vs) 0 vs.length=wc vs:=by rw [wc_sub,List.drop_zero,List.take_length]
  have hmin:min vs.length vs.length=vs.length:=Nat.min_self _
  have hlay:D.put (wc m.w) o' (wc vs)=wc (m.lay i vs).w:=by
   rcases Nat.eq_zero_or_pos vs.length with h0|h0
   ·have:vs=[]:=List.eq_nil_of_length_eq_zero h0
    subst this; rfl
   ·rw [hoi (by omega)]; exact M.lay_w vs m i hu
  have hset:=setM_words H (M.lay_len vs m i) (M.lay_n vs m i)
  rw [<-hset] at hS
  simp only [MW,M.lay_len] at hS
  have ht:(wc vs).all (R.takes (R.g b) h.length 0)=true:=wc_takes _ _ _ _
  simp (maxSteps:=999999) only [go_sem,simprocAttr,↓qT,↓qF,df64,↓hlen,↓hsh,TSp,spanG,memF_eq H,spanM,setM_self H,hh,H.hb,MW,hcl,ho,c2,hsub,hmin,hlay,wc_known,wc_takes,wc_all,Int.toNat_natCast]
  exact hS
 | false =>
  have hS:=q2 hh
  simp (maxSteps:=999999) only [go_sem,simprocAttr,↓qT,↓qF,df64,↓hlen,TSp,spanG,memF_eq H,spanM,setM_self H,hh]
  exact hS
end Go.Proofs.YtcdfofeolgbnbaaGreat

/- Slices as arguments of a statement. -/
namespace Go.Proofs.YtcdfofeolgbnbaaGreat
open Go.D
set_option linter.all false
set_option maxRecDepth 100000

theorem hasT_arrP {α:Type} {c:α->List S} {p:α->Prop} {h:List Blk} {e:List TY} (hd:∀ ss,hasTs h e ss->∃ x,ss=c x/\p x):∀ (E:List (List S)),(∀ x,x∈E->hasTs h e x)->∃ L:List α,E.flatten=arr c L/\L.length=E.length/\∀ x,x∈L->p x
 | [],_=>⟨[],rfl,rfl,fun x hx=>by cases hx⟩
 | x::E,H=>by
  obtain ⟨y,rfl,hy⟩:=hd x (H x List.mem_cons_self)
  obtain ⟨L,e1,e2,e3⟩:=hasT_arrP hd E (fun z hz=>H z (List.mem_cons_of_mem _ hz))
  refine ⟨y::L,by simp [arr,e1],by simp [e2],fun z hz=>?_⟩
  rcases List.mem_cons.1 hz with rfl|hz
  ·exact hy
  ·exact e3 z hz
theorem isArr_of {α:Type} {c:α->List S} {p:α->Prop} {h:List Blk} {e:List TY} {s:S} (hd:∀ ss,hasTs h e ss->∃ x,ss=c x/\p x) (H:hasT h (.slice e) s):∃ L:List α,IsArr c h s L/\(∀ x,x∈L->p x)/\L.length<=140737488355328:=by
 rcases H with rfl|⟨a,c,rfl⟩|⟨j,n,cp,E,st,room,rfl,h1,h2,h3,h4,h5,h6,h7⟩
 ·exact ⟨[], .inl ⟨.inl rfl,rfl⟩,(fun x hx=>by cases hx),by simp⟩
 ·exact ⟨[], .inl ⟨.inr ⟨a,c,rfl⟩,rfl⟩,(fun x hx=>by cases hx),by simp⟩
 ·obtain ⟨L,e1,e2,e3⟩:=hasT_arrP (c:=c) (p:=p) hd E h7
  have hn:L.length=n:=by omega
  refine ⟨L, .inr ⟨j,cp,st,room,by rw [hn],by rw [<-e1]; exact h3,fun h0 e=>?_⟩,e3, ?_⟩
  ·have:=h5 (by omega)
   rw [this] at e; cases e
  ·omega
theorem hasV_slice {α:Type} {c:α->List S} {p:α->Prop} {h:List Blk} {e:List TY} {v:V} (hd:∀ ss,hasTs h e ss->∃ x,ss=c x/\p x) (H:hasV h (false,[.slice e]) v):∃ (s:S) (L:List α),v=.s s/\IsArr c h s L/\(∀ x,x∈L->p x)/\L.length<=140737488355328:=by
 obtain ⟨s,rfl,H1,_⟩:=H
 obtain ⟨L,e1,e2,e3⟩:=isArr_of hd H1
 exact ⟨s,L,rfl,e1,e2,e3⟩
end Go.Proofs.YtcdfofeolgbnbaaGreat

/- Package caps: bare,in,mapped. -/
namespace Go.Proofs.YtcdfofeolgbnbaaGreat
open Go.D
set_option linter.all false
set_option maxRecDepth 100000
set_option maxHeartbeats 4000000

def bareC (c:Cap):Cap :=
 if c.ty=1 then { c with obj:=0,bits:=0,mark:=0 } else if c.ty=10 then { c with obj:=0,bits:=0,mark:=0 }
 else if c.ty=2 then { c with obj:=0,bits:=0,guard:=0,gbits:=0 }
 else if c.ty=3 then { c with obj:=0 } else if c.ty=9 then { c with obj:=0 }
 else if c.ty=4 then { c with obj:=0,rights:=0,badge:=0 } else if c.ty=5 then { c with obj:=0,rights:=0,badge:=0 }
 else if c.ty=6 then { c with obj:=0,asid:=0,vaddr:=0 }
 else if c.ty=7 then { c with obj:=0,asid:=0 }
 else if c.ty=8 then { c with obj:=0,rights:=0,asid:=0,vaddr:=0 }
 else if c.ty=12 then { c with line:=0 } else c

def bareG (args:List V) (h:List Blk):Res:=capF (fun c=>.ok (.agg (bareC c).cl) [] h) args
theorem bare_snd:Snd Tryz.prog 156 (FSpec.of bareG):=snd_run (noT_snd _) mixed Tryz.func156 dc156 100 fun args h K _ hS=>by
 obtain ⟨⟨t,o,b,d,e,g,i,j,k,l,m⟩,rfl,hR⟩:=capF_spec hS
 simp only [Cap.cl,spec_ok,bareC] at hR ⊢
 rcases kinds t with rfl|rfl|rfl|rfl|rfl|rfl|rfl|rfl|rfl|rfl|rfl|rfl|rfl|rfl|⟨k0,k1,k2,k3,k4,k5,k6,k7,k8,k9,k10,k11,k12,k13,ho⟩
 all_goals try simp only [k1,k2,k3,k4,k5,k6,k7,k8,k9,k10,k12,if_false] at hR
 all_goals try simp only [Int.reduceEq,if_true,if_false] at hR
 all_goals try simp (maxSteps:=999999) only [go_sem,simprocAttr,↓qT,↓qF,df156,k1,k2,k3,k4,k5,k6,k7,k8,k9,k10,k12,put]
 all_goals try simp (maxSteps:=999999) only [go_sem,simprocAttr,↓qT,↓qF,df156,put]
 all_goals try exact hR

def inV (n most:Int):Bool:=decide (0<=n)&&decide (n<=most)
def inG:List V->List Blk->Res
 | [.s (.i .i64 n), .s (.i .i64 m)],h=>.ok (.s (.b (inV n m))) [] h
 | _,_=>.bad
theorem in_snd:Snd Tryz.prog 157 (FSpec.of inG):=snd_run (noT_snd _) mixed Tryz.func157 dc157 100 fun args h K _ hS=>by
 unfold inG at hS
 split at hS
 ·simp only [spec_ok,inV] at hS
  simp (maxSteps:=999999) only [go_sem,simprocAttr,↓qT,↓qF,df157]
  exact hS
 ·exact hS.elim
def mapV (a v f:Int):Bool:=inV a 63&&(inV v 65535&&(v.tmod f==0&&(decide (0<a)||v==0)))
def mappedG:List V->List Blk->Res
 | [.s (.i .i64 a), .s (.i .i64 v), .s (.i .i64 f)],h=>.ob (f=1\/f=16) (.ok (.s (.b (mapV a v f))) [] h)
 | _,_=>.bad
def TI:Tab:=addT 157 inG noT
theorem TI_snd:TI.Snd Tryz.prog:=addT_snd ok157 in_snd (noT_snd _)
theorem mapped_snd:Snd Tryz.prog 158 (FSpec.of mappedG):=snd_run TI_snd mixed Tryz.func158 dc158 100 fun args h K _ hS=>by
 unfold mappedG at hS
 split at hS
 ·obtain ⟨hf,hS⟩:=hS
  simp only [spec_ok,mapV] at hS
  rcases hf with rfl|rfl
  all_goals simp (maxSteps:=999999) only [go_sem,simprocAttr,↓qT,↓qF,df158,TI,inG]
  all_goals exact hS
 ·exact hS.elim

def TR:Tab:=addT 157 inG (addT 158 mappedG (addT 156 bareG (addT 155 sizesG noT)))
theorem TR_snd:TR.Snd Tryz.prog:=addT_snd ok157 in_snd (addT_snd ok158 mapped_snd (addT_snd ok156 bare_snd (addT_snd ok155 sizes_snd (noT_snd _))))

def rightB (c:Cap):Bool :=
 if c.ty=0 then (if c.obj=0/\c.bits=0/\c.mark=0/\c.guard=0/\c.gbits=0/\c.badge=0/\c.rights=0/\c.asid=0/\c.vaddr=0/\c.line=0 then true else false)
 else if c.ty=1 then (if ¬ (4<=c.bits/\c.bits<=15)\/¬ (c.guard=0/\c.gbits=0/\c.badge=0/\c.rights=0/\c.asid=0/\c.vaddr=0/\c.line=0) then false else if 0<(uRaw c.bits)/\(c.obj<1024\/65535<c.obj\/¬ c.obj.tmod (uRaw c.bits)=0) then false else inV c.mark (uRaw c.bits))
 else if c.ty=2 then (if ¬ (nOk c.bits=true)\/¬ (c.mark=0/\c.badge=0/\c.rights=0/\c.asid=0/\c.vaddr=0/\c.line=0) then false else if 0<(nRaw c.bits)/\(c.obj<1024\/65535<c.obj\/¬ c.obj.tmod (nRaw c.bits)=0) then false else (inV c.gbits 31&&inV c.guard (IntKind.i64.wrap (IntKind.i64.wrap (1*2^min c.gbits.toNat IntKind.i64.bits)-1))))
 else if c.ty=3 then (if c.bits=0/\c.mark=0/\c.guard=0/\c.gbits=0/\c.badge=0/\c.rights=0/\c.asid=0/\c.vaddr=0/\c.line=0 then (if c.obj<1024\/65535<c.obj\/¬ c.obj.tmod 64=0 then false else true) else false)
 else if c.ty=4 then (if c.bits=0/\c.mark=0/\c.guard=0/\c.gbits=0/\c.asid=0/\c.vaddr=0/\c.line=0 then (if c.obj<1024\/65535<c.obj\/¬ c.obj.tmod 4=0 then false else (inV c.rights 7&&inV c.badge 268435455)) else false)
 else if c.ty=5 then (if c.bits=0/\c.mark=0/\c.guard=0/\c.gbits=0/\c.asid=0/\c.vaddr=0/\c.line=0 then (if c.obj<1024\/65535<c.obj\/¬ c.obj.tmod 8=0 then false else (inV c.rights 7&&inV c.badge 268435455)) else false)
 else if c.ty=6 then (if c.bits=0/\c.mark=0/\c.guard=0/\c.gbits=0/\c.badge=0/\c.rights=0/\c.line=0 then (if c.obj<1024\/65535<c.obj\/¬ c.obj.tmod 8=0 then false else mapV c.asid c.vaddr 1) else false)
 else if c.ty=7 then (if c.bits=0/\c.mark=0/\c.guard=0/\c.gbits=0/\c.badge=0/\c.rights=0/\c.vaddr=0/\c.line=0 then (if c.obj<1024\/65535<c.obj\/¬ c.obj.tmod 8=0 then false else (inV c.asid 63&&c.asid.tmod 8==0)) else false)
 else if c.ty=8 then (if c.bits=0/\c.mark=0/\c.guard=0/\c.gbits=0/\c.badge=0/\c.line=0 then (if c.obj<1024\/65535<c.obj\/¬ c.obj.tmod 16=0 then false else (inV c.rights 7&&mapV c.asid c.vaddr 16)) else false)
 else if c.ty=9 then (if c.bits=0/\c.mark=0/\c.guard=0/\c.gbits=0/\c.badge=0/\c.rights=0/\c.asid=0/\c.vaddr=0/\c.line=0 then (if c.obj<1024\/65535<c.obj\/¬ c.obj.tmod 64=0 then false else true) else false)
 else if c.ty=10 then (if ¬ ((if c.bits=31 then true else nOk c.bits)=true)\/¬ (c.guard=0/\c.gbits=0/\c.badge=0/\c.rights=0/\c.asid=0/\c.vaddr=0/\c.line=0) then false else if 0<(if c.bits=31 then 64 else nRaw c.bits)/\(c.obj<1024\/65535<c.obj\/¬ c.obj.tmod (if c.bits=31 then 64 else nRaw c.bits)=0) then false else if c.bits=31 then inV c.mark 3 else inV c.mark (IntKind.i64.wrap ((if c.bits=31 then (64:Int) else nRaw c.bits).tdiv 4)))
 else if c.ty=11 then (if c.obj=0/\c.bits=0/\c.mark=0/\c.guard=0/\c.gbits=0/\c.badge=0/\c.rights=0/\c.asid=0/\c.vaddr=0/\c.line=0 then true else false)
 else if c.ty=12 then (if c.obj=0/\c.bits=0/\c.mark=0/\c.guard=0/\c.gbits=0/\c.badge=0/\c.rights=0/\c.asid=0/\c.vaddr=0 then inV c.line 15 else false)
 else if c.ty=13 then (if c.obj=0/\c.bits=0/\c.mark=0/\c.guard=0/\c.gbits=0/\c.badge=0/\c.rights=0/\c.asid=0/\c.vaddr=0/\c.line=0 then true else false)
 else false

theorem close2 {α:Type} {P:α->Prop} {A:Prop} [Decidable A] {x y:α} (h:P (if A then x else y)):(¬A->P y)/\(A->P x):=by
 split at h
 ·exact ⟨fun n=>absurd ‹A› n,fun _=>h⟩
 ·exact ⟨fun _=>h,fun n=>absurd n ‹¬A›⟩
theorem close1 {α:Type} {P:α->Prop} {A:Prop} [Decidable A] {x y:α} (h:P (if A then x else y)):(A->P x)/\(¬A->P y):=(close2 h).symm

theorem uRaw_eq {b:Int} (h:4<=b/\b<=15):uRaw b=2^b.toNat:=by
 have:b=4\/b=5\/b=6\/b=7\/b=8\/b=9\/b=10\/b=11\/b=12\/b=13\/b=14\/b=15:=by omega
 rcases this with rfl|rfl|rfl|rfl|rfl|rfl|rfl|rfl|rfl|rfl|rfl|rfl<;>decide
theorem nOk_iff {b:Int}:nOk b=true↔1<=b/\b<=8:=by
 simp only [nOk,Bool.and_eq_true,decide_eq_true_eq]
 split<;>omega
theorem nRaw_eq {b:Int} (h:1<=b/\b<=8):nRaw b=4*2^b.toNat:=by
 have:b=1\/b=2\/b=3\/b=4\/b=5\/b=6\/b=7\/b=8:=by omega
 rcases this with rfl|rfl|rfl|rfl|rfl|rfl|rfl|rfl<;>decide
theorem inV_iff {n m:Int}:inV n m=true↔0<=n/\n<=m:=by simp [inV]

def rightG (args:List V) (h:List Blk):Res:=capF (fun c=>.ok (.s (.b (rightB c))) [] h) args
theorem right_snd:Snd Tryz.prog 95 (FSpec.of rightG):=snd_run TR_snd mixed Tryz.func95 dc95 200 fun args h K _ hS=>by
 obtain ⟨⟨t,o,b,d,e,g,i,j,k,l,m⟩,rfl,hR⟩:=capF_spec hS
 simp only [Cap.cl,spec_ok,rightB] at hR ⊢
 have P:∀ B:Bool,K (V.s (S.b B)) h=(fun B=>K (V.s (S.b B)) h) B:=fun _=>rfl
 rcases kinds t with rfl|rfl|rfl|rfl|rfl|rfl|rfl|rfl|rfl|rfl|rfl|rfl|rfl|rfl|⟨k0,k1,k2,k3,k4,k5,k6,k7,k8,k9,k10,k11,k12,k13,ho⟩
 all_goals try simp only [k0,k1,k2,k3,k4,k5,k6,k7,k8,k9,k10,k11,k12,k13,if_false] at hR
 all_goals try simp only [Int.reduceEq,if_true,if_false] at hR
 all_goals try simp (maxSteps:=999999) only [go_sem,simprocAttr,↓qT,↓qF,df95,TR,inG,mappedG,bareG,sizesG,capF,szN,szB,bareC,Cap.cl,k1,k2,k3,k4,k5,k6,k7,k8,k9,k10,k12]
 all_goals try simp (maxSteps:=999999) only [go_sem,simprocAttr,↓qT,↓qF,df95,TR,inG,mappedG,bareG,sizesG,capF,szN,szB,bareC,Cap.cl]
 all_goals try exact close2 (P:=fun B=>K (V.s (S.b B)) h) hR
 all_goals try exact ⟨(close2 (P:=fun B=>K (V.s (S.b B)) h) hR).1,fun a=>close1 (P:=fun B=>K (V.s (S.b B)) h) ((close2 (P:=fun B=>K (V.s (S.b B)) h) hR).2 a)⟩
 ·refine ⟨fun hn h0 _ _=>by omega,(close1 (P:=fun B=>K (V.s (S.b B)) h) hR).1,fun a=>close1 (P:=fun B=>K (V.s (S.b B)) h) ((close1 (P:=fun B=>K (V.s (S.b B)) h) hR).2 a)⟩
 ·refine ⟨fun hn h0 _ _=>by omega,fun _ _ h=>(inV_iff.1 h).1,(close1 (P:=fun B=>K (V.s (S.b B)) h) hR).1,fun a=>close1 (P:=fun B=>K (V.s (S.b B)) h) ((close1 (P:=fun B=>K (V.s (S.b B)) h) hR).2 a)⟩
 ·refine ⟨fun hn h0 _ _=>by omega,(close1 (P:=fun B=>K (V.s (S.b B)) h) hR).1,fun a=>?_⟩
  have h2:=close1 (P:=fun B=>K (V.s (S.b B)) h) ((close1 (P:=fun B=>K (V.s (S.b B)) h) hR).2 a)
  exact ⟨h2.1,fun a=>close1 (P:=fun B=>K (V.s (S.b B)) h) (h2.2 a)⟩
 ·exact ⟨fun _=>hR,fun hn=>absurd (ho.elim .inl fun x=>.inr (.inl x)) hn⟩

theorem ite_t {A:Prop} [Decidable A] {x:Bool}:(if A then x else false)=true↔A/\x=true:=by split<;>simp [*]
theorem ite_f {A:Prop} [Decidable A] {x:Bool}:(if A then false else x)=true↔¬ A/\x=true:=by split<;>simp [*]
theorem uRaw_le {b:Int} (h:4<=b/\b<=15):16<=uRaw b/\uRaw b<=32768:=by
 have:b=4\/b=5\/b=6\/b=7\/b=8\/b=9\/b=10\/b=11\/b=12\/b=13\/b=14\/b=15:=by omega
 rcases this with rfl|rfl|rfl|rfl|rfl|rfl|rfl|rfl|rfl|rfl|rfl|rfl<;>decide
theorem nRaw_le {b:Int} (h:1<=b/\b<=8):8<=nRaw b/\nRaw b<=1024/\0<=IntKind.i64.wrap ((nRaw b).tdiv 4)/\IntKind.i64.wrap ((nRaw b).tdiv 4)<=256:=by
 have:b=1\/b=2\/b=3\/b=4\/b=5\/b=6\/b=7\/b=8:=by omega
 rcases this with rfl|rfl|rfl|rfl|rfl|rfl|rfl|rfl<;>decide
def gRaw (g:Int):Int:=IntKind.i64.wrap (IntKind.i64.wrap (1*2^min g.toNat IntKind.i64.bits)-1)
theorem gRaw_le {g:Int} (h:0<=g/\g<=31):gRaw g=2^g.toNat-1/\gRaw g<=2147483647:=by
 obtain ⟨n,rfl⟩:∃ n:Nat,g=n:=⟨g.toNat,by omega⟩
 have hn:n<32:=by omega
 have:∀ n:Fin 32,gRaw ((n.val:Nat):Int)=2^((n.val:Nat):Int).toNat-1/\gRaw ((n.val:Nat):Int)<=2147483647:=by decide
 exact this ⟨n,hn⟩

def Cap.num (c:Cap):Int:=c.mark+c.guard+c.badge+c.vaddr
structure Cap.RB (c:Cap):Prop where
 ty:0<=c.ty/\c.ty<=13
 obj:0<=c.obj/\c.obj<=65535
 bits:0<=c.bits/\c.bits<=31
 rights:0<=c.rights/\c.rights<=7
 line:0<=c.line/\c.line<=15
 asid:0<=c.asid/\c.asid<=63
 gbits:0<=c.gbits/\c.gbits<=31
 mark:0<=c.mark/\c.mark<=32768
 guard:0<=c.guard/\c.guard<=2147483647
 badge:0<=c.badge/\c.badge<=268435455
 vaddr:0<=c.vaddr/\c.vaddr<=65535
 one:if c.ty=2 then c.mark=0/\c.badge=0/\c.vaddr=0 else if c.ty=4\/c.ty=5 then c.mark=0/\c.guard=0/\c.vaddr=0 else if c.ty=6\/c.ty=8 then c.mark=0/\c.guard=0/\c.badge=0 else c.guard=0/\c.badge=0/\c.vaddr=0

theorem right_bounds {c:Cap} (h:rightB c=true):c.RB:=by
 obtain ⟨t,o,b,d,e,g,i,j,k,l,m⟩:=c
 simp only [rightB] at h
 rcases kinds t with rfl|rfl|rfl|rfl|rfl|rfl|rfl|rfl|rfl|rfl|rfl|rfl|rfl|rfl|⟨k0,k1,k2,k3,k4,k5,k6,k7,k8,k9,k10,k11,k12,k13,ho⟩
 all_goals try simp only [k0,k1,k2,k3,k4,k5,k6,k7,k8,k9,k10,k11,k12,k13,if_false] at h
 all_goals try simp only [Int.reduceEq,if_true,if_false,ite_t,ite_f,Bool.and_eq_true,inV_iff,mapV,Bool.or_eq_true,decide_eq_true_eq,beq_iff_eq,not_or,Classical.not_not,nOk_iff,and_true] at h
 case inr.inr.inr.inr.inr.inr.inr.inr.inr.inr.inr.inr.inr.inr=>exact absurd h (by decide)
 case inr.inl =>
  have:=uRaw_le h.1.1
  exact ⟨by simp,by simp only; omega,by simp only; omega,by simp only; omega,by simp only; omega,by simp only; omega,by simp only; omega,by simp only; omega,by simp only; omega,by simp only; omega,by simp only; omega,by simp only [Int.reduceEq,if_false,or_self]; omega⟩
 case inr.inr.inl =>
  have:=nRaw_le h.1.1
  have:=gRaw_le h.2.2.1
  simp only [gRaw] at this
  exact ⟨by simp,by simp only; omega,by simp only; omega,by simp only; omega,by simp only; omega,by simp only; omega,by simp only; omega,by simp only; omega,by simp only; omega,by simp only; omega,by simp only; omega,by simp only [if_true]; omega⟩
 case inr.inr.inr.inr.inr.inr.inr.inr.inr.inr.inl =>
  by_cases hb:b=31
  ·simp only [hb,if_true,inV_iff,true_and] at h ⊢
   exact ⟨by simp,by simp only; omega,by simp only; omega,by simp only; omega,by simp only; omega,by simp only; omega,by simp only; omega,by simp only; omega,by simp only; omega,by simp only; omega,by simp only; omega,by simp only [Int.reduceEq,if_false,or_self]; omega⟩
  ·simp only [hb,if_false,inV_iff,nOk_iff] at h ⊢
   have:=nRaw_le h.1.1
   exact ⟨by simp,by simp only; omega,by simp only; omega,by simp only; omega,by simp only; omega,by simp only; omega,by simp only; omega,by simp only; omega,by simp only; omega,by simp only; omega,by simp only; omega,by simp only [Int.reduceEq,if_false,or_self]; omega⟩
 all_goals exact ⟨by simp,by simp only; omega,by simp only; omega,by simp only; omega,by simp only; omega,by simp only; omega,by simp only; omega,by simp only; omega,by simp only; omega,by simp only; omega,by simp only; omega,by simp only [Int.reduceEq,if_false,if_true,or_self,or_true,or_false,true_or,false_or]; omega⟩
end Go.Proofs.YtcdfofeolgbnbaaGreat

