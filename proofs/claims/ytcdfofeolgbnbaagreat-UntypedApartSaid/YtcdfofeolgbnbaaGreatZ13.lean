/- The arguments of a statement: what is read of them becomes values over read-only blocks; behind the call they read as before. -/
import Derived.Laws.BitsLemmas
import Derived.Laws.Bits64b
import Derived.Lib.EndianBits
import Derived.Test.YtcdfofeolgbnbaaGreatZ12
import Derived.Test.YtcdfofeolgbnbaaGreatZ11
import Derived.Deep.Slices
import Derived.ChangeSame
import Derived.ReadAgain
import Derived.RowKit3
import Derived.OpenShut
import Derived.SizedLaws
/- Fields of 64 bits,as numbers. -/
namespace Go.D
set_option linter.all false

theorem c_div (a k:Nat):((a/2^k:Nat):Int)=(a:Int)/2^k:=by
 rw [Int.natCast_ediv,Int.natCast_pow]; rfl
theorem c_mul (a k:Nat):((a*2^k:Nat):Int)=(a:Int)*2^k:=by
 rw [Int.natCast_mul,Int.natCast_pow]; rfl
theorem c_mod (a m:Nat):((a%m:Nat):Int)=(a:Int)%(m:Int):=Int.natCast_emod a m

theorem nat_and_field (w k n:Nat):w &&& ((2^n-1)*2^k)=w/2^k%2^n*2^k:=by
 apply Nat.eq_of_testBit_eq
 intro i
 rw [Nat.testBit_and,Nat.testBit_mul_two_pow,Nat.testBit_mul_two_pow,Nat.testBit_two_pow_sub_one,Nat.testBit_mod_two_pow,Nat.testBit_div_two_pow]
 by_cases h:k<=i
 ·have e:i-k+k=i:=by omega
  simp only [h,decide_true,Bool.true_and,e]
  rw [Bool.and_comm]
 ·simp [h]

def clr (w k n:Nat):Nat:=2^(k+n)*(w/2^(k+n))+w%2^k

theorem clr_testBit (w k n i:Nat):(clr w k n).testBit i=(w.testBit i&&!(decide (k<=i)&&decide (i<k+n))):=by
 unfold clr
 have hlt:w%2^k<2^(k+n):=Nat.lt_of_lt_of_le (Nat.mod_lt _ (Nat.two_pow_pos k)) (Nat.pow_le_pow_right (by decide) (by omega))
 rw [Nat.testBit_two_pow_mul_add _ hlt,Nat.testBit_mod_two_pow,Nat.testBit_div_two_pow]
 by_cases h1:i<k+n
 ·by_cases h2:k<=i
  ·simp [h1,h2]; intro h; omega
  ·have:i<k:=by omega
   simp [h1,h2,this]
 ·have h2:k<=i:=by omega
  have e:i-(k+n)+(k+n)=i:=by omega
  simp [h1,h2,e]

theorem bits_andNot_u64 (a b:Nat) (ha:a<18446744073709551616) (hb:b<18446744073709551616) (r:Nat) (h:∀ i,i<64->r.testBit i=(a.testBit i&&!b.testBit i)) (hr:r<18446744073709551616):bits .andNot .u64 a b=(r:Int):=by
 simp only [bits,BitVec.ofInt_natCast]
 have:(BitVec.ofNat IntKind.u64.bits a &&& ~~~BitVec.ofNat IntKind.u64.bits b).toNat=r:=by
  apply Nat.eq_of_testBit_eq
  intro i
  by_cases hi:i<64
  ·rw [BitVec.toNat_and,Nat.testBit_and,BitVec.testBit_toNat,BitVec.testBit_toNat,BitVec.getLsbD_not,h i hi]
   have h1:(BitVec.ofNat IntKind.u64.bits a).getLsbD i=a.testBit i:=by
    rw [BitVec.getLsbD_ofNat]; simp [IntKind.bits,hi]
   have h2:(BitVec.ofNat IntKind.u64.bits b).getLsbD i=b.testBit i:=by
    rw [BitVec.getLsbD_ofNat]; simp [IntKind.bits,hi]
   rw [h1,h2]
   simp [IntKind.bits,hi]
  ·have h1:r.testBit i=false:=Nat.testBit_lt_two_pow (Nat.lt_of_lt_of_le hr (by
    calc 18446744073709551616=2^64:=by decide
     _<=2^i:=Nat.pow_le_pow_right (by decide) (by omega)))
   rw [h1]
   refine Nat.testBit_lt_two_pow (Nat.lt_of_lt_of_le (BitVec.isLt _) ?_)
   exact Nat.pow_le_pow_right (by decide) (by show 64<=i; omega)
 rw [this]
 exact wraps_u64 _ (by omega) (by omega)

theorem pow_le64 {k n:Nat} (h:k+n<=64):2^(k+n)<=18446744073709551616:=by
 calc 2^(k+n)<=2^64:=Nat.pow_le_pow_right (by decide) h
  _=18446744073709551616:=by decide

theorem mask_lt {k n:Nat} (h:k+n<=64):(2^n-1)*2^k<18446744073709551616:=by
 have h1:=pow_le64 h
 have h2:(2^n-1)*2^k<2^n*2^k:=Nat.mul_lt_mul_of_pos_right (by have:=Nat.two_pow_pos n; omega) (Nat.two_pow_pos k)
 rw [<-Nat.pow_add,Nat.add_comm n k] at h2
 omega

theorem mask_testBit (k n i:Nat):((2^n-1)*2^k).testBit i=(decide (k<=i)&&decide (i<k+n)):=by
 rw [Nat.testBit_mul_two_pow,Nat.testBit_two_pow_sub_one]
 by_cases h:k<=i
 ·simp only [h,decide_true,Bool.true_and]
  congr 1
  rw [eq_iff_iff]; omega
 ·simp [h]

theorem u64_mask {k n:Nat} (h:k+n<=64):IntKind.u64.wrap (18446744073709551615/2^(64-n)*2^k)=(((2^n-1)*2^k:Nat):Int):=by
 have e:(18446744073709551615:Nat)/2^(64-n)=2^n-1:=by
  have h1:2^n*2^(64-n)=18446744073709551616:=by
   rw [<-Nat.pow_add]
   have:n+(64-n)=64:=by omega
   rw [this]
  have hp:=Nat.two_pow_pos (64-n)
  have hn:=Nat.two_pow_pos n
  apply Nat.div_eq_of_lt_le
  ·rw [Nat.sub_mul,Nat.one_mul,h1]; omega
  ·rw [Nat.sub_add_cancel hn,h1]; omega
 have e2:(18446744073709551615/2^(64-n)*2^k:Int)=(((18446744073709551615:Nat)/2^(64-n)*2^k:Nat):Int):=by
  rw [c_mul,c_div]; rfl
 rw [e2,e]
 exact wraps_u64 _ (by omega) (by have:=mask_lt h; omega)

theorem u64_get {k n w:Nat} (hw:w<18446744073709551616) (h:k+n<=64):bits .and .u64 (w:Int) (((2^n-1)*2^k:Nat):Int)/2^k=((w/2^k%2^n:Nat):Int):=by
 rw [bits_and_u64_nat w _ hw (mask_lt h),nat_and_field]
 have:((w/2^k%2^n*2^k:Nat):Int)/2^k=((w/2^k%2^n*2^k/2^k:Nat):Int):=(c_div _ _).symm
 rw [this,Nat.mul_div_cancel _ (Nat.two_pow_pos k)]

theorem u64_clr {k n w:Nat} (hw:w<18446744073709551616) (h:k+n<=64):bits .andNot .u64 (w:Int) (((2^n-1)*2^k:Nat):Int)=((clr w k n:Nat):Int):=by
 refine bits_andNot_u64 w _ hw (mask_lt h) _ (fun i _=>by rw [clr_testBit,mask_testBit]) ?_
 unfold clr
 have h1:=Nat.div_add_mod w (2^(k+n))
 have h2:w%2^k<=w%2^(k+n):=by
  rw [Nat.pow_add,Nat.mod_mul]
  omega
 omega

theorem u64_fits {k n v:Nat} (hv:v<18446744073709551616) (h:k+n<=64) :
  (IntKind.u64.wrap ((v:Int)*2^k)/2^k=(v:Int)/\bits .andNot .u64 (IntKind.u64.wrap ((v:Int)*2^k)) (((2^n-1)*2^k:Nat):Int)=0)↔v<2^n:=by
 have ew:IntKind.u64.wrap ((v:Int)*2^k)=((v*2^k%18446744073709551616:Nat):Int):=by
  rw [IntKind.wrap_u64,c_mod,c_mul]; rfl
 have hlt:v*2^k%18446744073709551616<18446744073709551616:=Nat.mod_lt _ (by decide)
 rw [ew,u64_clr hlt h]
 have ed:((v*2^k%18446744073709551616:Nat):Int)/2^k=((v*2^k%18446744073709551616/2^k:Nat):Int):=(c_div _ _).symm
 rw [ed]
 have hk:=Nat.two_pow_pos k
 have h64:=pow_le64 h
 rw [Nat.pow_add] at h64
 constructor
 ·rintro ⟨h1,h2⟩
  have h1:v*2^k%18446744073709551616/2^k=v:=by exact_mod_cast h1
  have h2:clr (v*2^k%18446744073709551616) k n=0:=by exact_mod_cast h2
  have h3:v*2^k<18446744073709551616:=by
   rcases Nat.lt_or_ge (v*2^k) 18446744073709551616 with h|h
   ·exact h
   ·have h4:v*2^k%18446744073709551616<v*2^k:=Nat.lt_of_lt_of_le (Nat.mod_lt _ (by decide)) h
    have:=(Nat.div_lt_iff_lt_mul hk).2 h4
    omega
  rw [Nat.mod_eq_of_lt h3] at h2
  unfold clr at h2
  have h5:2^(k+n)*(v*2^k/2^(k+n))=0:=by omega
  have h6:v*2^k/2^(k+n)=0:=by
   rcases Nat.mul_eq_zero.1 h5 with h|h
   ·exact absurd h (Nat.pos_iff_ne_zero.1 (Nat.two_pow_pos _))
   ·exact h
  have h7:v*2^k<2^(k+n):=by
   rcases Nat.div_eq_zero_iff.1 h6 with h|h
   ·exact absurd h (Nat.pos_iff_ne_zero.1 (Nat.two_pow_pos _))
   ·exact h
  rw [Nat.add_comm k n,Nat.pow_add] at h7
  exact Nat.lt_of_mul_lt_mul_right h7
 ·intro hvn
  have h3:v*2^k<2^k*2^n:=by
   rw [Nat.mul_comm (2^k)]; exact Nat.mul_lt_mul_of_pos_right hvn hk
  have h4:v*2^k<18446744073709551616:=by omega
  rw [Nat.mod_eq_of_lt h4,Nat.mul_div_cancel _ hk]
  refine ⟨rfl, ?_⟩
  unfold clr
  rw [<-Nat.pow_add] at h3
  rw [Nat.div_eq_of_lt h3,Nat.mul_mod_left]; rfl

theorem u64_set {k n v w:Nat} (hw:w<18446744073709551616) (hv:v<2^n) (h:k+n<=64) :
  bits .or .u64 (bits .andNot .u64 (w:Int) (((2^n-1)*2^k:Nat):Int)) (IntKind.u64.wrap ((v:Int)*2^k))=((2^(k+n)*(w/2^(k+n))+(2^k*v+w%2^k):Nat):Int):=by
 have hk:=Nat.two_pow_pos k
 have h64:=pow_le64 h
 have h3:2^k*v<2^(k+n):=by
  rw [Nat.pow_add]; exact Nat.mul_lt_mul_of_pos_left hv hk
 have hr:w%2^k<2^k:=Nat.mod_lt _ hk
 have ew:IntKind.u64.wrap ((v:Int)*2^k)=((2^k*v:Nat):Int):=by
  rw [Nat.mul_comm,<-c_mul]
  exact wraps_u64 _ (by omega) (by have:v*2^k=2^k*v:=Nat.mul_comm _ _; omega)
 have hc:clr w k n<18446744073709551616:=by
  unfold clr
  have h1:=Nat.div_add_mod w (2^(k+n))
  have h2:w%2^k<=w%2^(k+n):=by
   rw [Nat.pow_add,Nat.mod_mul]
   omega
  omega
 have hin:2^k*v+w%2^k<2^(k+n):=by
  have:2^k*(v+1)<=2^k*2^n:=Nat.mul_le_mul_left _ hv
  rw [<-Nat.pow_add,Nat.mul_add] at this
  omega
 rw [u64_clr hw h,ew,bits_or_u64_nat _ _ hc (by omega)]
 congr 1
 apply Nat.eq_of_testBit_eq
 intro i
 rw [Nat.testBit_or,clr_testBit,Nat.testBit_two_pow_mul_add _ hin,Nat.testBit_two_pow_mul_add _ hr,Nat.testBit_mod_two_pow,Nat.testBit_div_two_pow]
 have e:(2^k*v).testBit i=(decide (k<=i)&&v.testBit (i-k)):=by
  rw [Nat.mul_comm,Nat.testBit_mul_two_pow]
 rw [e]
 by_cases h1:i<k+n
 ·by_cases h2:k<=i
  ·have:¬ i<k:=by omega
   simp [h1,h2,this]
  ·have:i<k:=by omega
   simp [h1,h2,this]
 ·have h2:k<=i:=by omega
  have e2:i-(k+n)+(k+n)=i:=by omega
  have e3:v.testBit (i-k)=false:=Nat.testBit_lt_two_pow (Nat.lt_of_lt_of_le hv (Nat.pow_le_pow_right (by decide) (by omega)))
  simp [h1,h2,e2,e3]

end Go.D

/- Words: plain facts. -/
namespace Go.Proofs.YtcdfofeolgbnbaaGreat
open Go.D
set_option linter.all false
set_option maxRecDepth 100000
set_option maxHeartbeats 4000000

theorem idx {i n:Nat} (h:i<n) (hn:n<=9223372036854775807):((i:Int)<(n:Int))/\((0:Int)<=i)/\¬ ((i:Int)<0)/\IntKind.i64.wrap ((i:Int)+1)=((i+1:Nat):Int):=by
 refine ⟨by omega,by omega,by omega, ?_⟩
 rw [wrap64]<;>omega

def u64 (w:Int):Prop:=0<=w/\w<18446744073709551616
theorem u64.nat {w:Int} (h:u64 w):∃ n:Nat,w=n/\n<18446744073709551616:=⟨w.toNat,by have:=h.1; omega,by have:=h.1; have:=h.2; omega⟩
theorem u64_of {n:Nat} (h:n<18446744073709551616):u64 n:=⟨by omega,by omega⟩

theorem wrapu {n:Int} (h0:0<=n) (h1:n<18446744073709551616):IntKind.u64.wrap n=n:=by
 show n%18446744073709551616=n
 omega

end Go.Proofs.YtcdfofeolgbnbaaGreat

/- Package word: what its functions answer. -/
namespace Go.Proofs.YtcdfofeolgbnbaaGreat
open Go.D
open Nat (reduceAdd reducePow reduceMul reduceSub reduceLeDiff reduceLT reduceEqDiff)
open Int (reduceNeg reduceLE reduceEq reduceNe reduceToNat)
open Go.D renaming istep → zy,pickR → zx,bin1R → zw,un1R → zv,eqS → zu,eq1 → zq,cmpS → zp,cmp1 → zj,isNil → zk,shows → zg,result → zZ,qT → zV,qF → zU
open List renaming set → zY,replicate → zX
open Option renaming map → zW
open Nat renaming reduceAdd → zQ,reducePow → yz,reduceMul → yy,reduceSub → yx,reduceLeDiff → yw,reduceLT → yv,reduceEqDiff → yu
open Int renaming reduceNeg → yq,reduceLE → yp,reduceEq → yj,reduceNe → yk,reduceToNat → yg,reducePow → yZ,reduceLT → yY,reduceAdd → yX,reduceSub → yW,reduceMul → yV,reduceBEq → yU,reduceBNe → yQ
set_option linter.all false
set_option maxRecDepth 100000
set_option maxHeartbeats 4000000

def fieldB (at_ n:Int):Bool:=decide (0<=at_/\at_<=63/\1<=n/\n<=64-at_)
def maskV (at_ n:Int):Int:=(((2^n.toNat-1)*2^at_.toNat:Nat):Int)
def getV (w at_ n:Int):Int:=((w.toNat/2^at_.toNat%2^n.toNat:Nat):Int)
def setB (at_ n v:Int):Bool:=fieldB at_ n&&decide (v.toNat<2^n.toNat)
def setV (w at_ n v:Int):Int:=((2^(at_.toNat+n.toNat)*(w.toNat/2^(at_.toNat+n.toNat))+(2^at_.toNat*v.toNat+w.toNat%2^at_.toNat):Nat):Int)

theorem fieldB_nat {at_ n:Int} (h:fieldB at_ n=true):∃ k m:Nat,at_=k/\n=m/\k<=63/\1<=m/\k+m<=64:=by
 simp only [fieldB,decide_eq_true_eq] at h
 exact ⟨at_.toNat,n.toNat,by omega,by omega,by omega,by omega,by omega⟩

def maskG:List V->List Blk->Res
 | [.s (.i .i64 at_), .s (.i .i64 n)],h=>.br (fieldB at_ n) (.ok (.tup [.s (.i .u64 (maskV at_ n)), .s (.b true)]) [] h) (.ok (.tup [.s (.i .u64 0), .s (.b false)]) [] h)
 | _,_=>.bad

theorem mask_snd:Snd Tryz.prog 190 (FSpec.of maskG):=snd_run (noT_snd _) mixed Tryz.func190 dc190 100 fun args h K _ hS=>by
 unfold maskG at hS
 split at hS
 ·rename_i at_ n
  simp only [spec_br,spec_ok] at hS
  cases hf:fieldB at_ n with
  | true =>
   have hS:=hS.1 hf
   obtain ⟨k,m,rfl,rfl,h1,h2,h3⟩:=fieldB_nat hf
   have c1:¬ ((k:Int)<0):=by omega
   have c2:¬ ((63:Int)<k):=by omega
   have c3:¬ ((m:Int)<1):=by omega
   have c4:¬ ((64:Int)-k<m):=by omega
   have w1:IntKind.i64.wrap (64-(k:Int))=64-k:=wrap64 (by omega) (by omega)
   have w2:IntKind.i64.wrap (64-(m:Int))=((64-m:Nat):Int):=by rw [wrap64]<;>omega
   have m1:min (64-m) IntKind.u64.bits=64-m:=by show min (64-m) 64=_; omega
   have m2:min k IntKind.u64.bits=k:=by show min k 64=_; omega
   have hm:=u64_mask (k:=k) (n:=m) h3
   have c5:(0:Int)<=((64-m:Nat):Int):=by omega
   have c6:(0:Int)<=(k:Int):=by omega
   simp (maxSteps:=999999) only [EV0,zy,zx,zw,zv,zu,zq,zp,zj,zk,leT,zg,rvC,zZ,zY,zX,zW,↓zV,↓zU,reduceCtorEq,zQ,yz,yZ,yy,yx,yw,yv,yu,yq,yY,yp,yj,yk,yX,yW,yV,yg,yU,yQ,df190,c1,c2,c3,c4,c5,c6,w1,w2,m1,m2,hm]
   exact hS
  | false =>
   have hS:=hS.2 hf
   have hn:¬ (0<=at_/\at_<=63/\1<=n/\n<=64-at_):=by simpa [fieldB] using hf
   by_cases c1:at_<0
   ·simp (maxSteps:=999999) only [EV0,zy,zx,zw,zv,zu,zq,zp,zj,zk,leT,zg,rvC,zZ,zY,zX,zW,↓zV,↓zU,reduceCtorEq,zQ,yz,yZ,yy,yx,yw,yv,yu,yq,yY,yp,yj,yk,yX,yW,yV,yg,yU,yQ,df190,c1]
    exact hS
   by_cases c2:63<at_
   ·simp (maxSteps:=999999) only [EV0,zy,zx,zw,zv,zu,zq,zp,zj,zk,leT,zg,rvC,zZ,zY,zX,zW,↓zV,↓zU,reduceCtorEq,zQ,yz,yZ,yy,yx,yw,yv,yu,yq,yY,yp,yj,yk,yX,yW,yV,yg,yU,yQ,df190,c1,c2]
    exact hS
   by_cases c3:n<1
   ·simp (maxSteps:=999999) only [EV0,zy,zx,zw,zv,zu,zq,zp,zj,zk,leT,zg,rvC,zZ,zY,zX,zW,↓zV,↓zU,reduceCtorEq,zQ,yz,yZ,yy,yx,yw,yv,yu,yq,yY,yp,yj,yk,yX,yW,yV,yg,yU,yQ,df190,c1,c2,c3]
    exact hS
   have w1:IntKind.i64.wrap (64-at_)=64-at_:=wrap64 (by omega) (by omega)
   have c4:64-at_<n:=by omega
   simp (maxSteps:=999999) only [EV0,zy,zx,zw,zv,zu,zq,zp,zj,zk,leT,zg,rvC,zZ,zY,zX,zW,↓zV,↓zU,reduceCtorEq,zQ,yz,yZ,yy,yx,yw,yv,yu,yq,yY,yp,yj,yk,yX,yW,yV,yg,yU,yQ,df190,c1,c2,c3,w1,c4]
   exact hS
 ·exact hS.elim

def W1:Tab:=addT 190 maskG noT
theorem W1_snd:W1.Snd Tryz.prog:=addT_snd ok190 mask_snd (noT_snd _)

def getG:List V->List Blk->Res
 | [.s (.i .u64 w), .s (.i .i64 at_), .s (.i .i64 n)],h=>.ob (u64 w) (.br (fieldB at_ n) (.ok (.tup [.s (.i .u64 (getV w at_ n)), .s (.i .i64 0)]) [] h) (.ok (.tup [.s (.i .u64 0), .s (.i .i64 10)]) [] h))
 | _,_=>.bad

theorem get_snd:Snd Tryz.prog 151 (FSpec.of getG):=snd_run W1_snd mixed Tryz.func151 dc151 100 fun args h K _ hS=>by
 unfold getG at hS
 split at hS
 ·rename_i w at_ n
  obtain ⟨hw,hS⟩:=hS
  simp only [spec_br,spec_ok] at hS
  obtain ⟨w,rfl,hw'⟩:=hw.nat
  cases hf:fieldB at_ n with
  | true =>
   have hS:=hS.1 hf
   obtain ⟨k,m,rfl,rfl,h1,h2,h3⟩:=fieldB_nat hf
   have m2:min k IntKind.u64.bits=k:=by show min k 64=_; omega
   have hg:=u64_get hw' h3
   have c6:(0:Int)<=(k:Int):=by omega
   simp (maxSteps:=999999) only [EV0,zy,zx,zw,zv,zu,zq,zp,zj,zk,leT,zg,rvC,zZ,zY,zX,zW,↓zV,↓zU,reduceCtorEq,zQ,yz,yZ,yy,yx,yw,yv,yu,yq,yY,yp,yj,yk,yX,yW,yV,yg,yU,yQ,df151,W1,maskG,hf,maskV,hg,m2,c6]
   exact hS
  | false =>
   have hS:=hS.2 hf
   simp (maxSteps:=999999) only [EV0,zy,zx,zw,zv,zu,zq,zp,zj,zk,leT,zg,rvC,zZ,zY,zX,zW,↓zV,↓zU,reduceCtorEq,zQ,yz,yZ,yy,yx,yw,yv,yu,yq,yY,yp,yj,yk,yX,yW,yV,yg,yU,yQ,df151,W1,maskG,hf]
   exact hS
 ·exact hS.elim

def setG:List V->List Blk->Res
 | [.s (.i .u64 w), .s (.i .i64 at_), .s (.i .i64 n), .s (.i .u64 v)],h=>.ob (u64 w/\u64 v) (.br (setB at_ n v) (.ok (.tup [.s (.i .u64 (setV w at_ n v)), .s (.i .i64 0)]) [] h) (.ok (.tup [.s (.i .u64 0), .s (.i .i64 10)]) [] h))
 | _,_=>.bad

theorem set_snd:Snd Tryz.prog 187 (FSpec.of setG):=snd_run W1_snd mixed Tryz.func187 dc187 100 fun args h K _ hS=>by
 unfold setG at hS
 split at hS
 ·rename_i w at_ n v
  obtain ⟨⟨hw,hv⟩,hS⟩:=hS
  simp only [spec_br,spec_ok] at hS
  obtain ⟨w,rfl,hw'⟩:=hw.nat
  obtain ⟨v,rfl,hv'⟩:=hv.nat
  cases hf:fieldB at_ n with
  | true =>
   obtain ⟨k,m,rfl,rfl,h1,h2,h3⟩:=fieldB_nat hf
   have m2:min k IntKind.u64.bits=k:=by show min k 64=_; omega
   have c6:(0:Int)<=(k:Int):=by omega
   have hfit:=u64_fits hv' h3
   by_cases hlt:v<2^m
   ·have hb:setB (k:Int) (m:Int) (v:Int)=true:=by simp [setB,hf,hlt]
    have hS:=hS.1 hb
    obtain ⟨f1,f2⟩:=hfit.2 hlt
    have hs:=u64_set hw' hlt h3
    simp (maxSteps:=999999) only [EV0,zy,zx,zw,zv,zu,zq,zp,zj,zk,leT,zg,rvC,zZ,zY,zX,zW,↓zV,↓zU,reduceCtorEq,zQ,yz,yZ,yy,yx,yw,yv,yu,yq,yY,yp,yj,yk,yX,yW,yV,yg,yU,yQ,df187,W1,maskG,hf,maskV,m2,c6,f1,f2,hs]
    exact hS
   ·have hb:setB (k:Int) (m:Int) (v:Int)=false:=by simp [setB,hlt]
    have hS:=hS.2 hb
    by_cases f1:IntKind.u64.wrap ((v:Int)*2^k)/2^k=(v:Int)
    ·have f2:¬ bits .andNot .u64 (IntKind.u64.wrap ((v:Int)*2^k)) (((2^m-1)*2^k:Nat):Int)=0:=fun e=>hlt (hfit.1 ⟨f1,e⟩)
     simp (maxSteps:=999999) only [EV0,zy,zx,zw,zv,zu,zq,zp,zj,zk,leT,zg,rvC,zZ,zY,zX,zW,↓zV,↓zU,reduceCtorEq,zQ,yz,yZ,yy,yx,yw,yv,yu,yq,yY,yp,yj,yk,yX,yW,yV,yg,yU,yQ,df187,W1,maskG,hf,maskV,m2,c6,f1,f2]
     exact hS
    ·simp (maxSteps:=999999) only [EV0,zy,zx,zw,zv,zu,zq,zp,zj,zk,leT,zg,rvC,zZ,zY,zX,zW,↓zV,↓zU,reduceCtorEq,zQ,yz,yZ,yy,yx,yw,yv,yu,yq,yY,yp,yj,yk,yX,yW,yV,yg,yU,yQ,df187,W1,maskG,hf,maskV,m2,c6,f1]
     exact hS
  | false =>
   have hb:setB at_ n (v:Int)=false:=by simp [setB,hf]
   have hS:=hS.2 hb
   simp (maxSteps:=999999) only [EV0,zy,zx,zw,zv,zu,zq,zp,zj,zk,leT,zg,rvC,zZ,zY,zX,zW,↓zV,↓zU,reduceCtorEq,zQ,yz,yZ,yy,yx,yw,yv,yu,yq,yY,yp,yj,yk,yX,yW,yV,yg,yU,yQ,df187,W1,maskG,hf]
   exact hS
 ·exact hS.elim

end Go.Proofs.YtcdfofeolgbnbaaGreat

/- Package caps: sizes,bare,in,mapped. -/
namespace Go.Proofs.YtcdfofeolgbnbaaGreat
open Go.D
set_option linter.all false
set_option maxRecDepth 100000
set_option maxHeartbeats 4000000

structure Cap where
 ty:Int
 obj:Int
 bits:Int
 mark:Int
 guard:Int
 gbits:Int
 badge:Int
 rights:Int
 asid:Int
 vaddr:Int
 line:Int
def Cap.cl (c:Cap):List S:=[.i .i64 c.ty, .i .i64 c.obj, .i .i64 c.bits, .i .i64 c.mark, .i .i64 c.guard, .i .i64 c.gbits, .i .i64 c.badge, .i .i64 c.rights, .i .i64 c.asid, .i .i64 c.vaddr, .i .i64 c.line]
def capF (f:Cap->Res):List V->Res
 | [.agg [.i .i64 a, .i .i64 b, .i .i64 c, .i .i64 d, .i .i64 e, .i .i64 g, .i .i64 i, .i .i64 j, .i .i64 k, .i .i64 l, .i .i64 m]]=>f ⟨a,b,c,d,e,g,i,j,k,l,m⟩
 | _=>.bad
theorem capF_spec {f:Cap->Res} {args:List V} {K:V->List Blk->Prop} (h:(capF f args).spec K):∃ c:Cap,args=[.agg c.cl]/\(f c).spec K:=by
 unfold capF at h
 split at h
 ·exact ⟨_,rfl,h⟩
 ·exact h.elim

theorem kinds (t:Int):t=0\/t=1\/t=2\/t=3\/t=4\/t=5\/t=6\/t=7\/t=8\/t=9\/t=10\/t=11\/t=12\/t=13 \/
  (¬ t=0/\¬ t=1/\¬ t=2/\¬ t=3/\¬ t=4/\¬ t=5/\¬ t=6/\¬ t=7/\¬ t=8/\¬ t=9/\¬ t=10/\¬ t=11/\¬ t=12/\¬ t=13/\(t<0\/13<t)):=by omega

def uRaw (b:Int):Int:=IntKind.i64.wrap (1*2^min (if bits .and .i64 b 31<0 then 0 else bits .and .i64 b 31).toNat IntKind.i64.bits)
def nRaw (b:Int):Int:=IntKind.i64.wrap (4*2^min (if (if 9<b then 9 else b)<0 then 0 else (if 9<b then 9 else b)).toNat IntKind.i64.bits)
def nOk (b:Int):Bool:=decide (1<=(if 9<b then 9 else b))&&decide ((if 9<b then 9 else b)<=8)
def szN (c:Cap):Int :=
 if c.ty=1 then uRaw c.bits else if c.ty=2 then nRaw c.bits else if c.ty=10 then (if c.bits=31 then 64 else nRaw c.bits)
 else if c.ty=3 then 64 else if c.ty=9 then 64 else if c.ty=4 then 4 else if c.ty=5 then 8 else if c.ty=6 then 8 else if c.ty=7 then 8 else if c.ty=8 then 16 else 0
def szB (c:Cap):Bool :=
 if c.ty=1 then decide (4<=c.bits)&&decide (c.bits<=15) else if c.ty=2 then nOk c.bits else if c.ty=10 then (if c.bits=31 then true else nOk c.bits) else true

def nodeG:List V->List Blk->Res
 | [.s (.i .i64 b)],h=>.ok (.tup [.s (.i .i64 (IntKind.i64.wrap (4*2^min (if b<0 then 0 else b).toNat IntKind.i64.bits))), .s (.b (decide (1<=b)&&decide (b<=8)))]) [] h
 | _,_=>.bad
theorem if_nn (b:Int):0<=(if b<0 then 0 else b):=by split<;>omega
theorem node_snd:Snd Tryz.prog 191 (FSpec.of nodeG):=snd_run (noT_snd _) mixed Tryz.func191 dc191 100 fun args h K _ hS=>by
 unfold nodeG at hS
 split at hS
 ·rename_i b
  simp only [spec_ok] at hS
  have:=if_nn b
  simp (maxSteps:=999999) only [go_sem,simprocAttr,↓qT,↓qF,df191,this]
  exact hS
 ·exact hS.elim

def sizesG (args:List V) (h:List Blk):Res:=capF (fun c=>.ok (.tup [.s (.i .i64 (szN c)), .s (.b (szB c))]) [] h) args
def TN:Tab:=addT 191 nodeG noT
theorem TN_snd:TN.Snd Tryz.prog:=addT_snd ok191 node_snd (noT_snd _)
theorem sizes_snd:Snd Tryz.prog 155 (FSpec.of sizesG):=snd_run TN_snd mixed Tryz.func155 dc155 100 fun args h K _ hS=>by
 obtain ⟨⟨t,o,b,d,e,g,i,j,k,l,m⟩,rfl,hR⟩:=capF_spec hS
 have n1:=if_nn (bits .and .i64 b 31)
 simp only [Cap.cl,spec_ok,szN,szB] at hR ⊢
 rcases kinds t with rfl|rfl|rfl|rfl|rfl|rfl|rfl|rfl|rfl|rfl|rfl|rfl|rfl|rfl|⟨k0,k1,k2,k3,k4,k5,k6,k7,k8,k9,k10,k11,k12,k13,ho⟩
 all_goals try simp only [k1,k2,k3,k4,k5,k6,k7,k8,k9,k10,if_false] at hR
 all_goals try simp only [Int.reduceEq,if_true,if_false] at hR
 all_goals try simp (maxSteps:=999999) only [go_sem,simprocAttr,↓qT,↓qF,df155,TN,nodeG,n1,k1,k2,k3,k4,k5,k6,k7,k8,k9,k10]
 all_goals try simp (maxSteps:=999999) only [go_sem,simprocAttr,↓qT,↓qF,df155,TN,nodeG,n1]
 all_goals try exact hR
 ·exact ⟨fun h=>by simp only [h,if_true] at hR; exact hR,fun h=>by simp only [h,if_false] at hR; exact hR⟩
end Go.Proofs.YtcdfofeolgbnbaaGreat

/- The arguments of a statement: what is read of them becomes values over read-only blocks; behind the call they read as before. -/
namespace Go.D
set_option linter.all false
variable [Tabs]

inductive TY where
 | int (k:IntKind)
 | bool
 | slice (e:List TY)

mutual
def hasT (h:List Blk):TY->S->Prop
 | .int k,s=>∃ n,s=.i k n/\(Lit.int k n).wf=true
 | .bool,s=>∃ b,s=.b b
 | .slice e,s=>s=.ns\/(∃ a c,s=.es a c)\/∃ (j n c:Nat) (E:List (List S)) (st:BK) (room:Nat),s=.sl (.g j) 0 n c/\n<=c/\n<=140737488355328/\h[j]?=some ⟨st,E.flatten,room⟩/\E.length=n/\(n≠0->st=.ro)/\st≠.rw/\∀ x,x∈E->hasTs h e x
def hasTs (h:List Blk):List TY->List S->Prop
 | [],[]=>True
 | t::ts,s::ss=>hasT h t s/\hasTs h ts ss
 | _,_=>False
end

structure RO (σ:Sg) (h:List Blk) (w:World):Prop where
 ok:∀ k B,h[k]?=some B->B.st≠.rw/\OkBlk σ w (.g k) B
 val:∀ B,B∈h->vals h.length 0 B.cells=true

theorem RO.sim {σ:Sg} {h:List Blk} {w:World} (H:RO σ h w):Sim σ h [] w:=by
 refine ⟨fun r B hb=>?_,fun r r' B B' hb hb' hne hst hd=>?_,H.val,fun B hB=>by cases hB⟩
 ·cases r with
  | g k=>exact (H.ok k B hb).2
  | l k=>simp [blk] at hb
 ·cases r with
  | g k=>exact absurd hst (H.ok k B hb).1
  | l k=>simp [blk] at hb

mutual
theorem hasT_mono {h h':List Blk}:∀ {t:TY} {s:S},hasT h t s->hasT (h++h') t s
 | .int k,s,hs=>hs
 | .bool,s,hs=>hs
 | .slice e,s,hs=>by
  rcases hs with hs|hs|⟨j,n,c,E,st,room,h1,h2,h3,h4,h5,h6,h7,h8⟩
  ·exact .inl hs
  ·exact .inr (.inl hs)
  ·exact .inr (.inr ⟨j,n,c,E,st,room,h1,h2,h3,by rw [List.getElem?_append_left (List.getElem?_eq_some_iff.1 h4).1]; exact h4,h5,h6,h7,fun x hx=>hasTs_mono (h8 x hx)⟩)
theorem hasTs_mono {h h':List Blk}:∀ {ts:List TY} {ss:List S},hasTs h ts ss->hasTs (h++h') ts ss
 | [],[],_=>trivial
 | t::ts,s::ss,hs=>⟨hasT_mono hs.1,hasTs_mono hs.2⟩
 | [],_::_,hs=>hs.elim
 | _::_,[],hs=>hs.elim
end

/-! ### types,flattened -/
def tyFields (P:Program) (r:TypeId->Option (List TY)):List Field->Nat->Option (List TY)
 | [],_=>some []
 | f::fs,off=>match r f.type,tyFields P r fs (off+P.cellsOf f.type) with
  | some l,some q=>if f.offset=off/\l.length=P.cellsOf f.type then some (l++q) else none
  | _,_=>none

def tyOf (P:Program):Nat->TypeId->Option (List TY)
 | 0,_=>none
 | d+1,t=>match P.underlying t with
  | some (.int k)=>some [.int k]
  | some .bool=>some [.bool]
  | some (.slice e)=>match tyOf P d e with
   | some l=>if l.length=P.cellsOf e/\0<l.length/\0<P.bytesOf e then some [.slice l] else none
   | none=>none
  | some (.struct fs)=>match tyFields P (tyOf P d) fs.toList 0 with
   | some l=>if l.length=P.cellsOf t then some l else none
   | none=>none
  | some (.array n e)=>match tyOf P d e with
   | some l=>if l.length=P.cellsOf e/\P.cellsOf t=n*P.cellsOf e then some (List.replicate n l).flatten else none
   | none=>none
  | _=>none

section
variable {H:Type} {enc:TypeId×Value->H} {P:Program} {w:World}

def Opens (w:World) (cs:List Value) (tys:List TY):Prop :=
 ∀ (σ:Sg) (h:List Blk),RO σ h w->∃ (h':List Blk) (σ':Sg) (ss:List S),(∀ k,k<h.length->σ' (.g k)=σ (.g k))/\RO σ' (h++h') w/\hasTs (h++h') tys ss/\ss.map (S.tr σ')=cs/\vals (h++h').length 0 ss=true/\known ss=true

theorem hasTs_append {h:List Blk}:∀ {t1 t2:List TY} {s1 s2:List S},hasTs h t1 s1->hasTs h t2 s2->hasTs h (t1++t2) (s1++s2)
 | [],_,[],_,_,h2=>h2
 | _::_,_,_::_,_,h1,h2=>⟨h1.1,hasTs_append h1.2 h2⟩
 | [],_,_::_,_,h1,_=>h1.elim
 | _::_,_,[],_,h1,_=>h1.elim

theorem hasTs_length {h:List Blk}:∀ {ts:List TY} {ss:List S},hasTs h ts ss->ss.length=ts.length
 | [],[],_=>rfl
 | _::_,_::_,h1=>by simp [hasTs_length h1.2]
 | [],_::_,h1=>h1.elim
 | _::_,[],h1=>h1.elim

theorem trs_old {σ σ':Sg} {n:Nat} (hA:∀ k,k<n->σ' (.g k)=σ (.g k)) {ss:List S} (hv:vals n 0 ss=true):ss.map (S.tr σ')=ss.map (S.tr σ):=by
 simp only [vals,List.all_eq_true] at hv
 refine List.map_congr_left fun s hs=>S.tr_congr (n:=n) (m:=0) (fun r hr=>?_) s (hv s hs)
 cases r with
 | g k=>exact hA k (by simpa [R.val] using hr)
 | l k=>simp [R.val] at hr

theorem Opens.nil:Opens w [] []:=fun σ h H=>⟨[], σ,[],fun _ _=>rfl,by simpa using H,trivial,rfl,rfl,rfl⟩

theorem Opens.append {c1 c2:List Value} {t1 t2:List TY} (h1:Opens w c1 t1) (h2:Opens w c2 t2):Opens w (c1++c2) (t1++t2):=fun σ h H=>by
 obtain ⟨ha, σa,sa,a1,a2,a3,a4,a5,a6⟩:=h1 σ h H
 obtain ⟨hb, σb,sb,b1,b2,b3,b4,b5,b6⟩:=h2 σa (h++ha) a2
 refine ⟨ha++hb, σb,sa++sb,fun k hk=>?_,by rw [<-List.append_assoc]; exact b2, ?_, ?_, ?_, ?_⟩
 ·rw [b1 k (by simp; omega),a1 k hk]
 ·rw [<-List.append_assoc]; exact hasTs_append (hasTs_mono a3) b3
 ·rw [List.map_append,b4,trs_old b1 a5,a4]
 ·rw [<-List.append_assoc]
  simp only [vals,List.all_append,Bool.and_eq_true]
  exact ⟨vals_mono (by simp) (Nat.le_refl _) a5,b5⟩
 ·simp only [known,List.all_append,Bool.and_eq_true]
  exact ⟨a6,b6⟩

theorem Opens.one {v:Value} {t:TY} (h:∀ σ:Sg,∀ h:List Blk,∃ s:S,hasT h t s/\s.tr σ=v/\s.val 0 0=true/\V.known (.s s)=true):Opens w [v] [t]:=fun σ h0 H=>by
 obtain ⟨s,e1,e2,e3,e4⟩:=h σ h0
 refine ⟨[], σ,[s],fun _ _=>rfl,by simpa using H,⟨by simpa using e1,trivial⟩,by simp [e2], ?_, ?_⟩
 ·simp only [vals,List.all_cons,List.all_nil,Bool.and_true]
  exact S.val_mono (Nat.zero_le _) (Nat.zero_le _) e3
 ·rw [known_cons,e4]; rfl

theorem Opens.list {l:List TY} (C:Nat->List Value):∀ m:Nat,(∀ i,i<m->Opens w (C i) l)->∀ (σ:Sg) (h:List Blk),RO σ h w->∃ (h':List Blk) (σ':Sg) (E:List (List S)),(∀ k,k<h.length->σ' (.g k)=σ (.g k))/\RO σ' (h++h') w/\E.length=m /\
   (∀ x,x∈E->hasTs (h++h') l x)/\E.flatten.map (S.tr σ')=((List.range m).map C).flatten/\vals (h++h').length 0 E.flatten=true/\known E.flatten=true
 | 0,_, σ,h,H=>⟨[], σ,[],fun _ _=>rfl,by simpa using H,rfl,fun x hx=>absurd hx List.not_mem_nil,rfl,rfl,rfl⟩
 | m+1,hC, σ,h,H=>by
  obtain ⟨ha, σa,E,a1,a2,a3,a4,a5,a6,a7⟩:=Opens.list C m (fun i hi=>hC i (by omega)) σ h H
  obtain ⟨hb, σb,sb,b1,b2,b3,b4,b5,b6⟩:=hC m (by omega) σa (h++ha) a2
  refine ⟨ha++hb, σb,E++[sb],fun k hk=>?_,by rw [<-List.append_assoc]; exact b2,by simp [a3],fun x hx=>?_, ?_, ?_, ?_⟩
  ·rw [b1 k (by simp; omega),a1 k hk]
  ·rw [<-List.append_assoc]
   rcases List.mem_append.1 hx with h1|h1
   ·exact hasTs_mono (a4 x h1)
   ·simp only [List.mem_singleton] at h1; subst h1; exact b3
  ·rw [List.flatten_append,List.map_append,trs_old b1 a6,a5,List.range_succ,List.map_append,List.flatten_append]
   simp [b4]
  ·rw [<-List.append_assoc,List.flatten_append,show [sb].flatten=sb by simp]
   simp only [vals,List.all_append,Bool.and_eq_true]
   exact ⟨vals_mono (by simp) (Nat.le_refl _) a6,b5⟩
  ·rw [List.flatten_append,show [sb].flatten=sb by simp]
   simp only [known,List.all_append,Bool.and_eq_true]
   exact ⟨a7,b6⟩

theorem Opens.slice {l:List TY} {a:Addr} {len cap k:Nat} (ha:a.spot=none) (hk:l.length=k) (hlc:len<=cap) (hcm:len<=140737488355328) (C:Nat->List Value) (hC:∀ i,i<len->Opens w (C i) l)
  (hcell:∀ i j,i<len->j<k->∃ v,(C i)[j]?=some v/\w.cell? (a.add (i*k+j))=some v) (hlen:∀ i,i<len->(C i).length=k) (hsz:len≠0->a.block<w.heap.size):Opens w [.slice (some a) len cap] [.slice l]:=fun σ h H=>by
 obtain ⟨ha', σa,E,a1,a2,a3,a4,a5,a6,a7⟩:=Opens.list C len hC σ h H
 let n:=(h++ha').length
 let σ':Sg:=fun r=>if r=.g n then (a.block,a.off) else σa r
 have hσ:∀ k,k<n->σ' (.g k)=σa (.g k):=fun k hk=>by
  show (if R.g k=.g n then _ else _)=_
  rw [if_neg (by intro e; cases e; omega)]
 have hσn:σ' (.g n)=(a.block,a.off):=by
  show (if R.g n=.g n then _ else _)=_
  rw [if_pos rfl]
 have hEl:∀ x,x∈E->x.length=k:=fun x hx=>by rw [hasTs_length (a4 x hx),hk]
 have hEt:E.flatten.map (S.tr σ')=((List.range len).map C).flatten:=by rw [trs_old hσ a6,a5]
 have hflat:∀ (m:Nat) (q:Nat) (v:Value),m<=len->(((List.range m).map C).flatten)[q]?=some v->w.cell? (a.add q)=some v/\q<m*k:=by
  intro m
  induction m with
  | zero=>intro q v _ h; simp at h
  | succ m ih =>
   intro q v hm hq
   have hl:(((List.range m).map C).flatten).length=m*k:=by
    have:∀ m',m'<=len->(((List.range m').map C).flatten).length=m'*k:=by
     intro m'
     induction m' with
     | zero=>intro _; simp
     | succ m' ih'=>intro hm'; rw [List.range_succ,List.map_append,List.flatten_append,List.length_append,ih' (by omega)]; simp [hlen m' (by omega),Nat.succ_mul]
    exact this m (by omega)
   rw [List.range_succ,List.map_append,List.flatten_append] at hq
   by_cases hlt:q<m*k
   ·rw [List.getElem?_append_left (by omega)] at hq
    obtain ⟨h1,h2⟩:=ih q v (by omega) hq
    exact ⟨h1,by rw [Nat.succ_mul]; omega⟩
   ·rw [List.getElem?_append_right (by omega),hl] at hq
    simp only [List.map_cons,List.map_nil,List.flatten_cons,List.flatten_nil,List.append_nil] at hq
    have hj:q-m*k<k:=by
     have:=(List.getElem?_eq_some_iff.1 hq).1
     rw [hlen m (by omega)] at this; exact this
    obtain ⟨v',h1,h2⟩:=hcell m (q-m*k) (by omega) hj
    rw [hq] at h1
    cases h1
    have e:m*k+(q-m*k)=q:=by omega
    rw [e] at h2
    exact ⟨h2,by rw [Nat.succ_mul]; omega⟩
 let B:Blk:=⟨if len=0 then .dead else .ro,E.flatten,0⟩
 have hBst:B.st≠.rw:=by
  show (if len=0 then BK.dead else .ro)≠.rw
  split<;>simp
 have hn1:(h++(ha'++[B])).length=n+1:=by simp only [n,List.length_append,List.length_cons,List.length_nil]; omega
 refine ⟨ha'++[B], σ',[.sl (.g n) 0 len cap],fun k hk=>?_,⟨fun k B' hB=>?_,fun B' hB=>?_⟩,⟨.inr (.inr ⟨n,len,cap,E,_,0,rfl,hlc,hcm, ?_,a3,fun h0=>if_neg h0,hBst,fun x hx=>?_⟩),trivial⟩, ?_, ?_,rfl⟩
 ·rw [hσ k (by show k<(h++ha').length; simp; omega),a1 k hk]
 ·rw [<-List.append_assoc] at hB
  by_cases hk:k<n
  ·rw [List.getElem?_append_left hk] at hB
   obtain ⟨c1,c2⟩:=a2.ok k B' hB
   refine ⟨c1,c2.move (n:=n) (m:=0) (hσ k hk) (fun r hr=>?_) (a2.val B' (List.mem_of_getElem? hB)) (Nat.le_refl _) (fun _=>rfl)⟩
   cases r with
   | g i=>exact hσ i (by simpa [R.val] using hr)
   | l i=>simp [R.val] at hr
  ·have hkn:k=n:=by
    have:=(List.getElem?_eq_some_iff.1 hB).1
    simp only [List.length_append,List.length_cons,List.length_nil] at this
    simp only [n,List.length_append] at hk ⊢
    omega
   subst hkn
   rw [List.getElem?_append_right (Nat.le_refl _),Nat.sub_self] at hB
   simp only [List.getElem?_cons_zero,Option.some.injEq] at hB
   subst hB
   refine ⟨hBst, ?_⟩
   unfold OkBlk
   show match (if len=0 then BK.dead else .ro) with
    | .dead=>True
    | .ro=>_
    | .rw=>_
   by_cases h0:len=0
   ·rw [if_pos h0]; trivial
   ·rw [if_neg h0]
    refine ⟨by rw [hσn]; exact hsz h0,fun i s hs _=>?_⟩
    have h1:(E.flatten.map (S.tr σ'))[i]?=some (s.tr σ'):=by
     rw [List.getElem?_map,show E.flatten[i]?=some s from hs]; rfl
    rw [hEt] at h1
    have h2:=(hflat len i _ (Nat.le_refl _) h1).1
    have e:a.add i=adr σ' (.g n) i:=by
     simp only [adr,hσn,Addr.add]
     cases a; simp only at ha; subst ha
     by_cases hi:i=0
     ·subst hi; simp
     ·simp [hi]
    rw [<-e]; exact h2
 ·rw [hn1]
  rw [<-List.append_assoc] at hB
  rcases List.mem_append.1 hB with hB|hB
  ·exact vals_mono (Nat.le_succ n) (Nat.le_refl _) (a2.val B' hB)
  ·simp only [List.mem_singleton] at hB
   subst hB
   exact vals_mono (Nat.le_succ n) (Nat.le_refl _) a6
 ·rw [<-List.append_assoc,List.getElem?_append_right (Nat.le_refl _),Nat.sub_self]; rfl
 ·rw [<-List.append_assoc]; exact hasTs_mono (a4 x hx)
 ·simp only [List.map_cons,List.map_nil,S.tr,adr,hσn,Nat.add_zero]
  cases a; simp only at ha; subst ha; rfl
 ·rw [hn1]; simp [vals,S.val,R.val]


theorem Opens.fields {d:TypeId->Option (List TY)} {cs:List Value}:∀ (fs:List Field) (off:Nat) (tys:List TY),tyFields P d fs off=some tys->off+tys.length=cs.length ->
   (∀ f,f∈fs->∀ l,d f.type=some l->l.length=P.cellsOf f.type->f.offset+P.cellsOf f.type<=cs.length->Opens w ((cs.drop f.offset).take (P.cellsOf f.type)) l)->Opens w (cs.drop off) tys
 | [],off,tys,ht,hl,_=>by
  simp only [tyFields,Option.some.injEq] at ht
  subst ht
  rw [List.drop_eq_nil_of_le (by simp at hl; omega)]
  exact Opens.nil
 | f::fs,off,tys,ht,hl,hf=>by
  simp only [tyFields] at ht
  split at ht
  ·rename_i l q h1 h2
   split at ht
   ·rename_i hc
    cases ht
    obtain ⟨h3,h4⟩:=hc
    simp only [List.length_append] at hl
    have ih:=Opens.fields fs (off+P.cellsOf f.type) q h2 (by omega) (fun g hg=>hf g (List.mem_cons_of_mem _ hg))
    have h0:=hf f List.mem_cons_self l h1 h4 (by rw [h3]; omega)
    rw [h3] at h0
    have e:cs.drop off=(cs.drop off).take (P.cellsOf f.type)++cs.drop (off+P.cellsOf f.type):=by
     rw [<-List.drop_drop,List.take_append_drop]
    rw [e]
    exact h0.append ih
   ·cases ht
  ·cases ht

theorem Opens.array {k:Nat} {l:List TY} (hk:l.length=k):∀ (n:Nat) (cs:List Value),cs.length=n*k->(∀ i,i<n->Opens w ((cs.drop (i*k)).take k) l)->Opens w cs (List.replicate n l).flatten
 | 0,cs,hl,_=>by
  have:cs=[]:=by cases cs<;>simp_all
  subst this
  exact Opens.nil
 | n+1,cs,hl,h=>by
  have h0:=h 0 (by omega)
  simp only [Nat.zero_mul,List.drop_zero] at h0
  have ih:=Opens.array hk n (cs.drop k) (by simp [hl,Nat.succ_mul]) (fun i hi=>by
   have:=h (i+1) (by omega)
   rw [List.drop_drop]
   have e:k+i*k=(i+1)*k:=by rw [Nat.succ_mul]; omega
   rw [e]; exact this)
  have e:cs=cs.take k++cs.drop k:=(List.take_append_drop _ _).symm
  rw [e,List.replicate_succ,List.flatten_cons]
  exact h0.append ih


theorem weightsAll_mem {e:TypeId}:∀ {l:List (DataW H)} {d:DataW H},d∈l->∀ n,n∈d.weights P e->n∈DataW.weightsAll P e l
 | x::l,d,h,n,hn=>by
  simp only [DataW.weightsAll,List.mem_append]
  rcases List.mem_cons.1 h with rfl|h
  ·exact .inl hn
  ·exact .inr (weightsAll_mem h n hn)

theorem open_trod {base:Nat} {spare:Nat->Bool} {held:Bool}:∀ (d:Nat) (n:Nat) (t:TypeId) (cs:List Value) (x:DataW H×List MemPlace) (tys:List TY),
  DataW.trod enc P w base spare held n t cs=some x->tyOf P d t=some tys->(∀ k,k∈x.1.weights P t->k<=reachBytes)->Opens w cs tys
 | 0,_,_,_,_,_,_,ht,_=>by simp [tyOf] at ht
 | d+1,n,t,cs,x,tys,hx,ht,hw=>by
  simp only [tyOf] at ht
  split at ht
  ·rename_i k hu
   cases ht
   obtain ⟨m,rfl,_,hwf⟩:=DataW.trod_int hu hx
   exact Opens.one fun σ h=>⟨.i k m,⟨m,rfl,hwf⟩,rfl,rfl,rfl⟩
  ·rename_i hu
   cases ht
   obtain ⟨b,rfl,_⟩:=DataW.trod_bool hu hx
   exact Opens.one fun σ h=>⟨.b b,⟨b,rfl⟩,rfl,rfl,rfl⟩
  ·rename_i e hu
   split at ht
   ·rename_i l hl
    split at ht
    ·rename_i hc
     cases ht
     rcases DataW.trod_slice hu hx with ⟨rfl,_⟩|⟨a,len,cap,elems,rest,m,_,rfl,rfl,hb,hlc,hcm,hel,hE,_,_⟩
     ·exact Opens.one fun σ h=>⟨.ns, .inl rfl,rfl,rfl,rfl⟩
     ·by_cases hl0:len=0
      ·subst hl0
       exact Opens.one fun σ h=>⟨.es a cap, .inr (.inl ⟨a,cap,rfl⟩),rfl,rfl,rfl⟩
      have hget:∀ i,i<len->∃ cs',w.cells? base (a.add (i*P.cellsOf e)) (P.cellsOf e)=some cs'/\∃ y,DataW.trod enc P w base spare held m e cs'=some y:=fun i hi=>by
       have:=hE i hi
       rw [List.getElem?_eq_getElem (by omega)] at this
       obtain ⟨cs',h1,h2⟩:=Option.bind_eq_some_iff.1 this
       exact ⟨cs',h1,_,h2⟩
      let C:Nat->List Value:=fun i=>(w.cells? base (a.add (i*P.cellsOf e)) (P.cellsOf e)).getD []
      have hC:∀ i,i<len->w.cells? base (a.add (i*P.cellsOf e)) (P.cellsOf e)=some (C i):=fun i hi=>by
       obtain ⟨cs',h1,_⟩:=hget i hi
       simp only [C,h1,Option.getD_some]
      have hadd:∀ i j,(a.add i).add j=a.add (i+j):=fun i j=>by
       simp only [Addr.add]
       by_cases hi:i=0
       ·subst hi; simp
       ·by_cases hj:j=0
        ·subst hj; simp [hi]
        ·simp [hi,hj,Nat.add_assoc]
      have hsp:a.spot=none:=by
       obtain ⟨_,h3,h4⟩:=World.cells?_some (hC 0 (by omega))
       have h5:=h4 0 (by have:=hc.1; omega)
       rw [List.getElem?_eq_getElem (by have:=hc.1; omega)] at h5
       have h6:=World.cell?_spot h5
       simpa [Addr.add] using h6
      have hbound:len<=140737488355328:=by
       have h1:=hw ((elems.length+rest.length)*P.bytesOf e) (by simp [DataW.weights,hu])
       have h2:=reachBytes_lt
       have h3:=hc.2.2
       have h4:len<=(elems.length+rest.length)*P.bytesOf e:=by
        calc len<=elems.length+rest.length:=by omega
         _<=(elems.length+rest.length)*P.bytesOf e:=Nat.le_mul_of_pos_right _ h3
       omega
      refine Opens.slice (k:=P.cellsOf e) hsp hc.1 hlc hbound C (fun i hi=>?_) (fun i j hi hj=>?_) (fun i hi=>(World.cells?_some (hC i hi)).2.1) (fun h0=>?_)
      ·obtain ⟨cs',h1,y,h2⟩:=hget i hi
       rw [hC i hi] at h1
       cases h1
       have hy:elems[i]?=some y:=by
        rw [<-hE i hi,hC i hi]; exact h2
       exact open_trod d m e (C i) y l h2 hl fun k hk=>hw k (by
        simp only [DataW.weights,hu,List.mem_cons,List.mem_append]
        exact .inr (.inl (weightsAll_mem (List.mem_map.2 ⟨y,List.mem_of_getElem? hy,rfl⟩) k hk)))
      ·obtain ⟨_,h3,h4⟩:=World.cells?_some (hC i hi)
       have h5:=h4 j hj
       rw [List.getElem?_eq_getElem (by omega),hadd] at h5
       exact ⟨_,List.getElem?_eq_getElem (by omega),h5⟩
      ·have h3:=hC 0 (by omega)
       obtain ⟨_,h4,h5⟩:=World.cells?_some h3
       have h6:=h5 0 (by have:=hc.1; omega)
       rw [List.getElem?_eq_getElem (by have:=hc.1; omega),hadd] at h6
       simp only [Nat.zero_mul,Nat.add_zero,Addr.add,if_true] at h6
       unfold World.cell? at h6
       cases hb:w.heap[a.block]? with
       | none=>rw [hb] at h6; cases h6
       | some o=>exact (Array.getElem?_eq_some_iff.1 hb).1
    ·cases ht
   ·cases ht
  ·rename_i fs hu
   split at ht
   ·rename_i l hl
    split at ht
    ·rename_i hlen
     have ht':l=tys:=by simpa using ht
     rw [<-ht']
     obtain ⟨xs,m,_,rfl,hcs,hxs,hf⟩:=DataW.trod_struct hu hx
     have:=Opens.fields (w:=w) (cs:=cs) fs.toList 0 l hl (by omega) (fun f hf' q hq hql hle=>by
      obtain ⟨i,hi,rfl⟩:=List.mem_iff_getElem.1 hf'
      have hi':i<fs.size:=by simpa using hi
      have h1:=hf i fs[i] (Array.getElem?_eq_getElem hi')
      rw [List.getElem?_eq_getElem (by omega)] at h1
      exact open_trod d m _ _ _ q h1 hq fun k hk=>hw k (by
       simp only [DataW.weights,hu]
       exact DataW.weights_mem_each (j:=i) (t:=fs[i].type) (d:=(xs[i]'(by omega)).1) (by simp [hi']) (by rw [List.getElem?_map,List.getElem?_eq_getElem (by omega)]; rfl) k hk))
     simpa using this
    ·cases ht
   ·cases ht
  ·rename_i m e hu
   split at ht
   ·rename_i l hl
    split at ht
    ·rename_i hc
     cases ht
     obtain ⟨xs,f,_,rfl,hcs,hxs,hf⟩:=DataW.trod_array hu hx
     refine Opens.array (k:=P.cellsOf e) hc.1 m cs (by rw [hcs,hc.2]) (fun i hi=>?_)
     have h1:=hf i hi
     rw [List.getElem?_eq_getElem (by omega)] at h1
     exact open_trod d f _ _ _ l h1 hl fun k hk=>hw k (by
      simp only [DataW.weights,hu]
      exact weightsAll_mem (List.mem_map.2 ⟨_,List.getElem_mem _,rfl⟩) k hk)
    ·cases ht
   ·cases ht
  ·cases ht

end

end Go.D

