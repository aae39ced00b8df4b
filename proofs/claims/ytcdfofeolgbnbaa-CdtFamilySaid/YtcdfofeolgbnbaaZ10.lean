/- The document's caps: Only,size,address,in. -/
import Derived.Laws.BitsLemmas
import Derived.Laws.Bits64b
import Derived.Lib.EndianBits
import Derived.Test.YtcdfofeolgbnbaaZ9
import Derived.Test.YtcdfofeolgbnbaaZ8
/- Fields of 64 bits,as numbers. -/
namespace Go.D
set_option linter.all false

theorem c_div (a k : Nat) : ((a / 2 ^ k : Nat) : Int) = (a : Int) / 2 ^ k:=by
 rw [Int.natCast_ediv,Int.natCast_pow]; rfl
theorem c_mul (a k : Nat) : ((a * 2 ^ k : Nat) : Int) = (a : Int) * 2 ^ k:=by
 rw [Int.natCast_mul,Int.natCast_pow]; rfl
theorem c_mod (a m : Nat) : ((a % m : Nat) : Int) = (a : Int) % (m : Int):=Int.natCast_emod a m

theorem nat_and_field (w k n : Nat) : w &&& ((2 ^ n - 1) * 2 ^ k) = w / 2 ^ k % 2 ^ n * 2 ^ k:=by
 apply Nat.eq_of_testBit_eq
 intro i
 rw [Nat.testBit_and,Nat.testBit_mul_two_pow,Nat.testBit_mul_two_pow,Nat.testBit_two_pow_sub_one,Nat.testBit_mod_two_pow,Nat.testBit_div_two_pow]
 by_cases h : k ≤ i
 ·have e : i - k + k = i:=by omega
  simp only [h,decide_true,Bool.true_and,e]
  rw [Bool.and_comm]
 ·simp [h]

def clr (w k n : Nat) : Nat:=2 ^ (k + n) * (w / 2 ^ (k + n)) + w % 2 ^ k

theorem clr_testBit (w k n i : Nat) : (clr w k n).testBit i = (w.testBit i && !(decide (k ≤ i) && decide (i < k + n))):=by
 unfold clr
 have hlt : w % 2 ^ k < 2 ^ (k + n):=Nat.lt_of_lt_of_le (Nat.mod_lt _ (Nat.two_pow_pos k)) (Nat.pow_le_pow_right (by decide) (by omega))
 rw [Nat.testBit_two_pow_mul_add _ hlt,Nat.testBit_mod_two_pow,Nat.testBit_div_two_pow]
 by_cases h1 : i < k + n
 ·by_cases h2 : k ≤ i
  ·simp [h1,h2]; intro h; omega
  ·have : i < k:=by omega
   simp [h1,h2,this]
 ·have h2 : k ≤ i:=by omega
  have e : i - (k + n) + (k + n) = i:=by omega
  simp [h1,h2,e]

theorem bits_andNot_u64 (a b : Nat) (ha : a < 18446744073709551616) (hb : b < 18446744073709551616) (r : Nat) (h : ∀ i,i < 64 → r.testBit i = (a.testBit i && !b.testBit i)) (hr : r < 18446744073709551616) : bits .andNot .u64 a b = (r : Int):=by
 simp only [bits,BitVec.ofInt_natCast]
 have : (BitVec.ofNat IntKind.u64.bits a &&& ~~~BitVec.ofNat IntKind.u64.bits b).toNat = r:=by
  apply Nat.eq_of_testBit_eq
  intro i
  by_cases hi : i < 64
  ·rw [BitVec.toNat_and,Nat.testBit_and,BitVec.testBit_toNat,BitVec.testBit_toNat,BitVec.getLsbD_not,h i hi]
   have h1 : (BitVec.ofNat IntKind.u64.bits a).getLsbD i = a.testBit i:=by
    rw [BitVec.getLsbD_ofNat]; simp [IntKind.bits,hi]
   have h2 : (BitVec.ofNat IntKind.u64.bits b).getLsbD i = b.testBit i:=by
    rw [BitVec.getLsbD_ofNat]; simp [IntKind.bits,hi]
   rw [h1,h2]
   simp [IntKind.bits,hi]
  ·have h1 : r.testBit i = false:=Nat.testBit_lt_two_pow (Nat.lt_of_lt_of_le hr (by
    calc 18446744073709551616 = 2 ^ 64:=by decide
     _ ≤ 2 ^ i:=Nat.pow_le_pow_right (by decide) (by omega)))
   rw [h1]
   refine Nat.testBit_lt_two_pow (Nat.lt_of_lt_of_le (BitVec.isLt _) ?_)
   exact Nat.pow_le_pow_right (by decide) (by show 64 ≤ i; omega)
 rw [this]
 exact wraps_u64 _ (by omega) (by omega)

theorem pow_le64 {k n : Nat} (h : k + n ≤ 64) : 2 ^ (k + n) ≤ 18446744073709551616:=by
 calc 2 ^ (k + n) ≤ 2 ^ 64:=Nat.pow_le_pow_right (by decide) h
  _ = 18446744073709551616:=by decide

theorem mask_lt {k n : Nat} (h : k + n ≤ 64) : (2 ^ n - 1) * 2 ^ k < 18446744073709551616:=by
 have h1:=pow_le64 h
 have h2 : (2 ^ n - 1) * 2 ^ k < 2 ^ n * 2 ^ k:=Nat.mul_lt_mul_of_pos_right (by have:=Nat.two_pow_pos n; omega) (Nat.two_pow_pos k)
 rw [← Nat.pow_add,Nat.add_comm n k] at h2
 omega

theorem mask_testBit (k n i : Nat) : ((2 ^ n - 1) * 2 ^ k).testBit i = (decide (k ≤ i) && decide (i < k + n)):=by
 rw [Nat.testBit_mul_two_pow,Nat.testBit_two_pow_sub_one]
 by_cases h : k ≤ i
 ·simp only [h,decide_true,Bool.true_and]
  congr 1
  rw [eq_iff_iff]; omega
 ·simp [h]

theorem u64_mask {k n : Nat} (h : k + n ≤ 64) : IntKind.u64.wrap (18446744073709551615 / 2 ^ (64 - n) * 2 ^ k) = (((2 ^ n - 1) * 2 ^ k : Nat) : Int):=by
 have e : (18446744073709551615 : Nat) / 2 ^ (64 - n) = 2 ^ n - 1:=by
  have h1 : 2 ^ n * 2 ^ (64 - n) = 18446744073709551616:=by
   rw [← Nat.pow_add]
   have : n + (64 - n) = 64:=by omega
   rw [this]
  have hp:=Nat.two_pow_pos (64 - n)
  have hn:=Nat.two_pow_pos n
  apply Nat.div_eq_of_lt_le
  ·rw [Nat.sub_mul,Nat.one_mul,h1]; omega
  ·rw [Nat.sub_add_cancel hn,h1]; omega
 have e2 : (18446744073709551615 / 2 ^ (64 - n) * 2 ^ k : Int) = (((18446744073709551615 : Nat) / 2 ^ (64 - n) * 2 ^ k : Nat) : Int):=by
  rw [c_mul,c_div]; rfl
 rw [e2,e]
 exact wraps_u64 _ (by omega) (by have:=mask_lt h; omega)

theorem u64_get {k n w : Nat} (hw : w < 18446744073709551616) (h : k + n ≤ 64) : bits .and .u64 (w : Int) (((2 ^ n - 1) * 2 ^ k : Nat) : Int) / 2 ^ k = ((w / 2 ^ k % 2 ^ n : Nat) : Int):=by
 rw [bits_and_u64_nat w _ hw (mask_lt h),nat_and_field]
 have : ((w / 2 ^ k % 2 ^ n * 2 ^ k : Nat) : Int) / 2 ^ k = ((w / 2 ^ k % 2 ^ n * 2 ^ k / 2 ^ k : Nat) : Int):=(c_div _ _).symm
 rw [this,Nat.mul_div_cancel _ (Nat.two_pow_pos k)]

theorem u64_clr {k n w : Nat} (hw : w < 18446744073709551616) (h : k + n ≤ 64) : bits .andNot .u64 (w : Int) (((2 ^ n - 1) * 2 ^ k : Nat) : Int) = ((clr w k n : Nat) : Int):=by
 refine bits_andNot_u64 w _ hw (mask_lt h) _ (fun i _ => by rw [clr_testBit,mask_testBit]) ?_
 unfold clr
 have h1:=Nat.div_add_mod w (2 ^ (k + n))
 have h2 : w % 2 ^ k ≤ w % 2 ^ (k + n):=by
  rw [Nat.pow_add,Nat.mod_mul]
  omega
 omega

theorem u64_fits {k n v : Nat} (hv : v < 18446744073709551616) (h : k + n ≤ 64) :
  (IntKind.u64.wrap ((v : Int) * 2 ^ k) / 2 ^ k = (v : Int) ∧ bits .andNot .u64 (IntKind.u64.wrap ((v : Int) * 2 ^ k)) (((2 ^ n - 1) * 2 ^ k : Nat) : Int) = 0) ↔ v < 2 ^ n:=by
 have ew : IntKind.u64.wrap ((v : Int) * 2 ^ k) = ((v * 2 ^ k % 18446744073709551616 : Nat) : Int):=by
  rw [IntKind.wrap_u64,c_mod,c_mul]; rfl
 have hlt : v * 2 ^ k % 18446744073709551616 < 18446744073709551616:=Nat.mod_lt _ (by decide)
 rw [ew,u64_clr hlt h]
 have ed : ((v * 2 ^ k % 18446744073709551616 : Nat) : Int) / 2 ^ k = ((v * 2 ^ k % 18446744073709551616 / 2 ^ k : Nat) : Int):=(c_div _ _).symm
 rw [ed]
 have hk:=Nat.two_pow_pos k
 have h64:=pow_le64 h
 rw [Nat.pow_add] at h64
 constructor
 ·rintro ⟨h1,h2⟩
  have h1 : v * 2 ^ k % 18446744073709551616 / 2 ^ k = v:=by exact_mod_cast h1
  have h2 : clr (v * 2 ^ k % 18446744073709551616) k n = 0:=by exact_mod_cast h2
  have h3 : v * 2 ^ k < 18446744073709551616:=by
   rcases Nat.lt_or_ge (v * 2 ^ k) 18446744073709551616 with h | h
   ·exact h
   ·have h4 : v * 2 ^ k % 18446744073709551616 < v * 2 ^ k:=Nat.lt_of_lt_of_le (Nat.mod_lt _ (by decide)) h
    have:=(Nat.div_lt_iff_lt_mul hk).2 h4
    omega
  rw [Nat.mod_eq_of_lt h3] at h2
  unfold clr at h2
  have h5 : 2 ^ (k + n) * (v * 2 ^ k / 2 ^ (k + n)) = 0:=by omega
  have h6 : v * 2 ^ k / 2 ^ (k + n) = 0:=by
   rcases Nat.mul_eq_zero.1 h5 with h | h
   ·exact absurd h (Nat.pos_iff_ne_zero.1 (Nat.two_pow_pos _))
   ·exact h
  have h7 : v * 2 ^ k < 2 ^ (k + n):=by
   rcases Nat.div_eq_zero_iff.1 h6 with h | h
   ·exact absurd h (Nat.pos_iff_ne_zero.1 (Nat.two_pow_pos _))
   ·exact h
  rw [Nat.add_comm k n,Nat.pow_add] at h7
  exact Nat.lt_of_mul_lt_mul_right h7
 ·intro hvn
  have h3 : v * 2 ^ k < 2 ^ k * 2 ^ n:=by
   rw [Nat.mul_comm (2 ^ k)]; exact Nat.mul_lt_mul_of_pos_right hvn hk
  have h4 : v * 2 ^ k < 18446744073709551616:=by omega
  rw [Nat.mod_eq_of_lt h4,Nat.mul_div_cancel _ hk]
  refine ⟨rfl, ?_⟩
  unfold clr
  rw [← Nat.pow_add] at h3
  rw [Nat.div_eq_of_lt h3,Nat.mul_mod_left]; rfl

theorem u64_set {k n v w : Nat} (hw : w < 18446744073709551616) (hv : v < 2 ^ n) (h : k + n ≤ 64) :
  bits .or .u64 (bits .andNot .u64 (w : Int) (((2 ^ n - 1) * 2 ^ k : Nat) : Int)) (IntKind.u64.wrap ((v : Int) * 2 ^ k)) = ((2 ^ (k + n) * (w / 2 ^ (k + n)) + (2 ^ k * v + w % 2 ^ k) : Nat) : Int):=by
 have hk:=Nat.two_pow_pos k
 have h64:=pow_le64 h
 have h3 : 2 ^ k * v < 2 ^ (k + n):=by
  rw [Nat.pow_add]; exact Nat.mul_lt_mul_of_pos_left hv hk
 have hr : w % 2 ^ k < 2 ^ k:=Nat.mod_lt _ hk
 have ew : IntKind.u64.wrap ((v : Int) * 2 ^ k) = ((2 ^ k * v : Nat) : Int):=by
  rw [Nat.mul_comm,← c_mul]
  exact wraps_u64 _ (by omega) (by have : v * 2 ^ k = 2 ^ k * v:=Nat.mul_comm _ _; omega)
 have hc : clr w k n < 18446744073709551616:=by
  unfold clr
  have h1:=Nat.div_add_mod w (2 ^ (k + n))
  have h2 : w % 2 ^ k ≤ w % 2 ^ (k + n):=by
   rw [Nat.pow_add,Nat.mod_mul]
   omega
  omega
 have hin : 2 ^ k * v + w % 2 ^ k < 2 ^ (k + n):=by
  have : 2 ^ k * (v + 1) ≤ 2 ^ k * 2 ^ n:=Nat.mul_le_mul_left _ hv
  rw [← Nat.pow_add,Nat.mul_add] at this
  omega
 rw [u64_clr hw h,ew,bits_or_u64_nat _ _ hc (by omega)]
 congr 1
 apply Nat.eq_of_testBit_eq
 intro i
 rw [Nat.testBit_or,clr_testBit,Nat.testBit_two_pow_mul_add _ hin,Nat.testBit_two_pow_mul_add _ hr,Nat.testBit_mod_two_pow,Nat.testBit_div_two_pow]
 have e : (2 ^ k * v).testBit i = (decide (k ≤ i) && v.testBit (i - k)):=by
  rw [Nat.mul_comm,Nat.testBit_mul_two_pow]
 rw [e]
 by_cases h1 : i < k + n
 ·by_cases h2 : k ≤ i
  ·have : ¬ i < k:=by omega
   simp [h1,h2,this]
  ·have : i < k:=by omega
   simp [h1,h2,this]
 ·have h2 : k ≤ i:=by omega
  have e2 : i - (k + n) + (k + n) = i:=by omega
  have e3 : v.testBit (i - k) = false:=Nat.testBit_lt_two_pow (Nat.lt_of_lt_of_le hv (Nat.pow_le_pow_right (by decide) (by omega)))
  simp [h1,h2,e2,e3]

end Go.D

/- Words: plain facts. -/
namespace Go.Proofs.Ytcdfofeolgbnbaa
open Go.D
set_option linter.all false
set_option maxRecDepth 100000
set_option maxHeartbeats 4000000

theorem idx {i n : Nat} (h : i < n) (hn : n ≤ 9223372036854775807) : ((i : Int) < (n : Int)) ∧ ((0 : Int) ≤ i) ∧ ¬ ((i : Int) < 0) ∧ IntKind.i64.wrap ((i : Int) + 1) = ((i + 1 : Nat) : Int):=by
 refine ⟨by omega,by omega,by omega, ?_⟩
 rw [wrap64] <;> omega

def u64 (w : Int) : Prop:=0 ≤ w ∧ w < 18446744073709551616
theorem u64.nat {w : Int} (h : u64 w) : ∃ n : Nat,w = n ∧ n < 18446744073709551616:=⟨w.toNat,by have:=h.1; omega,by have:=h.1; have:=h.2; omega⟩
theorem u64_of {n : Nat} (h : n < 18446744073709551616) : u64 n:=⟨by omega,by omega⟩

theorem wrapu {n : Int} (h0 : 0 ≤ n) (h1 : n < 18446744073709551616) : IntKind.u64.wrap n = n:=by
 show n % 18446744073709551616 = n
 omega

end Go.Proofs.Ytcdfofeolgbnbaa

/- Package word: what its functions answer. -/
namespace Go.Proofs.Ytcdfofeolgbnbaa
open Go.D
open Nat (reduceAdd reducePow reduceMul reduceSub reduceLeDiff reduceLT reduceEqDiff)
open Int (reduceNeg reduceLE reduceEq reduceNe reduceToNat)
open Go.D renaming istep → zx,pickR → zw,bin1R → zv,un1R → zu,eqS → zq,eq1 → zp,cmpS → zj,cmp1 → zk,isNil → zg,shows → zZ,result → zY,q_cond_t → zU,q_cond_f → zQ
open List renaming set → zX,replicate → zW
open Option renaming map → zV
open Nat renaming reduceAdd → yz,reducePow → yy,reduceMul → yx,reduceSub → yw,reduceLeDiff → yv,reduceLT → yu,reduceEqDiff → yq
open Int renaming reduceNeg → yp,reduceLE → yj,reduceEq → yk,reduceNe → yg,reduceToNat → yZ,reducePow → yY,reduceLT → yX,reduceAdd → yW,reduceSub → yV,reduceMul → yU,reduceBEq → yQ,reduceBNe → xz
set_option linter.all false
set_option maxRecDepth 100000
set_option maxHeartbeats 4000000

def fieldB (at_ n : Int) : Bool:=decide (0 ≤ at_ ∧ at_ ≤ 63 ∧ 1 ≤ n ∧ n ≤ 64 - at_)
def maskV (at_ n : Int) : Int:=(((2 ^ n.toNat - 1) * 2 ^ at_.toNat : Nat) : Int)
def getV (w at_ n : Int) : Int:=((w.toNat / 2 ^ at_.toNat % 2 ^ n.toNat : Nat) : Int)
def setB (at_ n v : Int) : Bool:=fieldB at_ n && decide (v.toNat < 2 ^ n.toNat)
def setV (w at_ n v : Int) : Int:=((2 ^ (at_.toNat + n.toNat) * (w.toNat / 2 ^ (at_.toNat + n.toNat)) + (2 ^ at_.toNat * v.toNat + w.toNat % 2 ^ at_.toNat) : Nat) : Int)

theorem fieldB_nat {at_ n : Int} (h : fieldB at_ n = true) : ∃ k m : Nat,at_ = k ∧ n = m ∧ k ≤ 63 ∧ 1 ≤ m ∧ k + m ≤ 64:=by
 simp only [fieldB,decide_eq_true_eq] at h
 exact ⟨at_.toNat,n.toNat,by omega,by omega,by omega,by omega,by omega⟩

def maskG : List V → List Blk → Res
 | [.s (.i .i64 at_), .s (.i .i64 n)],h => .br (fieldB at_ n) (.ok (.tup [.s (.i .u64 (maskV at_ n)), .s (.b true)]) [] h) (.ok (.tup [.s (.i .u64 0), .s (.b false)]) [] h)
 | _,_ => .bad

theorem mask_snd : Snd Try.prog 97 (FSpec.of maskG):=snd_run (noT_snd _) mixed Try.func97 dc97 100 fun args h K _ hS => by
 unfold maskG at hS
 split at hS
 ·rename_i at_ n
  simp only [spec_br,spec_ok] at hS
  cases hf : fieldB at_ n with
  | true =>
   have hS:=hS.1 hf
   obtain ⟨k,m,rfl,rfl,h1,h2,h3⟩:=fieldB_nat hf
   have c1 : ¬ ((k : Int) < 0):=by omega
   have c2 : ¬ ((63 : Int) < k):=by omega
   have c3 : ¬ ((m : Int) < 1):=by omega
   have c4 : ¬ ((64 : Int) - k < m):=by omega
   have w1 : IntKind.i64.wrap (64 - (k : Int)) = 64 - k:=wrap64 (by omega) (by omega)
   have w2 : IntKind.i64.wrap (64 - (m : Int)) = ((64 - m : Nat) : Int):=by rw [wrap64] <;> omega
   have m1 : min (64 - m) IntKind.u64.bits = 64 - m:=by show min (64 - m) 64 = _; omega
   have m2 : min k IntKind.u64.bits = k:=by show min k 64 = _; omega
   have hm:=u64_mask (k:=k) (n:=m) h3
   have c5 : (0 : Int) ≤ ((64 - m : Nat) : Int):=by omega
   have c6 : (0 : Int) ≤ (k : Int):=by omega
   simp (maxSteps:=9999999) only [EV0,zx,zw,zv,zu,zq,zp,zj,zk,zg,leT,zZ,rvC,zY,zX,zW,zV,↓zU,↓zQ,reduceCtorEq,yz,yy,yY,yx,yw,yv,yu,yq,yp,yX,yj,yk,yg,yW,yV,yU,yZ,yQ,xz,df97,c1,c2,c3,c4,c5,c6,w1,w2,m1,m2,hm]
   exact hS
  | false =>
   have hS:=hS.2 hf
   have hn : ¬ (0 ≤ at_ ∧ at_ ≤ 63 ∧ 1 ≤ n ∧ n ≤ 64 - at_):=by simpa [fieldB] using hf
   by_cases c1 : at_ < 0
   ·simp (maxSteps:=9999999) only [EV0,zx,zw,zv,zu,zq,zp,zj,zk,zg,leT,zZ,rvC,zY,zX,zW,zV,↓zU,↓zQ,reduceCtorEq,yz,yy,yY,yx,yw,yv,yu,yq,yp,yX,yj,yk,yg,yW,yV,yU,yZ,yQ,xz,df97,c1]
    exact hS
   by_cases c2 : 63 < at_
   ·simp (maxSteps:=9999999) only [EV0,zx,zw,zv,zu,zq,zp,zj,zk,zg,leT,zZ,rvC,zY,zX,zW,zV,↓zU,↓zQ,reduceCtorEq,yz,yy,yY,yx,yw,yv,yu,yq,yp,yX,yj,yk,yg,yW,yV,yU,yZ,yQ,xz,df97,c1,c2]
    exact hS
   by_cases c3 : n < 1
   ·simp (maxSteps:=9999999) only [EV0,zx,zw,zv,zu,zq,zp,zj,zk,zg,leT,zZ,rvC,zY,zX,zW,zV,↓zU,↓zQ,reduceCtorEq,yz,yy,yY,yx,yw,yv,yu,yq,yp,yX,yj,yk,yg,yW,yV,yU,yZ,yQ,xz,df97,c1,c2,c3]
    exact hS
   have w1 : IntKind.i64.wrap (64 - at_) = 64 - at_:=wrap64 (by omega) (by omega)
   have c4 : 64 - at_ < n:=by omega
   simp (maxSteps:=9999999) only [EV0,zx,zw,zv,zu,zq,zp,zj,zk,zg,leT,zZ,rvC,zY,zX,zW,zV,↓zU,↓zQ,reduceCtorEq,yz,yy,yY,yx,yw,yv,yu,yq,yp,yX,yj,yk,yg,yW,yV,yU,yZ,yQ,xz,df97,c1,c2,c3,w1,c4]
   exact hS
 ·exact hS.elim

def W1 : Tab:=addT 97 maskG noT
theorem W1_snd : W1.Snd Try.prog:=addT_snd ok97 mask_snd (noT_snd _)

def getG : List V → List Blk → Res
 | [.s (.i .u64 w), .s (.i .i64 at_), .s (.i .i64 n)],h => .ob (u64 w) (.br (fieldB at_ n) (.ok (.tup [.s (.i .u64 (getV w at_ n)), .s (.i .i64 0)]) [] h) (.ok (.tup [.s (.i .u64 0), .s (.i .i64 10)]) [] h))
 | _,_ => .bad

theorem get_snd : Snd Try.prog 82 (FSpec.of getG):=snd_run W1_snd mixed Try.func82 dc82 100 fun args h K _ hS => by
 unfold getG at hS
 split at hS
 ·rename_i w at_ n
  obtain ⟨hw,hS⟩:=hS
  simp only [spec_br,spec_ok] at hS
  obtain ⟨w,rfl,hw'⟩:=hw.nat
  cases hf : fieldB at_ n with
  | true =>
   have hS:=hS.1 hf
   obtain ⟨k,m,rfl,rfl,h1,h2,h3⟩:=fieldB_nat hf
   have m2 : min k IntKind.u64.bits = k:=by show min k 64 = _; omega
   have hg:=u64_get hw' h3
   have c6 : (0 : Int) ≤ (k : Int):=by omega
   simp (maxSteps:=9999999) only [EV0,zx,zw,zv,zu,zq,zp,zj,zk,zg,leT,zZ,rvC,zY,zX,zW,zV,↓zU,↓zQ,reduceCtorEq,yz,yy,yY,yx,yw,yv,yu,yq,yp,yX,yj,yk,yg,yW,yV,yU,yZ,yQ,xz,df82,W1,maskG,hf,maskV,hg,m2,c6]
   exact hS
  | false =>
   have hS:=hS.2 hf
   simp (maxSteps:=9999999) only [EV0,zx,zw,zv,zu,zq,zp,zj,zk,zg,leT,zZ,rvC,zY,zX,zW,zV,↓zU,↓zQ,reduceCtorEq,yz,yy,yY,yx,yw,yv,yu,yq,yp,yX,yj,yk,yg,yW,yV,yU,yZ,yQ,xz,df82,W1,maskG,hf]
   exact hS
 ·exact hS.elim

def setG : List V → List Blk → Res
 | [.s (.i .u64 w), .s (.i .i64 at_), .s (.i .i64 n), .s (.i .u64 v)],h => .ob (u64 w ∧ u64 v) (.br (setB at_ n v) (.ok (.tup [.s (.i .u64 (setV w at_ n v)), .s (.i .i64 0)]) [] h) (.ok (.tup [.s (.i .u64 0), .s (.i .i64 10)]) [] h))
 | _,_ => .bad

theorem set_snd : Snd Try.prog 87 (FSpec.of setG):=snd_run W1_snd mixed Try.func87 dc87 100 fun args h K _ hS => by
 unfold setG at hS
 split at hS
 ·rename_i w at_ n v
  obtain ⟨⟨hw,hv⟩,hS⟩:=hS
  simp only [spec_br,spec_ok] at hS
  obtain ⟨w,rfl,hw'⟩:=hw.nat
  obtain ⟨v,rfl,hv'⟩:=hv.nat
  cases hf : fieldB at_ n with
  | true =>
   obtain ⟨k,m,rfl,rfl,h1,h2,h3⟩:=fieldB_nat hf
   have m2 : min k IntKind.u64.bits = k:=by show min k 64 = _; omega
   have c6 : (0 : Int) ≤ (k : Int):=by omega
   have hfit:=u64_fits hv' h3
   by_cases hlt : v < 2 ^ m
   ·have hb : setB (k : Int) (m : Int) (v : Int) = true:=by simp [setB,hf,hlt]
    have hS:=hS.1 hb
    obtain ⟨f1,f2⟩:=hfit.2 hlt
    have hs:=u64_set hw' hlt h3
    simp (maxSteps:=9999999) only [EV0,zx,zw,zv,zu,zq,zp,zj,zk,zg,leT,zZ,rvC,zY,zX,zW,zV,↓zU,↓zQ,reduceCtorEq,yz,yy,yY,yx,yw,yv,yu,yq,yp,yX,yj,yk,yg,yW,yV,yU,yZ,yQ,xz,df87,W1,maskG,hf,maskV,m2,c6,f1,f2,hs]
    exact hS
   ·have hb : setB (k : Int) (m : Int) (v : Int) = false:=by simp [setB,hlt]
    have hS:=hS.2 hb
    by_cases f1 : IntKind.u64.wrap ((v : Int) * 2 ^ k) / 2 ^ k = (v : Int)
    ·have f2 : ¬ bits .andNot .u64 (IntKind.u64.wrap ((v : Int) * 2 ^ k)) (((2 ^ m - 1) * 2 ^ k : Nat) : Int) = 0:=fun e => hlt (hfit.1 ⟨f1,e⟩)
     simp (maxSteps:=9999999) only [EV0,zx,zw,zv,zu,zq,zp,zj,zk,zg,leT,zZ,rvC,zY,zX,zW,zV,↓zU,↓zQ,reduceCtorEq,yz,yy,yY,yx,yw,yv,yu,yq,yp,yX,yj,yk,yg,yW,yV,yU,yZ,yQ,xz,df87,W1,maskG,hf,maskV,m2,c6,f1,f2]
     exact hS
    ·simp (maxSteps:=9999999) only [EV0,zx,zw,zv,zu,zq,zp,zj,zk,zg,leT,zZ,rvC,zY,zX,zW,zV,↓zU,↓zQ,reduceCtorEq,yz,yy,yY,yx,yw,yv,yu,yq,yp,yX,yj,yk,yg,yW,yV,yU,yZ,yQ,xz,df87,W1,maskG,hf,maskV,m2,c6,f1]
     exact hS
  | false =>
   have hb : setB at_ n (v : Int) = false:=by simp [setB,hf]
   have hS:=hS.2 hb
   simp (maxSteps:=9999999) only [EV0,zx,zw,zv,zu,zq,zp,zj,zk,zg,leT,zZ,rvC,zY,zX,zW,zV,↓zU,↓zQ,reduceCtorEq,yz,yy,yY,yx,yw,yv,yu,yq,yp,yX,yj,yk,yg,yW,yV,yU,yZ,yQ,xz,df87,W1,maskG,hf]
   exact hS
 ·exact hS.elim


structure Cap where
 ty : Int
 obj : Int
 bits : Int
 mark : Int
 guard : Int
 gbits : Int
 badge : Int
 rights : Int
 asid : Int
 vaddr : Int
 line : Int
def Cap.cl (c : Cap) : List S:=[.i .i64 c.ty, .i .i64 c.obj, .i .i64 c.bits, .i .i64 c.mark, .i .i64 c.guard, .i .i64 c.gbits, .i .i64 c.badge, .i .i64 c.rights, .i .i64 c.asid, .i .i64 c.vaddr, .i .i64 c.line]
def capF (f : Cap → Res) : List V → Res
 | [.agg [.i .i64 a, .i .i64 b, .i .i64 c, .i .i64 d, .i .i64 e, .i .i64 g, .i .i64 i, .i .i64 j, .i .i64 k, .i .i64 l, .i .i64 m]] => f ⟨a,b,c,d,e,g,i,j,k,l,m⟩
 | _ => .bad
theorem capF_spec {f : Cap → Res} {args : List V} {K : V → List Blk → Prop} (h : (capF f args).spec K) : ∃ c : Cap,args = [.agg c.cl] ∧ (f c).spec K:=by
 unfold capF at h
 split at h
 ·exact ⟨_,rfl,h⟩
 ·exact h.elim

theorem kinds (t : Int) : t = 0 ∨ t = 1 ∨ t = 2 ∨ t = 3 ∨ t = 4 ∨ t = 5 ∨ t = 6 ∨ t = 7 ∨ t = 8 ∨ t = 9 ∨ t = 10 ∨ t = 11 ∨ t = 12 ∨ t = 13 ∨
  (¬ t = 0 ∧ ¬ t = 1 ∧ ¬ t = 2 ∧ ¬ t = 3 ∧ ¬ t = 4 ∧ ¬ t = 5 ∧ ¬ t = 6 ∧ ¬ t = 7 ∧ ¬ t = 8 ∧ ¬ t = 9 ∧ ¬ t = 10 ∧ ¬ t = 11 ∧ ¬ t = 12 ∧ ¬ t = 13 ∧ (t < 0 ∨ 13 < t)):=by omega

def uRaw (b : Int) : Int:=IntKind.i64.wrap (1 * 2 ^ min (if bits .and .i64 b 31 < 0 then 0 else bits .and .i64 b 31).toNat IntKind.i64.bits)
def nRaw (b : Int) : Int:=IntKind.i64.wrap (4 * 2 ^ min (if (if 9 < b then 9 else b) < 0 then 0 else (if 9 < b then 9 else b)).toNat IntKind.i64.bits)
def nOk (b : Int) : Bool:=decide (1 ≤ (if 9 < b then 9 else b)) && decide ((if 9 < b then 9 else b) ≤ 8)
def szN (c : Cap) : Int :=
 if c.ty = 1 then uRaw c.bits else if c.ty = 2 then nRaw c.bits else if c.ty = 10 then (if c.bits = 31 then 64 else nRaw c.bits)
 else if c.ty = 3 then 64 else if c.ty = 9 then 64 else if c.ty = 4 then 4 else if c.ty = 5 then 8 else if c.ty = 6 then 8 else if c.ty = 7 then 8 else if c.ty = 8 then 16 else 0
def szB (c : Cap) : Bool :=
 if c.ty = 1 then decide (4 ≤ c.bits) && decide (c.bits ≤ 15) else if c.ty = 2 then nOk c.bits else if c.ty = 10 then (if c.bits = 31 then true else nOk c.bits) else true

def nodeG : List V → List Blk → Res
 | [.s (.i .i64 b)],h => .ok (.tup [.s (.i .i64 (IntKind.i64.wrap (4 * 2 ^ min (if b < 0 then 0 else b).toNat IntKind.i64.bits))), .s (.b (decide (1 ≤ b) && decide (b ≤ 8)))]) [] h
 | _,_ => .bad
theorem if_nn (b : Int) : 0 ≤ (if b < 0 then 0 else b):=by split <;> omega
theorem node_snd : Snd Try.prog 102 (FSpec.of nodeG):=snd_run (noT_snd _) mixed Try.func102 dc102 100 fun args h K _ hS => by
 unfold nodeG at hS
 split at hS
 ·rename_i b
  simp only [spec_ok] at hS
  have:=if_nn b
  simp (maxSteps:=9999999) only [EV0,zx,zw,zv,zu,zq,zp,zj,zk,zg,leT,zZ,rvC,zY,zX,zW,zV,↓zU,↓zQ,reduceCtorEq,yz,yy,yY,yx,yw,yv,yu,yq,yp,yX,yj,yk,yg,yW,yV,yU,yZ,yQ,xz,df102,this]
  exact hS
 ·exact hS.elim

def sizesG (args : List V) (h : List Blk) : Res:=capF (fun c => .ok (.tup [.s (.i .i64 (szN c)), .s (.b (szB c))]) [] h) args
def TN : Tab:=addT 102 nodeG noT
theorem TN_snd : TN.Snd Try.prog:=addT_snd ok102 node_snd (noT_snd _)
theorem sizes_snd : Snd Try.prog 93 (FSpec.of sizesG):=snd_run TN_snd mixed Try.func93 dc93 100 fun args h K _ hS => by
 obtain ⟨⟨t,o,b,d,e,g,i,j,k,l,m⟩,rfl,hR⟩:=capF_spec hS
 have n1:=if_nn (bits .and .i64 b 31)
 simp only [Cap.cl,spec_ok,szN,szB] at hR ⊢
 rcases kinds t with rfl | rfl | rfl | rfl | rfl | rfl | rfl | rfl | rfl | rfl | rfl | rfl | rfl | rfl | ⟨k0,k1,k2,k3,k4,k5,k6,k7,k8,k9,k10,k11,k12,k13,ho⟩
 all_goals try simp only [k1,k2,k3,k4,k5,k6,k7,k8,k9,k10,if_false] at hR
 all_goals try simp only [reduceEq,if_true,if_false] at hR
 all_goals try simp (maxSteps:=9999999) only [EV0,zx,zw,zv,zu,zq,zp,zj,zk,zg,leT,zZ,rvC,zY,zX,zW,zV,↓zU,↓zQ,reduceCtorEq,yz,yy,yY,yx,yw,yv,yu,yq,yp,yX,yj,yk,yg,yW,yV,yU,yZ,yQ,xz,df93,TN,nodeG,n1,k1,k2,k3,k4,k5,k6,k7,k8,k9,k10]
 all_goals try simp (maxSteps:=9999999) only [EV0,zx,zw,zv,zu,zq,zp,zj,zk,zg,leT,zZ,rvC,zY,zX,zW,zV,↓zU,↓zQ,reduceCtorEq,yz,yy,yY,yx,yw,yv,yu,yq,yp,yX,yj,yk,yg,yW,yV,yU,yZ,yQ,xz,df93,TN,nodeG,n1]
 all_goals try exact hR
 ·exact ⟨fun h => by simp only [h,if_true] at hR; exact hR,fun h => by simp only [h,if_false] at hR; exact hR⟩

def bareC (c : Cap) : Cap :=
 if c.ty = 1 then { c with obj:=0,bits:=0,mark:=0 } else if c.ty = 10 then { c with obj:=0,bits:=0,mark:=0 }
 else if c.ty = 2 then { c with obj:=0,bits:=0,guard:=0,gbits:=0 }
 else if c.ty = 3 then { c with obj:=0 } else if c.ty = 9 then { c with obj:=0 }
 else if c.ty = 4 then { c with obj:=0,rights:=0,badge:=0 } else if c.ty = 5 then { c with obj:=0,rights:=0,badge:=0 }
 else if c.ty = 6 then { c with obj:=0,asid:=0,vaddr:=0 }
 else if c.ty = 7 then { c with obj:=0,asid:=0 }
 else if c.ty = 8 then { c with obj:=0,rights:=0,asid:=0,vaddr:=0 }
 else if c.ty = 12 then { c with line:=0 } else c

def bareG (args : List V) (h : List Blk) : Res:=capF (fun c => .ok (.agg (bareC c).cl) [] h) args
theorem bare_snd : Snd Try.prog 94 (FSpec.of bareG):=snd_run (noT_snd _) mixed Try.func94 dc94 100 fun args h K _ hS => by
 obtain ⟨⟨t,o,b,d,e,g,i,j,k,l,m⟩,rfl,hR⟩:=capF_spec hS
 simp only [Cap.cl,spec_ok,bareC] at hR ⊢
 rcases kinds t with rfl | rfl | rfl | rfl | rfl | rfl | rfl | rfl | rfl | rfl | rfl | rfl | rfl | rfl | ⟨k0,k1,k2,k3,k4,k5,k6,k7,k8,k9,k10,k11,k12,k13,ho⟩
 all_goals try simp only [k1,k2,k3,k4,k5,k6,k7,k8,k9,k10,k12,if_false] at hR
 all_goals try simp only [reduceEq,if_true,if_false] at hR
 all_goals try simp (maxSteps:=9999999) only [EV0,zx,zw,zv,zu,zq,zp,zj,zk,zg,leT,zZ,rvC,zY,zX,zW,zV,↓zU,↓zQ,reduceCtorEq,yz,yy,yY,yx,yw,yv,yu,yq,yp,yX,yj,yk,yg,yW,yV,yU,yZ,yQ,xz,df94,k1,k2,k3,k4,k5,k6,k7,k8,k9,k10,k12,put]
 all_goals try simp (maxSteps:=9999999) only [EV0,zx,zw,zv,zu,zq,zp,zj,zk,zg,leT,zZ,rvC,zY,zX,zW,zV,↓zU,↓zQ,reduceCtorEq,yz,yy,yY,yx,yw,yv,yu,yq,yp,yX,yj,yk,yg,yW,yV,yU,yZ,yQ,xz,df94,put]
 all_goals try exact hR

def inV (n most : Int) : Bool:=decide (0 ≤ n) && decide (n ≤ most)
def inG : List V → List Blk → Res
 | [.s (.i .i64 n), .s (.i .i64 m)],h => .ok (.s (.b (inV n m))) [] h
 | _,_ => .bad
theorem in_snd : Snd Try.prog 95 (FSpec.of inG):=snd_run (noT_snd _) mixed Try.func95 dc95 100 fun args h K _ hS => by
 unfold inG at hS
 split at hS
 ·simp only [spec_ok,inV] at hS
  simp (maxSteps:=9999999) only [EV0,zx,zw,zv,zu,zq,zp,zj,zk,zg,leT,zZ,rvC,zY,zX,zW,zV,↓zU,↓zQ,reduceCtorEq,yz,yy,yY,yx,yw,yv,yu,yq,yp,yX,yj,yk,yg,yW,yV,yU,yZ,yQ,xz,df95]
  exact hS
 ·exact hS.elim
def mapV (a v f : Int) : Bool:=inV a 63 && (inV v 65535 && (v.tmod f == 0 && (decide (0 < a) || v == 0)))
def mappedG : List V → List Blk → Res
 | [.s (.i .i64 a), .s (.i .i64 v), .s (.i .i64 f)],h => .ob (f = 1 ∨ f = 16) (.ok (.s (.b (mapV a v f))) [] h)
 | _,_ => .bad
def TI : Tab:=addT 95 inG noT
theorem TI_snd : TI.Snd Try.prog:=addT_snd ok95 in_snd (noT_snd _)
theorem mapped_snd : Snd Try.prog 96 (FSpec.of mappedG):=snd_run TI_snd mixed Try.func96 dc96 100 fun args h K _ hS => by
 unfold mappedG at hS
 split at hS
 ·obtain ⟨hf,hS⟩:=hS
  simp only [spec_ok,mapV] at hS
  rcases hf with rfl | rfl
  all_goals simp (maxSteps:=9999999) only [EV0,zx,zw,zv,zu,zq,zp,zj,zk,zg,leT,zZ,rvC,zY,zX,zW,zV,↓zU,↓zQ,reduceCtorEq,yz,yy,yY,yx,yw,yv,yu,yq,yp,yX,yj,yk,yg,yW,yV,yU,yZ,yQ,xz,df96,TI,inG]
  all_goals exact hS
 ·exact hS.elim

def TR : Tab:=addT 95 inG (addT 96 mappedG (addT 94 bareG (addT 93 sizesG noT)))
theorem TR_snd : TR.Snd Try.prog:=addT_snd ok95 in_snd (addT_snd ok96 mapped_snd (addT_snd ok94 bare_snd (addT_snd ok93 sizes_snd (noT_snd _))))

def rightB (c : Cap) : Bool :=
 if c.ty = 0 then (if c.obj = 0 ∧ c.bits = 0 ∧ c.mark = 0 ∧ c.guard = 0 ∧ c.gbits = 0 ∧ c.badge = 0 ∧ c.rights = 0 ∧ c.asid = 0 ∧ c.vaddr = 0 ∧ c.line = 0 then true else false)
 else if c.ty = 1 then (if ¬ (4 ≤ c.bits ∧ c.bits ≤ 15) ∨ ¬ (c.guard = 0 ∧ c.gbits = 0 ∧ c.badge = 0 ∧ c.rights = 0 ∧ c.asid = 0 ∧ c.vaddr = 0 ∧ c.line = 0) then false else if 0 < (uRaw c.bits) ∧ (c.obj < 1024 ∨ 65535 < c.obj ∨ ¬ c.obj.tmod (uRaw c.bits) = 0) then false else inV c.mark (uRaw c.bits))
 else if c.ty = 2 then (if ¬ (nOk c.bits = true) ∨ ¬ (c.mark = 0 ∧ c.badge = 0 ∧ c.rights = 0 ∧ c.asid = 0 ∧ c.vaddr = 0 ∧ c.line = 0) then false else if 0 < (nRaw c.bits) ∧ (c.obj < 1024 ∨ 65535 < c.obj ∨ ¬ c.obj.tmod (nRaw c.bits) = 0) then false else (inV c.gbits 31 && inV c.guard (IntKind.i64.wrap (IntKind.i64.wrap (1 * 2 ^ min c.gbits.toNat IntKind.i64.bits) - 1))))
 else if c.ty = 3 then (if c.bits = 0 ∧ c.mark = 0 ∧ c.guard = 0 ∧ c.gbits = 0 ∧ c.badge = 0 ∧ c.rights = 0 ∧ c.asid = 0 ∧ c.vaddr = 0 ∧ c.line = 0 then (if c.obj < 1024 ∨ 65535 < c.obj ∨ ¬ c.obj.tmod 64 = 0 then false else true) else false)
 else if c.ty = 4 then (if c.bits = 0 ∧ c.mark = 0 ∧ c.guard = 0 ∧ c.gbits = 0 ∧ c.asid = 0 ∧ c.vaddr = 0 ∧ c.line = 0 then (if c.obj < 1024 ∨ 65535 < c.obj ∨ ¬ c.obj.tmod 4 = 0 then false else (inV c.rights 7 && inV c.badge 268435455)) else false)
 else if c.ty = 5 then (if c.bits = 0 ∧ c.mark = 0 ∧ c.guard = 0 ∧ c.gbits = 0 ∧ c.asid = 0 ∧ c.vaddr = 0 ∧ c.line = 0 then (if c.obj < 1024 ∨ 65535 < c.obj ∨ ¬ c.obj.tmod 8 = 0 then false else (inV c.rights 7 && inV c.badge 268435455)) else false)
 else if c.ty = 6 then (if c.bits = 0 ∧ c.mark = 0 ∧ c.guard = 0 ∧ c.gbits = 0 ∧ c.badge = 0 ∧ c.rights = 0 ∧ c.line = 0 then (if c.obj < 1024 ∨ 65535 < c.obj ∨ ¬ c.obj.tmod 8 = 0 then false else mapV c.asid c.vaddr 1) else false)
 else if c.ty = 7 then (if c.bits = 0 ∧ c.mark = 0 ∧ c.guard = 0 ∧ c.gbits = 0 ∧ c.badge = 0 ∧ c.rights = 0 ∧ c.vaddr = 0 ∧ c.line = 0 then (if c.obj < 1024 ∨ 65535 < c.obj ∨ ¬ c.obj.tmod 8 = 0 then false else (inV c.asid 63 && c.asid.tmod 8 == 0)) else false)
 else if c.ty = 8 then (if c.bits = 0 ∧ c.mark = 0 ∧ c.guard = 0 ∧ c.gbits = 0 ∧ c.badge = 0 ∧ c.line = 0 then (if c.obj < 1024 ∨ 65535 < c.obj ∨ ¬ c.obj.tmod 16 = 0 then false else (inV c.rights 7 && mapV c.asid c.vaddr 16)) else false)
 else if c.ty = 9 then (if c.bits = 0 ∧ c.mark = 0 ∧ c.guard = 0 ∧ c.gbits = 0 ∧ c.badge = 0 ∧ c.rights = 0 ∧ c.asid = 0 ∧ c.vaddr = 0 ∧ c.line = 0 then (if c.obj < 1024 ∨ 65535 < c.obj ∨ ¬ c.obj.tmod 64 = 0 then false else true) else false)
 else if c.ty = 10 then (if ¬ ((if c.bits = 31 then true else nOk c.bits) = true) ∨ ¬ (c.guard = 0 ∧ c.gbits = 0 ∧ c.badge = 0 ∧ c.rights = 0 ∧ c.asid = 0 ∧ c.vaddr = 0 ∧ c.line = 0) then false else if 0 < (if c.bits = 31 then 64 else nRaw c.bits) ∧ (c.obj < 1024 ∨ 65535 < c.obj ∨ ¬ c.obj.tmod (if c.bits = 31 then 64 else nRaw c.bits) = 0) then false else if c.bits = 31 then inV c.mark 3 else inV c.mark (IntKind.i64.wrap ((if c.bits = 31 then (64 : Int) else nRaw c.bits).tdiv 4)))
 else if c.ty = 11 then (if c.obj = 0 ∧ c.bits = 0 ∧ c.mark = 0 ∧ c.guard = 0 ∧ c.gbits = 0 ∧ c.badge = 0 ∧ c.rights = 0 ∧ c.asid = 0 ∧ c.vaddr = 0 ∧ c.line = 0 then true else false)
 else if c.ty = 12 then (if c.obj = 0 ∧ c.bits = 0 ∧ c.mark = 0 ∧ c.guard = 0 ∧ c.gbits = 0 ∧ c.badge = 0 ∧ c.rights = 0 ∧ c.asid = 0 ∧ c.vaddr = 0 then inV c.line 15 else false)
 else if c.ty = 13 then (if c.obj = 0 ∧ c.bits = 0 ∧ c.mark = 0 ∧ c.guard = 0 ∧ c.gbits = 0 ∧ c.badge = 0 ∧ c.rights = 0 ∧ c.asid = 0 ∧ c.vaddr = 0 ∧ c.line = 0 then true else false)
 else false

theorem close2 {α : Type} {P : α → Prop} {A : Prop} [Decidable A] {x y : α} (h : P (if A then x else y)) : (¬A → P y) ∧ (A → P x):=by
 split at h
 ·exact ⟨fun n => absurd ‹A› n,fun _ => h⟩
 ·exact ⟨fun _ => h,fun n => absurd n ‹¬A›⟩
theorem close1 {α : Type} {P : α → Prop} {A : Prop} [Decidable A] {x y : α} (h : P (if A then x else y)) : (A → P x) ∧ (¬A → P y):=(close2 h).symm

theorem uRaw_eq {b : Int} (h : 4 ≤ b ∧ b ≤ 15) : uRaw b = 2 ^ b.toNat:=by
 have : b = 4 ∨ b = 5 ∨ b = 6 ∨ b = 7 ∨ b = 8 ∨ b = 9 ∨ b = 10 ∨ b = 11 ∨ b = 12 ∨ b = 13 ∨ b = 14 ∨ b = 15:=by omega
 rcases this with rfl | rfl | rfl | rfl | rfl | rfl | rfl | rfl | rfl | rfl | rfl | rfl <;> decide
theorem nOk_iff {b : Int} : nOk b = true ↔ 1 ≤ b ∧ b ≤ 8:=by
 simp only [nOk,Bool.and_eq_true,decide_eq_true_eq]
 split <;> omega
theorem nRaw_eq {b : Int} (h : 1 ≤ b ∧ b ≤ 8) : nRaw b = 4 * 2 ^ b.toNat:=by
 have : b = 1 ∨ b = 2 ∨ b = 3 ∨ b = 4 ∨ b = 5 ∨ b = 6 ∨ b = 7 ∨ b = 8:=by omega
 rcases this with rfl | rfl | rfl | rfl | rfl | rfl | rfl | rfl <;> decide
theorem inV_iff {n m : Int} : inV n m = true ↔ 0 ≤ n ∧ n ≤ m:=by simp [inV]

def rightG (args : List V) (h : List Blk) : Res:=capF (fun c => .ok (.s (.b (rightB c))) [] h) args
theorem right_snd : Snd Try.prog 81 (FSpec.of rightG):=snd_run TR_snd mixed Try.func81 dc81 200 fun args h K _ hS => by
 obtain ⟨⟨t,o,b,d,e,g,i,j,k,l,m⟩,rfl,hR⟩:=capF_spec hS
 simp only [Cap.cl,spec_ok,rightB] at hR ⊢
 have P : ∀ B : Bool,K (V.s (S.b B)) h = (fun B => K (V.s (S.b B)) h) B:=fun _ => rfl
 rcases kinds t with rfl | rfl | rfl | rfl | rfl | rfl | rfl | rfl | rfl | rfl | rfl | rfl | rfl | rfl | ⟨k0,k1,k2,k3,k4,k5,k6,k7,k8,k9,k10,k11,k12,k13,ho⟩
 all_goals try simp only [k0,k1,k2,k3,k4,k5,k6,k7,k8,k9,k10,k11,k12,k13,if_false] at hR
 all_goals try simp only [reduceEq,if_true,if_false] at hR
 all_goals try simp (maxSteps:=9999999) only [EV0,zx,zw,zv,zu,zq,zp,zj,zk,zg,leT,zZ,rvC,zY,zX,zW,zV,↓zU,↓zQ,reduceCtorEq,yz,yy,yY,yx,yw,yv,yu,yq,yp,yX,yj,yk,yg,yW,yV,yU,yZ,yQ,xz,df81,TR,inG,mappedG,bareG,sizesG,capF,szN,szB,bareC,Cap.cl,k1,k2,k3,k4,k5,k6,k7,k8,k9,k10,k12]
 all_goals try simp (maxSteps:=9999999) only [EV0,zx,zw,zv,zu,zq,zp,zj,zk,zg,leT,zZ,rvC,zY,zX,zW,zV,↓zU,↓zQ,reduceCtorEq,yz,yy,yY,yx,yw,yv,yu,yq,yp,yX,yj,yk,yg,yW,yV,yU,yZ,yQ,xz,df81,TR,inG,mappedG,bareG,sizesG,capF,szN,szB,bareC,Cap.cl]
 all_goals try exact close2 (P:=fun B => K (V.s (S.b B)) h) hR
 all_goals try exact ⟨(close2 (P:=fun B => K (V.s (S.b B)) h) hR).1,fun a => close1 (P:=fun B => K (V.s (S.b B)) h) ((close2 (P:=fun B => K (V.s (S.b B)) h) hR).2 a)⟩
 ·refine ⟨fun hn h0 _ _ => by omega,(close1 (P:=fun B => K (V.s (S.b B)) h) hR).1,fun a => close1 (P:=fun B => K (V.s (S.b B)) h) ((close1 (P:=fun B => K (V.s (S.b B)) h) hR).2 a)⟩
 ·refine ⟨fun hn h0 _ _ => by omega,fun _ _ h => (inV_iff.1 h).1,(close1 (P:=fun B => K (V.s (S.b B)) h) hR).1,fun a => close1 (P:=fun B => K (V.s (S.b B)) h) ((close1 (P:=fun B => K (V.s (S.b B)) h) hR).2 a)⟩
 ·refine ⟨fun hn h0 _ _ => by omega,(close1 (P:=fun B => K (V.s (S.b B)) h) hR).1,fun a => ?_⟩
  have h2:=close1 (P:=fun B => K (V.s (S.b B)) h) ((close1 (P:=fun B => K (V.s (S.b B)) h) hR).2 a)
  exact ⟨h2.1,fun a => close1 (P:=fun B => K (V.s (S.b B)) h) (h2.2 a)⟩
 ·exact ⟨fun _ => hR,fun hn => absurd (ho.elim .inl fun x => .inr (.inl x)) hn⟩
end Go.Proofs.Ytcdfofeolgbnbaa

/- Caps: what Right tells of the fields. -/
namespace Go.Proofs.Ytcdfofeolgbnbaa
open Go.D
set_option linter.all false
set_option maxRecDepth 100000
set_option maxHeartbeats 4000000

theorem ite_t {A : Prop} [Decidable A] {x : Bool} : (if A then x else false) = true ↔ A ∧ x = true:=by split <;> simp [*]
theorem ite_f {A : Prop} [Decidable A] {x : Bool} : (if A then false else x) = true ↔ ¬ A ∧ x = true:=by split <;> simp [*]
theorem uRaw_le {b : Int} (h : 4 ≤ b ∧ b ≤ 15) : 16 ≤ uRaw b ∧ uRaw b ≤ 32768:=by
 have : b = 4 ∨ b = 5 ∨ b = 6 ∨ b = 7 ∨ b = 8 ∨ b = 9 ∨ b = 10 ∨ b = 11 ∨ b = 12 ∨ b = 13 ∨ b = 14 ∨ b = 15:=by omega
 rcases this with rfl | rfl | rfl | rfl | rfl | rfl | rfl | rfl | rfl | rfl | rfl | rfl <;> decide
theorem nRaw_le {b : Int} (h : 1 ≤ b ∧ b ≤ 8) : 8 ≤ nRaw b ∧ nRaw b ≤ 1024 ∧ 0 ≤ IntKind.i64.wrap ((nRaw b).tdiv 4) ∧ IntKind.i64.wrap ((nRaw b).tdiv 4) ≤ 256:=by
 have : b = 1 ∨ b = 2 ∨ b = 3 ∨ b = 4 ∨ b = 5 ∨ b = 6 ∨ b = 7 ∨ b = 8:=by omega
 rcases this with rfl | rfl | rfl | rfl | rfl | rfl | rfl | rfl <;> decide
def gRaw (g : Int) : Int:=IntKind.i64.wrap (IntKind.i64.wrap (1 * 2 ^ min g.toNat IntKind.i64.bits) - 1)
theorem gRaw_le {g : Int} (h : 0 ≤ g ∧ g ≤ 31) : gRaw g = 2 ^ g.toNat - 1 ∧ gRaw g ≤ 2147483647:=by
 obtain ⟨n,rfl⟩ : ∃ n : Nat,g = n:=⟨g.toNat,by omega⟩
 have hn : n < 32:=by omega
 have : ∀ n : Fin 32,gRaw ((n.val : Nat) : Int) = 2 ^ ((n.val : Nat) : Int).toNat - 1 ∧ gRaw ((n.val : Nat) : Int) ≤ 2147483647:=by decide
 exact this ⟨n,hn⟩

def Cap.num (c : Cap) : Int:=c.mark + c.guard + c.badge + c.vaddr
structure Cap.RB (c : Cap) : Prop where
 ty : 0 ≤ c.ty ∧ c.ty ≤ 13
 obj : 0 ≤ c.obj ∧ c.obj ≤ 65535
 bits : 0 ≤ c.bits ∧ c.bits ≤ 31
 rights : 0 ≤ c.rights ∧ c.rights ≤ 7
 line : 0 ≤ c.line ∧ c.line ≤ 15
 asid : 0 ≤ c.asid ∧ c.asid ≤ 63
 gbits : 0 ≤ c.gbits ∧ c.gbits ≤ 31
 mark : 0 ≤ c.mark ∧ c.mark ≤ 32768
 guard : 0 ≤ c.guard ∧ c.guard ≤ 2147483647
 badge : 0 ≤ c.badge ∧ c.badge ≤ 268435455
 vaddr : 0 ≤ c.vaddr ∧ c.vaddr ≤ 65535
 one : if c.ty = 2 then c.mark = 0 ∧ c.badge = 0 ∧ c.vaddr = 0 else if c.ty = 4 ∨ c.ty = 5 then c.mark = 0 ∧ c.guard = 0 ∧ c.vaddr = 0 else if c.ty = 6 ∨ c.ty = 8 then c.mark = 0 ∧ c.guard = 0 ∧ c.badge = 0 else c.guard = 0 ∧ c.badge = 0 ∧ c.vaddr = 0

theorem right_bounds {c : Cap} (h : rightB c = true) : c.RB:=by
 obtain ⟨t,o,b,d,e,g,i,j,k,l,m⟩:=c
 simp only [rightB] at h
 rcases kinds t with rfl | rfl | rfl | rfl | rfl | rfl | rfl | rfl | rfl | rfl | rfl | rfl | rfl | rfl | ⟨k0,k1,k2,k3,k4,k5,k6,k7,k8,k9,k10,k11,k12,k13,ho⟩
 all_goals try simp only [k0,k1,k2,k3,k4,k5,k6,k7,k8,k9,k10,k11,k12,k13,if_false] at h
 all_goals try simp only [Int.reduceEq,if_true,if_false,ite_t,ite_f,Bool.and_eq_true,inV_iff,mapV,Bool.or_eq_true,decide_eq_true_eq,beq_iff_eq,not_or,Classical.not_not,nOk_iff,and_true] at h
 case inr.inr.inr.inr.inr.inr.inr.inr.inr.inr.inr.inr.inr.inr => exact absurd h (by decide)
 case inr.inl =>
  have:=uRaw_le h.1.1
  exact ⟨by simp,by simp only; omega,by simp only; omega,by simp only; omega,by simp only; omega,by simp only; omega,by simp only; omega,by simp only; omega,by simp only; omega,by simp only; omega,by simp only; omega,by simp only [Int.reduceEq,if_false,or_self]; omega⟩
 case inr.inr.inl =>
  have:=nRaw_le h.1.1
  have:=gRaw_le h.2.2.1
  simp only [gRaw] at this
  exact ⟨by simp,by simp only; omega,by simp only; omega,by simp only; omega,by simp only; omega,by simp only; omega,by simp only; omega,by simp only; omega,by simp only; omega,by simp only; omega,by simp only; omega,by simp only [if_true]; omega⟩
 case inr.inr.inr.inr.inr.inr.inr.inr.inr.inr.inl =>
  by_cases hb : b = 31
  ·simp only [hb,if_true,inV_iff,true_and] at h ⊢
   exact ⟨by simp,by simp only; omega,by simp only; omega,by simp only; omega,by simp only; omega,by simp only; omega,by simp only; omega,by simp only; omega,by simp only; omega,by simp only; omega,by simp only; omega,by simp only [Int.reduceEq,if_false,or_self]; omega⟩
  ·simp only [hb,if_false,inV_iff,nOk_iff] at h ⊢
   have:=nRaw_le h.1.1
   exact ⟨by simp,by simp only; omega,by simp only; omega,by simp only; omega,by simp only; omega,by simp only; omega,by simp only; omega,by simp only; omega,by simp only; omega,by simp only; omega,by simp only; omega,by simp only [Int.reduceEq,if_false,or_self]; omega⟩
 all_goals exact ⟨by simp,by simp only; omega,by simp only; omega,by simp only; omega,by simp only; omega,by simp only; omega,by simp only; omega,by simp only; omega,by simp only; omega,by simp only; omega,by simp only; omega,by simp only [Int.reduceEq,if_false,if_true,or_self,or_true,or_false,true_or,false_or]; omega⟩
end Go.Proofs.Ytcdfofeolgbnbaa

/- Package word: Pack,Unpack. -/
namespace Go.Proofs.Ytcdfofeolgbnbaa
open Go.D
open Nat (reduceAdd reducePow reduceMul reduceSub reduceLeDiff reduceLT reduceEqDiff)
open Int (reduceNeg reduceLE reduceEq reduceNe reduceToNat)
open Go.D renaming istep → zx,pickR → zw,bin1R → zv,un1R → zu,eqS → zq,eq1 → zp,cmpS → zj,cmp1 → zk,isNil → zg,shows → zZ,result → zY,q_cond_t → zU,q_cond_f → zQ
open List renaming set → zX,replicate → zW
open Option renaming map → zV
open Nat renaming reduceAdd → yz,reducePow → yy,reduceMul → yx,reduceSub → yw,reduceLeDiff → yv,reduceLT → yu,reduceEqDiff → yq
open Int renaming reduceNeg → yp,reduceLE → yj,reduceEq → yk,reduceNe → yg,reduceToNat → yZ,reducePow → yY,reduceLT → yX,reduceAdd → yW,reduceSub → yV,reduceMul → yU,reduceBEq → yQ,reduceBNe → xz
set_option linter.all false
set_option maxRecDepth 100000
set_option maxHeartbeats 4000000

structure Fd where
 b : Int
 v : Int
def Fd.c (f : Fd) : List S:=[.i .i64 f.b, .i .u64 f.v]
theorem Fd.c_len (f : Fd) : f.c.length = 2:=rfl
def Fd.z : Fd:=⟨0,0⟩
def decF : List S → List Fd
 | .i _ b :: .i _ v :: s => ⟨b,v⟩ :: decF s
 | _ => []
def packB : List Fd → Int → Bool
 | [],_ => true
 | f :: L,at_ => setB at_ f.b f.v && packB L (at_ + f.b)
def packV : List Fd → Int → Int
 | [],_ => 0
 | f :: L,at_ => ((2 ^ at_.toNat * f.v.toNat : Nat) : Int) + packV L (at_ + f.b)

theorem setV_low {w k m v : Nat} (hw : w < 2 ^ k) : setV (w : Int) (k : Int) (m : Int) (v : Int) = ((w + 2 ^ k * v : Nat) : Int):=by
 have h1 : w < 2 ^ (k + m):=Nat.lt_of_lt_of_le hw (Nat.pow_le_pow_right (by decide) (by omega))
 simp only [setV,Int.toNat_natCast,Nat.div_eq_of_lt h1,Nat.mod_eq_of_lt hw,Nat.mul_zero,Nat.zero_add]
 rw [Nat.add_comm]

theorem low_step {w k m v : Nat} (hw : w < 2 ^ k) (hv : v < 2 ^ m) : w + 2 ^ k * v < 2 ^ (k + m):=by
 have : 2 ^ k * (v + 1) ≤ 2 ^ k * 2 ^ m:=Nat.mul_le_mul_left _ hv
 rw [← Nat.pow_add,Nat.mul_add] at this
 omega

def packG : List V → List Blk → Res
 | [.s .ns],h => .ok (.tup [.s (.i .u64 0), .s (.i .i64 0)]) [] h
 | [.s (.sl (.g k) 0 n _)],h => match h[k]? with
  | some B => .ob (B.st ≠ .dead ∧ B.cells = arr Fd.c (decF B.cells) ∧ n ≤ (decF B.cells).length ∧ n ≤ 9223372036854775807 ∧ ∀ f,f ∈ decF B.cells → u64 f.v)
   (.br (packB ((decF B.cells).take n) 0) (.ok (.tup [.s (.i .u64 (packV ((decF B.cells).take n) 0)), .s (.i .i64 0)]) [] h) (.ok (.tup [.s (.i .u64 0), .s (.i .i64 10)]) [] h))
  | none => .bad
 | _,_ => .bad

def W2 : Tab:=addT 87 setG (addT 82 getG noT)
theorem W2_snd : W2.Snd Try.prog:=addT_snd ok87 set_snd (addT_snd ok82 get_snd (noT_snd _))

theorem pack_snd : Snd Try.prog 68 (FSpec.of packG):=snd_run W2_snd mixed Try.func68 dc68 100 fun args h K _ hS => by
 unfold packG at hS
 split at hS
 ·rw [spec_ok] at hS
  simp (maxSteps:=9999999) only [EV0,zx,zw,zv,zu,zq,zp,zj,zk,zg,leT,zZ,rvC,zY,zX,zW,zV,↓zU,↓zQ,reduceCtorEq,yz,yy,yY,yx,yw,yv,yu,yq,yp,yX,yj,yk,yg,yW,yV,yU,yZ,yQ,xz,df68]
  refine loop_rule (α:=Unit) [] (fun _ => []) (fun _ => []) (fun _ => h) (fun _ => True) (fun _ => 0) () trivial .refl ?_
  rintro X _ _ _
  refine run_sound (Tab.ok_Γ _) 100 _ _ _ _ ?_
  simp (maxSteps:=9999999) only [EV0,zx,zw,zv,zu,zq,zp,zj,zk,zg,leT,zZ,rvC,zY,zX,zW,zV,↓zU,↓zQ,reduceCtorEq,yz,yy,yY,yx,yw,yv,yu,yq,yp,yX,yj,yk,yg,yW,yV,yU,yZ,yQ,xz,Int.lt_irrefl]
  exact hS
 ·rename_i k n c
  split at hS
  ·rename_i B hk
   obtain ⟨⟨hst,hB,hn,hn64,hu⟩,hS⟩:=hS
   simp only [spec_br,spec_ok] at hS
   generalize decF B.cells = L at *
   obtain ⟨F,hF⟩ : ∃ F,F = L.take n:=⟨_,rfl⟩
   have hFl : F.length = n:=by rw [hF]; simp; omega
   rw [← hF] at hS
   simp (maxSteps:=9999999) only [EV0,zx,zw,zv,zu,zq,zp,zj,zk,zg,leT,zZ,rvC,zY,zX,zW,zV,↓zU,↓zQ,reduceCtorEq,yz,yy,yY,yx,yw,yv,yu,yq,yp,yX,yj,yk,yg,yW,yV,yU,yZ,yQ,xz,df68]
   refine loop_rule (α:=Nat × Nat × Nat) [2,3,4,5,7,8,11,12,13,14,15,16,17,18,19,20,21,22,23,24,25,26,27,28,29,30,31,32] (fun y => [(4, .s (.i .u64 y.2.2)),(5, .s (.i .i64 y.2.1)),(11, .s (.i .i64 y.1))]) (fun _ => []) (fun _ => h)
    (fun y => y.1 ≤ n ∧ y.2.1 ≤ 64 ∧ y.2.2 < 2 ^ y.2.1 ∧ packB F 0 = packB (F.drop y.1) y.2.1 ∧ packV F 0 = y.2.2 + packV (F.drop y.1) y.2.1) (fun y => n - y.1) (0,0,0) ⟨by simp,by simp,by simp,by simp,by simp⟩ (Wk.same rfl rfl ?_) ?_
   ·simp (maxSteps:=9999999) only [EV0,zx,zw,zv,zu,zq,zp,zj,zk,zg,leT,zZ,rvC,zY,zX,zW,zV,↓zU,↓zQ,reduceCtorEq,yz,yy,yY,yx,yw,yv,yu,yq,yp,yX,yj,yk,yg,yW,yV,yU,yZ,yQ,xz,Int.natCast_zero]
   ·rintro X ⟨i,a,w⟩ ⟨hi,ha,hw,hpb,hpv⟩ IH
    simp only at hi ha hw hpb hpv ⊢
    rcases Nat.lt_or_ge i n with hlt | hge
    ·have I:=idx hlt hn64
     have hiL : i < L.length:=by omega
     have E : sub B.cells (i * 2) 2 = [.i .i64 (nth Fd.z L i).b, .i .u64 (nth Fd.z L i).v]:=by
      rw [hB,arr_sub Fd.c_len hiL,nth_eq hiL]; rfl
     have hle : i * 2 + 2 ≤ B.cells.length:=by rw [hB,arr_length Fd.c_len]; omega
     have hd : F.drop i = nth Fd.z L i :: F.drop (i + 1):=by
      rw [List.drop_eq_getElem_cons (by omega),nth_eq hiL]
      congr 1
      subst hF; simp
     obtain ⟨f,hf⟩ : ∃ f,f = nth Fd.z L i:=⟨_,rfl⟩
     rw [← hf] at E hd
     have hfu : u64 f.v:=hu f (by rw [hf,nth_eq hiL]; exact List.getElem_mem _)
     obtain ⟨v,hv,hv'⟩:=hfu.nat
     have hw64 : u64 (w : Int):=u64_of (Nat.lt_of_lt_of_le hw (by have:=pow_le64 (k:=a) (n:=0) (by omega); simpa using this))
     rw [hd] at hpb hpv
     simp only [packB,packV] at hpb hpv
     cases hs : setB (a : Int) f.b f.v with
     | true =>
      have hs2:=hs
      simp only [setB,Bool.and_eq_true,decide_eq_true_eq] at hs2
      obtain ⟨k',m,e1,e2,h1,h2,h3⟩:=fieldB_nat hs2.1
      have : k' = a:=by omega
      subst this
      have hvm : v < 2 ^ m:=by have:=hs2.2; rw [hv,e2] at this; simpa using this
      have hsv : setV (w : Int) (k' : Int) f.b f.v = ((w + 2 ^ k' * v : Nat) : Int):=by rw [e2,hv]; exact setV_low hw
      have hwr : IntKind.i64.wrap ((k' : Int) + f.b) = ((k' + m : Nat) : Int):=by rw [wrap64] <;> omega
      refine run_sound (Tab.ok_Γ _) 200 _ _ _ _ ?_
      simp (maxSteps:=9999999) only [EV0,zx,zw,zv,zu,zq,zp,zj,zk,zg,leT,zZ,rvC,zY,zX,zW,zV,↓zU,↓zQ,reduceCtorEq,yz,yy,yY,yx,yw,yv,yu,yq,yp,yX,yj,yk,yg,yW,yV,yU,yZ,yQ,xz,I,E,hle,hk,hst,W2,setG,hw64,hfu,hs,hsv,hwr]
      refine IH (i + 1,k' + m,w + 2 ^ k' * v) _ (by simp only; omega) ⟨by simp only; omega,h3,low_step hw hvm, ?_, ?_⟩ (Wk.keep 0 rfl rfl ?_ ?_ rfl)
      ·rw [hpb,hs,Bool.true_and,e2]; rfl
      ·rw [hpv,hv,e2]
       simp only [Int.toNat_natCast]
       push_cast
       omega
      ·simp (maxSteps:=9999999) only [EV0,zx,zw,zv,zu,zq,zp,zj,zk,zg,leT,zZ,rvC,zY,zX,zW,zV,↓zU,↓zQ,reduceCtorEq,yz,yy,yY,yx,yw,yv,yu,yq,yp,yX,yj,yk,yg,yW,yV,yU,yZ,yQ,xz]
      ·simp (maxSteps:=9999999) only [EV0,zx,zw,zv,zu,zq,zp,zj,zk,zg,leT,zZ,rvC,zY,zX,zW,zV,↓zU,↓zQ,reduceCtorEq,yz,yy,yY,yx,yw,yv,yu,yq,yp,yX,yj,yk,yg,yW,yV,yU,yZ,yQ,xz]
     | false =>
      refine run_sound (Tab.ok_Γ _) 200 _ _ _ _ ?_
      simp (maxSteps:=9999999) only [EV0,zx,zw,zv,zu,zq,zp,zj,zk,zg,leT,zZ,rvC,zY,zX,zW,zV,↓zU,↓zQ,reduceCtorEq,yz,yy,yY,yx,yw,yv,yu,yq,yp,yX,yj,yk,yg,yW,yV,yU,yZ,yQ,xz,I,E,hle,hk,hst,W2,setG,hw64,hfu,hs]
      rw [hs,Bool.false_and] at hpb
      exact hS.2 hpb
    ·have : i = n:=by omega
     subst this
     refine run_sound (Tab.ok_Γ _) 100 _ _ _ _ ?_
     simp (maxSteps:=9999999) only [EV0,zx,zw,zv,zu,zq,zp,zj,zk,zg,leT,zZ,rvC,zY,zX,zW,zV,↓zU,↓zQ,reduceCtorEq,yz,yy,yY,yx,yw,yv,yu,yq,yp,yX,yj,yk,yg,yW,yV,yU,yZ,yQ,xz,Int.lt_irrefl]
     have hdn : F.drop i = []:=List.drop_eq_nil_of_le (by omega)
     rw [hdn] at hpb hpv
     have:=hS.1 hpb
     rw [hpv] at this
     simpa [packV] using this
  ·exact hS.elim
 ·exact hS.elim

/-! ### Unpack -/
def decI : List S → List Int
 | .i _ b :: s => b :: decI s
 | _ => []
def Ic (b : Int) : List S:=[.i .i64 b]
def Uc (b : Int) : List S:=[.i .u64 b]
theorem Ic_len (b : Int) : (Ic b).length = 1:=rfl
theorem Uc_len (b : Int) : (Uc b).length = 1:=rfl
def unpackB (w : Int) : List Int → Int → Bool
 | [],at_ => decide (w.toNat / 2 ^ at_.toNat = 0)
 | n :: L,at_ => fieldB at_ n && unpackB w L (at_ + n)
def unpackV (w : Int) : List Int → Int → List Int
 | [],_ => []
 | n :: L,at_ => getV w at_ n :: unpackV w L (at_ + n)

def wordsR (M : List Int) (f : V → V) (h : List Blk) : Res :=
 match M with
 | [] => .ok (f (.s .ns)) [] h
 | _ => .all M.length fun c => .ok (f (.s (.sl (.g h.length) 0 M.length c))) [] (h ++ [⟨.rw,arr Uc M,c⟩])

def pairV (e : Int) : V → V
 | .s x => .tup [.s x, .s (.i .i64 e)]
 | v => v

def unpackG : List V → List Blk → Res
 | [.s (.i .u64 w), .s .ns],h => .ob (u64 w) (.br (decide (w = 0)) (.ok (.tup [.s .ns, .s (.i .i64 0)]) [] h) (.ok (.tup [.s .ns, .s (.i .i64 10)]) [] h))
 | [.s (.i .u64 w), .s (.sl (.g k) 0 n _)],h => match h[k]? with
  | some B => .ob (u64 w ∧ B.st ≠ .dead ∧ B.cells = arr Ic (decI B.cells) ∧ n ≤ (decI B.cells).length ∧ n ≤ 9223372036854775807)
   (.br (unpackB w ((decI B.cells).take n) 0) (wordsR (unpackV w ((decI B.cells).take n) 0) (pairV 0) h) (.ok (.tup [.s .ns, .s (.i .i64 10)]) [] h))
  | none => .bad
 | _,_ => .bad



def numG (args : List V) (h : List Blk) : Res:=capF (fun c => .ok (.s (.i .i64 (IntKind.i64.wrap (IntKind.i64.wrap (IntKind.i64.wrap (c.mark + c.guard) + c.badge) + c.vaddr)))) [] h) args
theorem num_snd : Snd Try.prog 86 (FSpec.of numG):=snd_run (noT_snd _) mixed Try.func86 dc86 100 fun args h K _ hS => by
 obtain ⟨⟨t,o,b,d,e,g,i,j,k,l,m⟩,rfl,hR⟩:=capF_spec hS
 simp only [Cap.cl,spec_ok] at hR ⊢
 simp (maxSteps:=9999999) only [EV0,zx,zw,zv,zu,zq,zp,zj,zk,zg,leT,zZ,rvC,zY,zX,zW,zV,↓zU,↓zQ,reduceCtorEq,yz,yy,yY,yx,yw,yv,yu,yq,yp,yX,yj,yk,yg,yW,yV,yU,yZ,yQ,xz,df86]
 exact hR

def fldG : List V → List Blk → Res
 | [.s (.i .i64 b), .s (.i .i64 n)],h => .ok (.agg [.i .i64 b, .i .u64 (IntKind.u64.wrap n)]) [] h
 | _,_ => .bad
theorem fld_snd : Snd Try.prog 85 (FSpec.of fldG):=snd_run (noT_snd _) mixed Try.func85 dc85 100 fun args h K _ hS => by
 unfold fldG at hS
 split at hS
 ·simp only [spec_ok] at hS
  simp (maxSteps:=9999999) only [EV0,zx,zw,zv,zu,zq,zp,zj,zk,zg,leT,zZ,rvC,zY,zX,zW,zV,↓zU,↓zQ,reduceCtorEq,yz,yy,yY,yx,yw,yv,yu,yq,yp,yX,yj,yk,yg,yW,yV,yU,yZ,yQ,xz,df85,put,fillP]
  exact hS
 ·exact hS.elim

def Cap.w0 (c : Cap) : Int:=c.ty + 16 * c.obj + 1048576 * c.bits + 33554432 * c.rights + 268435456 * c.line + 4294967296 * c.asid + 274877906944 * c.gbits
def Cap.fs (c : Cap) : List Fd:=[⟨4,c.ty⟩,⟨16,c.obj⟩,⟨5,c.bits⟩,⟨3,c.rights⟩,⟨4,c.line⟩,⟨6,c.asid⟩,⟨5,c.gbits⟩]
theorem fs_B {c : Cap} (h : c.RB) : packB c.fs 0 = true:=by
 obtain ⟨h1,h2,h3,h4,h5,h6,h7,_,_,_,_,_⟩:=h
 simp only [Cap.fs,packB,setB,fieldB,Bool.and_eq_true,decide_eq_true_eq]
 simp only [Int.reduceAdd,Int.reduceSub,reduceLE,reduceToNat,reducePow,true_and,and_true]
 omega
theorem fs_V {c : Cap} (h : c.RB) : packV c.fs 0 = c.w0:=by
 obtain ⟨h1,h2,h3,h4,h5,h6,h7,_,_,_,_,_⟩:=h
 simp only [Cap.fs,packV,Int.reduceAdd,reduceToNat,reducePow,Cap.w0]
 omega

def encG (args : List V) (h : List Blk) : Res:=capF (fun c => .br (rightB c) (.ok (.tup [.s (.i .u64 c.w0), .s (.i .u64 c.num), .s (.i .i64 0)]) [] h) (.ok (.tup [.s (.i .u64 0), .s (.i .u64 0), .s (.i .i64 60)]) [] h)) args
def TE : Tab:=addT 81 rightG (addT 85 fldG (addT 68 packG (addT 86 numG noT)))
theorem TE_snd : TE.Snd Try.prog:=addT_snd ok81 right_snd (addT_snd ok85 fld_snd (addT_snd ok68 pack_snd (addT_snd ok86 num_snd (noT_snd _))))
theorem enc_snd : Snd Try.prog 66 (FSpec.of encG):=snd_run TE_snd mixed Try.func66 dc66 200 fun args h K hc hS => by
 obtain ⟨c,rfl,hR⟩:=capF_spec hS
 clear hS
 simp only [spec_br,spec_ok] at hR
 cases hr : rightB c with
 | false =>
  have hQ:=hR.2 hr
  clear hR
  obtain ⟨t,o,b,d,e,g,i,j,k,l,m⟩:=c
  simp only [Cap.cl]
  simp (maxSteps:=9999999) only [EV0,zx,zw,zv,zu,zq,zp,zj,zk,zg,leT,zZ,rvC,zY,zX,zW,zV,↓zU,↓zQ,reduceCtorEq,yz,yy,yY,yx,yw,yv,yu,yq,yp,yX,yj,yk,yg,yW,yV,yU,yZ,yQ,xz,df66,TE,rightG,capF,hr]
  exact hQ
 | true =>
  have hQ:=hR.1 hr
  clear hR
  have hb:=right_bounds hr
  have eB:=fs_B hb
  have eV:=fs_V hb
  obtain ⟨t,o,b,d,e,g,i,j,k,l,m⟩:=c
  obtain ⟨h1,h2,h3,h4,h5,h6,h7,h8,h9,h10,h11,_⟩:=hb
  simp only at h1 h2 h3 h4 h5 h6 h7 h8 h9 h10 h11
  simp only [Cap.fs] at eB eV
  have u1:=wrapu h1.1 (by omega)
  have u2:=wrapu h2.1 (by omega)
  have u3:=wrapu h3.1 (by omega)
  have u4:=wrapu h4.1 (by omega)
  have u5:=wrapu h5.1 (by omega)
  have u6:=wrapu h6.1 (by omega)
  have u7:=wrapu h7.1 (by omega)
  simp only [Cap.cl]
  simp (maxSteps:=9999999) only [EV0,zx,zw,zv,zu,zq,zp,zj,zk,zg,leT,zZ,rvC,zY,zX,zW,zV,↓zU,↓zQ,reduceCtorEq,yz,yy,yY,yx,yw,yv,yu,yq,yp,yX,yj,yk,yg,yW,yV,yU,yZ,yQ,xz,df66,TE,rightG,fldG,numG,packG,capF,hr,u1,u2,u3,u4,u5,u6,u7,put,fillP,R.lend,R.unlend,S_ren,C.ren,V.ren,Blk.ren,take_app,drop_app,Nat.not_lt_zero,Nat.lt_irrefl,Nat.add_sub_cancel_left,Nat.not_lt,Nat.le_add_right,decF,arr,Fd.c,List.take,eB,eV]
  have n1 : IntKind.i64.wrap (d + e) = d + e:=wrap64 (by omega) (by omega)
  have n2 : IntKind.i64.wrap (d + e + i) = d + e + i:=wrap64 (by omega) (by omega)
  have n3 : IntKind.i64.wrap (d + e + i + l) = d + e + i + l:=wrap64 (by omega) (by omega)
  have n4 : IntKind.u64.wrap (d + e + i + l) = d + e + i + l:=wrapu (by omega) (by omega)
  rw [n1,n2,n3,n4]
  refine ⟨?_,hc,hQ⟩
  intro f hf
  simp only [List.mem_cons,List.not_mem_nil,or_false] at hf
  rcases hf with rfl | rfl | rfl | rfl | rfl | rfl | rfl <;> simp only [u64] <;> omega

def onlyC (c : Cap) : Cap :=
 if c.ty = 1 then ⟨1,c.obj,c.bits,c.mark,0,0,0,0,0,0,0⟩ else if c.ty = 2 then ⟨2,c.obj,c.bits,0,c.guard,c.gbits,0,0,0,0,0⟩
 else if c.ty = 4 then ⟨4,c.obj,0,0,0,0,c.badge,c.rights,0,0,0⟩ else if c.ty = 5 then ⟨5,c.obj,0,0,0,0,c.badge,c.rights,0,0,0⟩
 else if c.ty = 3 then ⟨3,c.obj,0,0,0,0,0,0,0,0,0⟩ else if c.ty = 9 then ⟨9,c.obj,0,0,0,0,0,0,0,0,0⟩
 else if c.ty = 6 then ⟨6,c.obj,0,0,0,0,0,0,c.asid,c.vaddr,0⟩ else if c.ty = 7 then ⟨7,c.obj,0,0,0,0,0,0,c.asid,0,0⟩
 else if c.ty = 8 then ⟨8,c.obj,0,0,0,0,0,c.rights,c.asid,c.vaddr,0⟩ else if c.ty = 10 then ⟨10,c.obj,c.bits,c.mark,0,0,0,0,0,0,0⟩
 else if c.ty = 12 then ⟨12,0,0,0,0,0,0,0,0,0,c.line⟩ else ⟨c.ty,0,0,0,0,0,0,0,0,0,0⟩

def onlyG (args : List V) (h : List Blk) : Res:=capF (fun c => .ok (.agg (onlyC c).cl) [] h) args
theorem only_snd : Snd Try.prog 98 (FSpec.of onlyG):=snd_run (noT_snd _) mixed Try.func98 dc98 100 fun args h K _ hS => by
 obtain ⟨⟨t,o,b,d,e,g,i,j,k,l,m⟩,rfl,hR⟩:=capF_spec hS
 simp only [Cap.cl,spec_ok,onlyC] at hR ⊢
 rcases kinds t with rfl | rfl | rfl | rfl | rfl | rfl | rfl | rfl | rfl | rfl | rfl | rfl | rfl | rfl | ⟨k0,k1,k2,k3,k4,k5,k6,k7,k8,k9,k10,k11,k12,k13,ho⟩
 all_goals try simp only [k1,k2,k3,k4,k5,k6,k7,k8,k9,k10,k12,if_false] at hR
 all_goals try simp only [reduceEq,if_true,if_false] at hR
 all_goals try simp (maxSteps:=9999999) only [EV0,zx,zw,zv,zu,zq,zp,zj,zk,zg,leT,zZ,rvC,zY,zX,zW,zV,↓zU,↓zQ,reduceCtorEq,yz,yy,yY,yx,yw,yv,yu,yq,yp,yX,yj,yk,yg,yW,yV,yU,yZ,yQ,xz,df98,k1,k2,k3,k4,k5,k6,k7,k8,k9,k10,k12,put]
 all_goals try simp (maxSteps:=9999999) only [EV0,zx,zw,zv,zu,zq,zp,zj,zk,zg,leT,zZ,rvC,zY,zX,zW,zV,↓zU,↓zQ,reduceCtorEq,yz,yy,yY,yx,yw,yv,yu,yq,yp,yX,yj,yk,yg,yW,yV,yU,yZ,yQ,xz,df98,put]
 all_goals try exact hR

def shR (a b : Int) : Int:=IntKind.i64.wrap (a * 2 ^ min b.toNat IntKind.i64.bits)
def rszN (c : Cap) : Int :=
 if c.ty = 1 then (if 4 ≤ c.bits ∧ c.bits ≤ 15 then shR 1 c.bits else 0) else if c.ty = 2 then (if 1 ≤ c.bits ∧ c.bits ≤ 8 then shR 4 c.bits else 0)
 else if c.ty = 10 then (if 1 ≤ c.bits ∧ c.bits ≤ 8 then shR 4 c.bits else if c.bits = 31 then 64 else 0)
 else if c.ty = 3 then 64 else if c.ty = 9 then 64 else if c.ty = 4 then 4 else if c.ty = 5 then 8 else if c.ty = 6 then 8 else if c.ty = 7 then 8 else if c.ty = 8 then 16 else 0
def sizeG (args : List V) (h : List Blk) : Res:=capF (fun c => .ok (.s (.i .i64 (rszN c))) [] h) args
theorem rsize_snd : Snd Try.prog 99 (FSpec.of sizeG):=snd_run (noT_snd _) mixed Try.func99 dc99 100 fun args h K _ hS => by
 obtain ⟨⟨t,o,b,d,e,g,i,j,k,l,m⟩,rfl,hR⟩:=capF_spec hS
 simp only [Cap.cl,spec_ok,rszN,shR] at hR ⊢
 rcases kinds t with rfl | rfl | rfl | rfl | rfl | rfl | rfl | rfl | rfl | rfl | rfl | rfl | rfl | rfl | ⟨k0,k1,k2,k3,k4,k5,k6,k7,k8,k9,k10,k11,k12,k13,ho⟩
 all_goals try simp only [k1,k2,k3,k4,k5,k6,k7,k8,k9,k10,k12,if_false] at hR
 all_goals try simp only [reduceEq,if_true,if_false] at hR
 all_goals try simp (maxSteps:=9999999) only [EV0,zx,zw,zv,zu,zq,zp,zj,zk,zg,leT,zZ,rvC,zY,zX,zW,zV,↓zU,↓zQ,reduceCtorEq,yz,yy,yY,yx,yw,yv,yu,yq,yp,yX,yj,yk,yg,yW,yV,yU,yZ,yQ,xz,df99,k1,k2,k3,k4,k5,k6,k7,k8,k9,k10,k12,put]
 all_goals try simp (maxSteps:=9999999) only [EV0,zx,zw,zv,zu,zq,zp,zj,zk,zg,leT,zZ,rvC,zY,zX,zW,zV,↓zU,↓zQ,reduceCtorEq,yz,yy,yY,yx,yw,yv,yu,yq,yp,yX,yj,yk,yg,yW,yV,yU,yZ,yQ,xz,df99,put]
 all_goals try exact hR
 ·exact ⟨fun h => by omega,close1 (P:=fun n => K (V.s (S.i .i64 n)) h) hR⟩
 ·exact ⟨fun h => by omega,close1 (P:=fun n => K (V.s (S.i .i64 n)) h) hR⟩
 ·have h1:=close1 (P:=fun n => K (V.s (S.i .i64 n)) h) hR
  exact ⟨fun h => by omega,h1.1,fun n => close1 (P:=fun n => K (V.s (S.i .i64 n)) h) (h1.2 n)⟩

def rinV (n a b : Int) : Bool:=decide (a ≤ n) && decide (n ≤ b)
def rinG : List V → List Blk → Res
 | [.s (.i .i64 n), .s (.i .i64 a), .s (.i .i64 b)],h => .ok (.s (.b (rinV n a b))) [] h
 | _,_ => .bad
theorem rin_snd : Snd Try.prog 101 (FSpec.of rinG):=snd_run (noT_snd _) mixed Try.func101 dc101 100 fun args h K _ hS => by
 unfold rinG at hS
 split at hS
 ·simp only [spec_ok,rinV] at hS
  simp (maxSteps:=9999999) only [EV0,zx,zw,zv,zu,zq,zp,zj,zk,zg,leT,zZ,rvC,zY,zX,zW,zV,↓zU,↓zQ,reduceCtorEq,yz,yy,yY,yx,yw,yv,yu,yq,yp,yX,yj,yk,yg,yW,yV,yU,yZ,yQ,xz,df101]
  exact hS
 ·exact hS.elim
def adrV (n w : Int) : Bool:=decide (1024 ≤ n) && (decide (n ≤ 65535) && n.tmod w == 0)
def adrG : List V → List Blk → Res
 | [.s (.i .i64 n), .s (.i .i64 w)],h => .ob (0 < w) (.ok (.s (.b (adrV n w))) [] h)
 | _,_ => .bad
theorem adr_snd : Snd Try.prog 100 (FSpec.of adrG):=snd_run (noT_snd _) mixed Try.func100 dc100 100 fun args h K _ hS => by
 unfold adrG at hS
 split at hS
 ·obtain ⟨hw,hS⟩:=hS
  simp only [spec_ok,adrV] at hS
  simp (maxSteps:=9999999) only [EV0,zx,zw,zv,zu,zq,zp,zj,zk,zg,leT,zZ,rvC,zY,zX,zW,zV,↓zU,↓zQ,reduceCtorEq,yz,yy,yY,yx,yw,yv,yu,yq,yp,yX,yj,yk,yg,yW,yV,yU,yZ,yQ,xz,df100]
  exact ⟨fun _ _ => by omega,hS⟩
 ·exact hS.elim
end Go.Proofs.Ytcdfofeolgbnbaa

