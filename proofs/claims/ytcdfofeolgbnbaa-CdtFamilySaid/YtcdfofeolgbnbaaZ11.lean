/- The machine's memory: how it stands among the blocks. -/
import Derived.Test.YtcdfofeolgbnbaaZ8
import Derived.Test.YtcdfofeolgbnbaaZ10
/- The document's caps: plain laws for Right. -/
namespace Go.Proofs.Ytcdfofeolgbnbaa
open Go.D
open Nat (reduceAdd reducePow reduceMul reduceSub reduceLeDiff reduceLT reduceEqDiff)
open Int (reduceNeg reduceLE reduceEq reduceNe reduceToNat)
open Go.D renaming istep → zx,pickR → zw,bin1R → zv,un1R → zu,eqS → zq,eq1 → zp,cmpS → zj,cmp1 → zk,isNil → zg,shows → zZ,result → zY,q_cond_t → zU,q_cond_f → zQ
open List renaming set → zX,replicate → zW
open Option renaming map → zV
open Nat renaming reduceAdd → yz,reducePow → yy,reduceMul → yx,reduceSub → yw,reduceLeDiff → yv,reduceLT → yu,reduceEqDiff → yq
open Int renaming reduceNeg → yp,reduceLE → yj,reduceEq → yk,reduceNe → yg,reduceToNat → yZ,reducePow → yY,reduceLT → yX,reduceAdd → yW,reduceSub → yV,reduceMul → yU,reduceBEq → yQ,reduceBNe → xz
set_option linter.all false
set_option maxRecDepth 100000
set_option maxHeartbeats 4000000

theorem adr_iff {o w : Int} : adrV o w = true ↔ ¬ (o < 1024 ∨ 65535 < o ∨ ¬ o.tmod w = 0):=by
 simp only [adrV,Bool.and_eq_true,decide_eq_true_eq,beq_iff_eq]; omega
theorem close3 {P : Bool → Prop} {A B : Prop} [Decidable A] [Decidable B] {q X X' : Bool} (hq : q = true ↔ ¬ B) (hx : X = X') (h : P (if A then (if B then false else X) else false)) :
  (¬ A → P false) ∧ (A → (¬ q = true → P false) ∧ (q = true → P X')):=by
 subst hx
 have h1:=close2 h
 exact ⟨h1.1,fun a => ⟨fun n => (close1 (h1.2 a)).1 (Classical.byContradiction fun c => n (hq.2 c)),fun y => (close1 (h1.2 a)).2 (hq.1 y)⟩⟩
theorem sz_law {P : Bool → Prop} {ok Z B : Prop} [Decidable ok] [Decidable Z] [Decidable B] {N N' : Int} {q X X' : Bool} (hN : ok → N' = N ∧ 0 < N) (hn : ¬ ok → N' = 0) (hq : ok → (q = true ↔ ¬ B)) (hx : ok → X' = X) (hz : ¬ ok → X' = false)
  (h : P (if ¬ ok ∨ ¬ Z then false else if 0 < N ∧ B then false else X)) :
  (¬ Z → P false) ∧ (Z → (0 < N' → (¬ q = true → P false) ∧ (q = true → P X')) ∧ (¬ 0 < N' → P X')):=by
 have h1:=close1 h
 refine ⟨fun z => h1.1 (.inr z),fun z => ?_⟩
 by_cases o : ok
 ·have h2:=close1 (h1.2 fun c => c.elim (fun x => x o) (fun x => x z))
  obtain ⟨e,p⟩:=hN o
  rw [hx o,e]
  exact ⟨fun _ => ⟨fun n => h2.1 ⟨p,Classical.byContradiction fun c => n ((hq o).2 c)⟩,fun y => h2.2 fun c => (hq o).1 y c.2⟩,fun n => absurd p n⟩
 ·rw [hz o,hn o]
  have f:=h1.1 (.inl o)
  exact ⟨fun _ => ⟨fun _ => f,fun _ => f⟩,fun _ => f⟩
theorem pos2 (n : Nat) : (0 : Int) < 2 ^ n:=Int.pow_pos (by decide)
theorem shR_u {b : Int} (h : 4 ≤ b ∧ b ≤ 15) : shR 1 b = uRaw b:=by
 have : b = 4 ∨ b = 5 ∨ b = 6 ∨ b = 7 ∨ b = 8 ∨ b = 9 ∨ b = 10 ∨ b = 11 ∨ b = 12 ∨ b = 13 ∨ b = 14 ∨ b = 15:=by omega
 rcases this with rfl | rfl | rfl | rfl | rfl | rfl | rfl | rfl | rfl | rfl | rfl | rfl <;> decide
theorem shR_n {b : Int} (h : 1 ≤ b ∧ b ≤ 8) : shR 4 b = nRaw b:=by
 have : b = 1 ∨ b = 2 ∨ b = 3 ∨ b = 4 ∨ b = 5 ∨ b = 6 ∨ b = 7 ∨ b = 8:=by omega
 rcases this with rfl | rfl | rfl | rfl | rfl | rfl | rfl | rfl <;> decide
theorem uRaw_pos {b : Int} (h : 4 ≤ b ∧ b ≤ 15) : 0 < uRaw b:=by rw [uRaw_eq h]; exact pos2 _
theorem nRaw_pos {b : Int} (h : 1 ≤ b ∧ b ≤ 8) : 0 < nRaw b:=by rw [nRaw_eq h]; have:=pos2 b.toNat; omega

theorem pool_eq (k : Int) : (inV k 63 && k.tmod 8 == 0) = (rinV k 0 56 && k.tmod 8 == 0):=by
 rw [Bool.eq_iff_iff]
 simp only [inV,rinV,Bool.and_eq_true,decide_eq_true_eq,beq_iff_eq]
 constructor
 ·rintro ⟨⟨h1,h2⟩,h3⟩
  rw [Int.tmod_eq_emod_of_nonneg h1] at h3
  exact ⟨⟨h1,by omega⟩,by rw [Int.tmod_eq_emod_of_nonneg h1]; exact h3⟩
 ·rintro ⟨⟨h1,h2⟩,h3⟩
  exact ⟨⟨h1,by omega⟩,h3⟩
theorem table_eq (k l : Int) : mapV k l 1 = (rinV k 0 63 && (rinV l 0 65535 && (decide (0 < k) || l == 0))):=by
 simp [mapV,inV,rinV]
theorem frame_eq (k l : Int) (x : Bool) : (x && mapV k l 16) = (x && (rinV k 0 63 && (rinV l 0 65520 && (l.tmod 16 == 0 && (decide (0 < k) || l == 0))))):=by
 congr 1
 rw [Bool.eq_iff_iff]
 simp only [mapV,inV,rinV,Bool.and_eq_true,Bool.or_eq_true,decide_eq_true_eq,beq_iff_eq]
 constructor
 ·rintro ⟨h0,⟨h1,h2⟩,h3,h4⟩
  rw [Int.tmod_eq_emod_of_nonneg h1] at h3
  exact ⟨h0,⟨h1,by omega⟩,by rw [Int.tmod_eq_emod_of_nonneg h1]; exact h3,h4⟩
 ·rintro ⟨h0,⟨h1,h2⟩,h3,h4⟩
  exact ⟨h0,⟨h1,by omega⟩,h3,h4⟩
theorem zrange {b : Int} : ((if b = 31 then true else nOk b) = true) ↔ b = 31 ∨ (1 ≤ b ∧ b ≤ 8):=by
 split
 ·simp [*]
 ·rw [nOk_iff]; simp [*]

def TQ : Tab:=addT 101 rinG (addT 100 adrG (addT 98 onlyG (addT 99 sizeG noT)))
theorem TQ_snd : TQ.Snd Try.prog:=addT_snd ok101 rin_snd (addT_snd ok100 adr_snd (addT_snd ok98 only_snd (addT_snd ok99 rsize_snd (noT_snd _))))

theorem rright_snd : Snd Try.prog 91 (FSpec.of rightG):=snd_run TQ_snd mixed Try.func91 dc91 200 fun args h K _ hS => by
 obtain ⟨⟨t,o,b,d,e,g,i,j,k,l,m⟩,rfl,hR⟩:=capF_spec hS
 clear hS
 simp only [Cap.cl,spec_ok,rightB] at hR ⊢
 obtain ⟨P,hP⟩ : ∃ P : Bool → Prop,P = fun B => K (V.s (S.b B)) h:=⟨_,rfl⟩
 rcases kinds t with rfl | rfl | rfl | rfl | rfl | rfl | rfl | rfl | rfl | rfl | rfl | rfl | rfl | rfl | ⟨k0,k1,k2,k3,k4,k5,k6,k7,k8,k9,k10,k11,k12,k13,ho⟩
 all_goals try simp only [k0,k1,k2,k3,k4,k5,k6,k7,k8,k9,k10,k11,k12,k13,if_false] at hR
 all_goals try simp only [reduceEq,if_true,if_false] at hR
 all_goals try simp (maxSteps:=9999999) only [EV0,zx,zw,zv,zu,zq,zp,zj,zk,zg,leT,zZ,rvC,zY,zX,zW,zV,↓zU,↓zQ,reduceCtorEq,yz,yy,yY,yx,yw,yv,yu,yq,yp,yX,yj,yk,yg,yW,yV,yU,yZ,yQ,xz,df91,TQ,rinG,adrG,onlyG,sizeG,capF,rszN,onlyC,Cap.cl,k0,k1,k2,k3,k4,k5,k6,k7,k8,k9,k10,k11,k12,k13]
 all_goals try simp (maxSteps:=9999999) only [EV0,zx,zw,zv,zu,zq,zp,zj,zk,zg,leT,zZ,rvC,zY,zX,zW,zV,↓zU,↓zQ,reduceCtorEq,yz,yy,yY,yx,yw,yv,yu,yq,yp,yX,yj,yk,yg,yW,yV,yU,yZ,yQ,xz,df91,TQ,rinG,adrG,onlyG,sizeG,capF,rszN,onlyC,Cap.cl]
 ·exact close2 (P:=fun B => K (V.s (S.b B)) h) hR
 ·refine ⟨fun _ h => h,sz_law (P:=fun B => K (V.s (S.b B)) h) ?_ ?_ ?_ ?_ ?_ hR⟩
  ·intro ok; rw [if_pos ok,shR_u ok]; exact ⟨rfl,uRaw_pos ok⟩
  ·intro ok; rw [if_neg ok]
  ·intro ok; rw [if_pos ok,shR_u ok]; exact adr_iff
  ·intro ok; rw [if_pos ok,shR_u ok,decide_eq_true (uRaw_pos ok)]; rfl
  ·intro ok; rw [if_neg ok]; rfl
 ·refine ⟨fun _ _ _ y => (inV_iff.1 y).1,fun _ h => h,fun _ _ _ _ y => (inV_iff.1 y).1,sz_law (P:=fun B => K (V.s (S.b B)) h) ?_ ?_ ?_ ?_ ?_ hR⟩
  ·intro ok; have ok:=nOk_iff.1 ok; rw [if_pos ok,shR_n ok]; exact ⟨rfl,nRaw_pos ok⟩
  ·intro ok; have ok:=fun x => ok (nOk_iff.2 x); rw [if_neg ok]
  ·intro ok; have ok:=nOk_iff.1 ok; rw [if_pos ok,shR_n ok]; exact adr_iff
  ·intro ok; have ok:=nOk_iff.1 ok; rw [if_pos ok,shR_n ok,decide_eq_true (nRaw_pos ok)]; rfl
  ·intro ok; have ok:=fun x => ok (nOk_iff.2 x); rw [if_neg ok]; rfl
 ·exact close3 (P:=fun B => K (V.s (S.b B)) h) adr_iff rfl hR
 ·exact close3 (P:=fun B => K (V.s (S.b B)) h) adr_iff rfl hR
 ·exact close3 (P:=fun B => K (V.s (S.b B)) h) adr_iff rfl hR
 ·exact close3 (P:=fun B => K (V.s (S.b B)) h) adr_iff (table_eq _ _) hR
 ·exact close3 (P:=fun B => K (V.s (S.b B)) h) adr_iff (pool_eq _) hR
 ·exact close3 (P:=fun B => K (V.s (S.b B)) h) adr_iff (frame_eq _ _ _) hR
 ·exact close3 (P:=fun B => K (V.s (S.b B)) h) adr_iff rfl hR
 ·have r:=sz_law (P:=fun B => K (V.s (S.b B)) h) (N':=if 1 ≤ b ∧ b ≤ 8 then shR 4 b else if b = 31 then 64 else 0) (q:=adrV o (if 1 ≤ b ∧ b ≤ 8 then shR 4 b else if b = 31 then 64 else 0))
   (X':=if b = 31 then rinV d 0 3 else decide (0 < if 1 ≤ b ∧ b ≤ 8 then shR 4 b else if b = 31 then 64 else 0) && rinV d 0 (IntKind.i64.wrap ((if 1 ≤ b ∧ b ≤ 8 then shR 4 b else if b = 31 then 64 else 0).tdiv 4))) ?_ ?_ ?_ ?_ ?_ hR
  ·exact ⟨fun _ h => h,r.1,fun z => ⟨fun p => ⟨((r.2 z).1 p).1,fun a => close1 (P:=fun B => K (V.s (S.b B)) h) (((r.2 z).1 p).2 a)⟩,fun p => close1 (P:=fun B => K (V.s (S.b B)) h) ((r.2 z).2 p)⟩⟩
  ·intro ok
   rcases zrange.1 ok with rfl | ok
   ·exact ⟨rfl,by decide⟩
   ·rw [if_pos ok,shR_n ok,if_neg (by omega)]; exact ⟨rfl,nRaw_pos ok⟩
  ·intro ok
   have ok:=fun x => ok (zrange.2 x)
   rw [if_neg (fun x => ok (.inr x)),if_neg (fun x => ok (.inl x))]
  ·intro ok
   rcases zrange.1 ok with rfl | ok
   ·exact adr_iff
   ·rw [if_pos ok,shR_n ok,if_neg (by omega)]; exact adr_iff
  ·intro ok
   rcases zrange.1 ok with rfl | ok
   ·rfl
   ·rw [if_pos ok,shR_n ok,if_neg (by omega),if_neg (by omega),decide_eq_true (nRaw_pos ok),if_neg (by omega)]; rfl
  ·intro ok
   have ok:=fun x => ok (zrange.2 x)
   rw [if_neg (fun x => ok (.inr x)),if_neg (fun x => ok (.inl x)),if_neg (fun x => ok (.inl x))]; rfl
 ·exact close2 (P:=fun B => K (V.s (S.b B)) h) hR
 ·exact close2 (P:=fun B => K (V.s (S.b B)) h) hR
 ·exact close2 (P:=fun B => K (V.s (S.b B)) h) hR
 ·exact ⟨fun _ => hR,fun _ => hR⟩

def TF : Tab:=addT 91 rightG noT
theorem TF_snd : TF.Snd Try.prog:=addT_snd ok91 rright_snd (noT_snd _)
theorem renc_snd : Snd Try.prog 79 (FSpec.of encG):=snd_run TF_snd mixed Try.func79 dc79 200 fun args h K hc hS => by
 obtain ⟨c,rfl,hR⟩:=capF_spec hS
 clear hS
 simp only [spec_br,spec_ok] at hR
 cases hr : rightB c with
 | false =>
  have hQ:=hR.2 hr
  clear hR
  obtain ⟨t,o,b,d,e,g,i,j,k,l,m⟩:=c
  simp only [Cap.cl]
  simp (maxSteps:=9999999) only [EV0,zx,zw,zv,zu,zq,zp,zj,zk,zg,leT,zZ,rvC,zY,zX,zW,zV,↓zU,↓zQ,reduceCtorEq,yz,yy,yY,yx,yw,yv,yu,yq,yp,yX,yj,yk,yg,yW,yV,yU,yZ,yQ,xz,df79,TF,rightG,capF,hr]
  exact hQ
 | true =>
  have hQ:=hR.1 hr
  clear hR
  have hb:=right_bounds hr
  obtain ⟨t,o,b,d,e,g,i,j,k,l,m⟩:=c
  obtain ⟨h1,h2,h3,h4,h5,h6,h7,h8,h9,h10,h11,one⟩:=hb
  simp only at h1 h2 h3 h4 h5 h6 h7 h8 h9 h10 h11 one
  have u1:=wrapu h1.1 (by omega)
  have u2:=wrapu h2.1 (by omega)
  have u3:=wrapu h3.1 (by omega)
  have u4:=wrapu h4.1 (by omega)
  have u5:=wrapu h5.1 (by omega)
  have u6:=wrapu h6.1 (by omega)
  have u7:=wrapu h7.1 (by omega)
  have m4 : min 4 IntKind.u64.bits = 4:=rfl
  have m20 : min 20 IntKind.u64.bits = 20:=rfl
  have m25 : min 25 IntKind.u64.bits = 25:=rfl
  have m28 : min 28 IntKind.u64.bits = 28:=rfl
  have m32 : min 32 IntKind.u64.bits = 32:=rfl
  have m38 : min 38 IntKind.u64.bits = 38:=rfl
  have v2 : IntKind.u64.wrap (o * 16) = o * 16:=wrapu (by omega) (by omega)
  have v3 : IntKind.u64.wrap (b * 1048576) = b * 1048576:=wrapu (by omega) (by omega)
  have v4 : IntKind.u64.wrap (j * 33554432) = j * 33554432:=wrapu (by omega) (by omega)
  have v5 : IntKind.u64.wrap (m * 268435456) = m * 268435456:=wrapu (by omega) (by omega)
  have v6 : IntKind.u64.wrap (k * 4294967296) = k * 4294967296:=wrapu (by omega) (by omega)
  have v7 : IntKind.u64.wrap (g * 274877906944) = g * 274877906944:=wrapu (by omega) (by omega)
  have s2 : IntKind.u64.wrap (t + o * 16) = t + o * 16:=wrapu (by omega) (by omega)
  have s3 : IntKind.u64.wrap (t + o * 16 + b * 1048576) = t + o * 16 + b * 1048576:=wrapu (by omega) (by omega)
  have s4 : IntKind.u64.wrap (t + o * 16 + b * 1048576 + j * 33554432) = t + o * 16 + b * 1048576 + j * 33554432:=wrapu (by omega) (by omega)
  have s5 : IntKind.u64.wrap (t + o * 16 + b * 1048576 + j * 33554432 + m * 268435456) = t + o * 16 + b * 1048576 + j * 33554432 + m * 268435456:=wrapu (by omega) (by omega)
  have s6 : IntKind.u64.wrap (t + o * 16 + b * 1048576 + j * 33554432 + m * 268435456 + k * 4294967296) = t + o * 16 + b * 1048576 + j * 33554432 + m * 268435456 + k * 4294967296:=wrapu (by omega) (by omega)
  have s7 : IntKind.u64.wrap (t + o * 16 + b * 1048576 + j * 33554432 + m * 268435456 + k * 4294967296 + g * 274877906944) = t + o * 16 + b * 1048576 + j * 33554432 + m * 268435456 + k * 4294967296 + g * 274877906944:=wrapu (by omega) (by omega)
  have w0 : (⟨t,o,b,d,e,g,i,j,k,l,m⟩ : Cap).w0 = t + o * 16 + b * 1048576 + j * 33554432 + m * 268435456 + k * 4294967296 + g * 274877906944:=by simp only [Cap.w0]; omega
  have w1 : (⟨t,o,b,d,e,g,i,j,k,l,m⟩ : Cap).num = d + e + i + l:=rfl
  rw [w0,w1] at hQ
  have x1:=wrapu (n:=d) (by omega) (by omega)
  have x2:=wrapu (n:=e) (by omega) (by omega)
  have x3:=wrapu (n:=i) (by omega) (by omega)
  have x4:=wrapu (n:=l) (by omega) (by omega)
  simp only [Cap.cl]
  have kk : t = 2 ∨ t = 4 ∨ t = 5 ∨ t = 6 ∨ t = 8 ∨ (¬ t = 2 ∧ ¬ t = 4 ∧ ¬ t = 5 ∧ ¬ t = 6 ∧ ¬ t = 8):=by omega
  rcases kk with ht | ht | ht | ht | ht | ⟨k2,k4,k5,k6,k8⟩
  case inr.inr.inr.inr.inr =>
   have eq : d + e + i + l = d:=by simp only [k2,k4,k5,k6,k8,if_false,or_self] at one; omega
   rw [eq] at hQ
   simp (maxSteps:=9999999) only [EV0,zx,zw,zv,zu,zq,zp,zj,zk,zg,leT,zZ,rvC,zY,zX,zW,zV,↓zU,↓zQ,reduceCtorEq,yz,yy,yY,yx,yw,yv,yu,yq,yp,yX,yj,yk,yg,yW,yV,yU,yZ,yQ,xz,df79,TF,rightG,capF,hr,u1,u2,u3,u4,u5,u6,u7,m4,m20,m25,m28,m32,m38,v2,v3,v4,v5,v6,v7,s2,s3,s4,s5,s6,s7,x1,k2,k4,k5,k6,k8]
   exact hQ
  case inl =>
   have eq : d + e + i + l = e:=by simp only [ht,if_true] at one; omega
   rw [eq] at hQ
   subst ht
   simp (maxSteps:=9999999) only [EV0,zx,zw,zv,zu,zq,zp,zj,zk,zg,leT,zZ,rvC,zY,zX,zW,zV,↓zU,↓zQ,reduceCtorEq,yz,yy,yY,yx,yw,yv,yu,yq,yp,yX,yj,yk,yg,yW,yV,yU,yZ,yQ,xz,df79,TF,rightG,capF,hr,u1,u2,u3,u4,u5,u6,u7,m4,m20,m25,m28,m32,m38,v2,v3,v4,v5,v6,v7,s2,s3,s4,s5,s6,s7,x2]
   exact hQ
  case inr.inl =>
   have eq : d + e + i + l = i:=by simp only [ht,reduceEq,if_false,or_false,true_or,if_true] at one; omega
   rw [eq] at hQ
   subst ht
   simp (maxSteps:=9999999) only [EV0,zx,zw,zv,zu,zq,zp,zj,zk,zg,leT,zZ,rvC,zY,zX,zW,zV,↓zU,↓zQ,reduceCtorEq,yz,yy,yY,yx,yw,yv,yu,yq,yp,yX,yj,yk,yg,yW,yV,yU,yZ,yQ,xz,df79,TF,rightG,capF,hr,u1,u2,u3,u4,u5,u6,u7,m4,m20,m25,m28,m32,m38,v2,v3,v4,v5,v6,v7,s2,s3,s4,s5,s6,s7,x3]
   exact hQ
  case inr.inr.inl =>
   have eq : d + e + i + l = i:=by simp only [ht,reduceEq,if_false,or_true,if_true] at one; omega
   rw [eq] at hQ
   subst ht
   simp (maxSteps:=9999999) only [EV0,zx,zw,zv,zu,zq,zp,zj,zk,zg,leT,zZ,rvC,zY,zX,zW,zV,↓zU,↓zQ,reduceCtorEq,yz,yy,yY,yx,yw,yv,yu,yq,yp,yX,yj,yk,yg,yW,yV,yU,yZ,yQ,xz,df79,TF,rightG,capF,hr,u1,u2,u3,u4,u5,u6,u7,m4,m20,m25,m28,m32,m38,v2,v3,v4,v5,v6,v7,s2,s3,s4,s5,s6,s7,x3]
   exact hQ
  case inr.inr.inr.inl =>
   have eq : d + e + i + l = l:=by simp only [ht,reduceEq,if_false,or_self,true_or,if_true] at one; omega
   rw [eq] at hQ
   subst ht
   simp (maxSteps:=9999999) only [EV0,zx,zw,zv,zu,zq,zp,zj,zk,zg,leT,zZ,rvC,zY,zX,zW,zV,↓zU,↓zQ,reduceCtorEq,yz,yy,yY,yx,yw,yv,yu,yq,yp,yX,yj,yk,yg,yW,yV,yU,yZ,yQ,xz,df79,TF,rightG,capF,hr,u1,u2,u3,u4,u5,u6,u7,m4,m20,m25,m28,m32,m38,v2,v3,v4,v5,v6,v7,s2,s3,s4,s5,s6,s7,x4]
   exact hQ
  case inr.inr.inr.inr.inl =>
   have eq : d + e + i + l = l:=by simp only [ht,reduceEq,if_false,or_self,or_true,if_true] at one; omega
   rw [eq] at hQ
   subst ht
   simp (maxSteps:=9999999) only [EV0,zx,zw,zv,zu,zq,zp,zj,zk,zg,leT,zZ,rvC,zY,zX,zW,zV,↓zU,↓zQ,reduceCtorEq,yz,yy,yY,yx,yw,yv,yu,yq,yp,yX,yj,yk,yg,yW,yV,yU,yZ,yQ,xz,df79,TF,rightG,capF,hr,u1,u2,u3,u4,u5,u6,u7,m4,m20,m25,m28,m32,m38,v2,v3,v4,v5,v6,v7,s2,s3,s4,s5,s6,s7,x4]
   exact hQ

def slT : List Int → Nat → V
 | [],_ => .s .ns
 | y :: M,c => .s (.sl (.l 0) 0 (M.length + 1) c)
def lsT : List Int → Nat → List Blk
 | [],_ => []
 | y :: M,c => [⟨.rw,arr Uc (y :: M),c⟩]

theorem uc_all (p : S → Bool) (hp : ∀ n,p (.i .u64 n) = true) (M : List Int) : (arr Uc M).all p = true:=by
 rw [arr_all]; simp [Uc,hp]
theorem uc_ren (ρ : R → R) (M : List Int) : (arr Uc M).map (S.ren ρ) = arr Uc M:=by
 induction M with
 | nil => rfl
 | cons y M ih => simp only [arr,List.map_append,ih]; rfl

theorem words_leave {h : List Blk} {K : V → List Blk → Prop} {y e : Int} {M : List Int} {c : Nat} (hc : M.length + 1 ≤ c) (hS : (wordsR (y :: M) (pairV e) h).spec K) :
  leaveB (.tup [.s (.sl (.l 0) 0 (M.length + 1) c), .s (.i .i64 e)]) [⟨.rw,arr Uc (y :: M),c⟩] h K false:=by
 have hS:=hS c hc
 refine ⟨[0],by simp,rfl, ?_⟩
 simp only [getAll,List.getElem?_cons_zero]
 refine ⟨?_, ?_⟩
 ·simp only [List.all_cons,List.all_nil,decide_true,Bool.true_and,Bool.and_true]
  exact uc_all _ (fun _ => rfl) (y :: M)
 ·refine cast ?_ hS
  simp only [List.map_cons,List.map_nil,Blk.ren,uc_ren]
  rfl

theorem div_dec (w a : Nat) : decide (((w : Int).toNat) / 2 ^ ((a : Int).toNat) = 0) = decide ((w : Int) / 2 ^ a = 0):=by
 simp only [Int.toNat_natCast]
 have : ((w : Int) / 2 ^ a = 0) ↔ w / 2 ^ a = 0:=by
  constructor
  ·intro h; have : ((w / 2 ^ a : Nat) : Int) = 0:=by push_cast; exact h
   omega
  ·intro h; have : ((w / 2 ^ a : Nat) : Int) = 0:=by rw [h]; rfl
   push_cast at this; exact this
 simp only [this]

theorem unpack_loop {h : List Blk} {K : V → List Blk → Prop} {k n c0 : Nat} {w : Nat} {B : Blk} {L : List Int} (hw : w < 18446744073709551616) (hk : h[k]? = some B) (hst : B.st ≠ .dead) (hB : B.cells = arr Ic L) (hn : n ≤ L.length) (hn64 : n ≤ 9223372036854775807) (hc : clean h.length h = true)
  (hS : (Res.br (unpackB (w : Int) (L.take n) 0) (wordsR (unpackV (w : Int) (L.take n) 0) (pairV 0) h) (.ok (.tup [.s .ns, .s (.i .i64 10)]) [] h)).spec K) :
  holds W2.Γ h.length (finP df58.res K) (run W2 100 [.c df58.body] ([V.s (.i .u64 w),V.s (.sl (.g k) 0 n c0)] ++ List.replicate 39 (.tup [])) [] h):=by
 simp only [spec_br,spec_ok] at hS
 obtain ⟨F,hF⟩ : ∃ F,F = L.take n:=⟨_,rfl⟩
 have hFl : F.length = n:=by rw [hF]; simp; omega
 rw [← hF] at hS
 have hwu:=u64_of hw
 simp (maxSteps:=9999999) only [EV0,zx,zw,zv,zu,zq,zp,zj,zk,zg,leT,zZ,rvC,zY,zX,zW,zV,↓zU,↓zQ,reduceCtorEq,yz,yy,yY,yx,yw,yv,yu,yq,yp,yX,yj,yk,yg,yW,yV,yU,yZ,yQ,xz,df58]
 refine loop_rule (α:=Nat × Nat × List Int × Nat) [4,5,6,7,9,10,11,14,15,16,17,18,19,20,21,22,23,24,25,26,27,28,29,30,31,32,33,34,35] (fun y => [(6,slT y.2.2.1 y.2.2.2),(7, .s (.i .i64 y.2.1)),(14, .s (.i .i64 y.1))]) (fun y => lsT y.2.2.1 y.2.2.2) (fun _ => h)
  (fun y => y.1 ≤ n ∧ y.2.1 ≤ 64 ∧ y.2.2.1.length = y.1 ∧ y.1 ≤ y.2.1 ∧ y.2.2.1.length ≤ y.2.2.2 ∧ unpackB w F 0 = unpackB w (F.drop y.1) y.2.1 ∧ unpackV w F 0 = y.2.2.1 ++ unpackV w (F.drop y.1) y.2.1) (fun y => n - y.1) (0,0,[],0) ⟨by simp,by simp,rfl,by simp,by simp,by simp,by simp⟩ (Wk.same rfl rfl ?_) ?_
 ·simp (maxSteps:=9999999) only [EV0,zx,zw,zv,zu,zq,zp,zj,zk,zg,leT,zZ,rvC,zY,zX,zW,zV,↓zU,↓zQ,reduceCtorEq,yz,yy,yY,yx,yw,yv,yu,yq,yp,yX,yj,yk,yg,yW,yV,yU,yZ,yQ,xz,Int.natCast_zero,slT]
 ·rintro X ⟨i,a,M,c⟩ ⟨hi,ha,hM,hia,hMc,hpb,hpv⟩ IH
  simp only at hi ha hM hia hMc hpb hpv ⊢
  rcases Nat.lt_or_ge i n with hlt | hge
  ·have I:=idx hlt hn64
   have hiL : i < L.length:=by omega
   obtain ⟨b,hb⟩ : ∃ b,b = nth 0 L i:=⟨_,rfl⟩
   have E : B.cells[i]? = some (.i .i64 b):=by
    have:=arr_get0 Ic_len hiL (by omega)
    rw [Nat.mul_one] at this
    rw [hB,this,hb,nth_eq hiL]; rfl
   have hd : F.drop i = b :: F.drop (i + 1):=by
    rw [List.drop_eq_getElem_cons (by omega),hb,nth_eq hiL]
    congr 1
    subst hF; simp
   rw [hd] at hpb hpv
   simp only [unpackB,unpackV] at hpb hpv
   cases hf : fieldB (a : Int) b with
   | true =>
    obtain ⟨a',m,e1,e2,h1,h2,h3⟩:=fieldB_nat hf
    have : a' = a:=by omega
    subst this
    have hwr : IntKind.i64.wrap ((a' : Int) + b) = ((a' + m : Nat) : Int):=by rw [wrap64] <;> omega
    have hpb' : unpackB w F 0 = unpackB w (F.drop (i + 1)) ((a' + m : Nat) : Int):=by rw [hpb,hf,Bool.true_and,e2]; rfl
    cases M with
    | nil =>
     have hkl : k < h.length:=(List.getElem?_eq_some_iff.1 hk).1
     simp only [slT,lsT]
     refine run_sound (Tab.ok_Γ _) 200 _ _ _ _ ?_
     simp (maxSteps:=9999999) only [EV0,zx,zw,zv,zu,zq,zp,zj,zk,zg,leT,zZ,rvC,zY,zX,zW,zV,↓zU,↓zQ,reduceCtorEq,yz,yy,yY,yx,yw,yv,yu,yq,yp,yX,yj,yk,yg,yW,yV,yU,yZ,yQ,xz,I,E,hk,hst,W2,getG,hwu,hf,hwr]
     intro c' hc'
     refine IH (i + 1,a' + m,[getV w a' b],c') _ (by simp only; omega) ⟨by simp only; omega,h3,by simp at hM ⊢; omega,by simp only; omega,by simpa using hc',hpb', ?_⟩ (Wk.shift 1 ?_ (Nat.le_refl _) ?_ ?_ hc ?_ (clean_ren hc 1))
     ·rw [hpv,e2]; rfl
     ·simp [lsT,arr,Uc,Blk.ren,S.ren]
     ·simp (maxSteps:=9999999) only [EV0,zx,zw,zv,zu,zq,zp,zj,zk,zg,leT,zZ,rvC,zY,zX,zW,zV,↓zU,↓zQ,reduceCtorEq,yz,yy,yY,yx,yw,yv,yu,yq,yp,yX,yj,yk,yg,yW,yV,yU,yZ,yQ,xz,slT,V.ren,S.ren,R.shift,Nat.add_comm]
     ·simp (maxSteps:=9999999) only [EV0,zx,zw,zv,zu,zq,zp,zj,zk,zg,leT,zZ,rvC,zY,zX,zW,zV,↓zU,↓zQ,reduceCtorEq,yz,yy,yY,yx,yw,yv,yu,yq,yp,yX,yj,yk,yg,yW,yV,yU,yZ,yQ,xz,slT,lsT,hkl]
     ·simp (maxSteps:=9999999) only [EV0,zx,zw,zv,zu,zq,zp,zj,zk,zg,leT,zZ,rvC,zY,zX,zW,zV,↓zU,↓zQ,reduceCtorEq,yz,yy,yY,yx,yw,yv,yu,yq,yp,yX,yj,yk,yg,yW,yV,yU,yZ,yQ,xz,lsT,arr,Uc,hkl,hst]
    | cons y M =>
     have hl:=arr_length Uc_len (y :: M)
     have hk1 : known (arr Uc (y :: M)) = true:=uc_all _ (fun _ => rfl) _
     have hk2 : ∀ k,((arr Uc (y :: M)).all fun s => !S.names k s) = true:=fun k => uc_all _ (fun _ => rfl) _
     have hMl : M.length + 1 = i:=by simpa using hM
     have hroom : M.length + 1 ≤ 64:=by omega
     simp only [slT,lsT]
     refine run_sound (Tab.ok_Γ _) 200 _ _ _ _ ?_
     simp (maxSteps:=9999999) only [EV0,zx,zw,zv,zu,zq,zp,zj,zk,zg,leT,zZ,rvC,zY,zX,zW,zV,↓zU,↓zQ,reduceCtorEq,yz,yy,yY,yx,yw,yv,yu,yq,yp,yX,yj,yk,yg,yW,yV,yU,yZ,yQ,xz,I,E,hk,hst,W2,getG,hwu,hf,hwr,hl,hk1,hk2]
     refine ⟨by omega,fun c' hc' => ?_⟩
     obtain ⟨M',hM'⟩ : ∃ M',M' = M ++ [getV w a' b]:=⟨_,rfl⟩
     have hM'l : M'.length = M.length + 1:=by rw [hM']; simp
     have hI : i + 1 ≤ n ∧ a' + m ≤ 64 ∧ (y :: M').length = i + 1 ∧ i + 1 ≤ a' + m ∧ (y :: M').length ≤ c' ∧ unpackB w F 0 = unpackB w (F.drop (i + 1)) ((a' + m : Nat) : Int) ∧ unpackV w F 0 = (y :: M') ++ unpackV w (F.drop (i + 1)) ((a' + m : Nat) : Int):=by
      refine ⟨by omega,h3,by simp only [List.length_cons]; omega,by omega,by simp only [List.length_cons]; omega,hpb', ?_⟩
      rw [hpv,hM',e2,Int.natCast_add,List.cons_append,List.cons_append,List.append_assoc]; rfl
     refine IH (i + 1,a' + m,y :: M',c') _ (by simp only; omega) hI ?_
     simp only [slT,lsT]
     have hc2 : arr Uc (y :: M) ++ [S.i .u64 (getV w a' b)] = arr Uc (y :: M'):=by rw [hM']; simp [arr_append,arr,Uc]
     have hk3 : (arr Uc (y :: M')).all (S.below 1) = true:=uc_all _ (fun _ => rfl) _
     refine Wk.keep 1 (by rw [hc2]; rfl) rfl ?_ ?_ ?_
     ·simp (maxSteps:=9999999) only [EV0,zx,zw,zv,zu,zq,zp,zj,zk,zg,leT,zZ,rvC,zY,zX,zW,zV,↓zU,↓zQ,reduceCtorEq,yz,yy,yY,yx,yw,yv,yu,yq,yp,yX,yj,yk,yg,yW,yV,yU,yZ,yQ,xz,hM'l]
      all_goals try simp
     ·simp (maxSteps:=9999999) only [EV0,zx,zw,zv,zu,zq,zp,zj,zk,zg,leT,zZ,rvC,zY,zX,zW,zV,↓zU,↓zQ,reduceCtorEq,yz,yy,yY,yx,yw,yv,yu,yq,yp,yX,yj,yk,yg,yW,yV,yU,yZ,yQ,xz]
     ·simp only [List.all_cons,List.all_nil,List.length_cons,List.length_nil,Bool.and_true]
      exact hk3
   | false =>
    cases M with
    | nil =>
     simp only [slT,lsT]
     refine run_sound (Tab.ok_Γ _) 200 _ _ _ _ ?_
     simp (maxSteps:=9999999) only [EV0,zx,zw,zv,zu,zq,zp,zj,zk,zg,leT,zZ,rvC,zY,zX,zW,zV,↓zU,↓zQ,reduceCtorEq,yz,yy,yY,yx,yw,yv,yu,yq,yp,yX,yj,yk,yg,yW,yV,yU,yZ,yQ,xz,I,E,hk,hst,W2,getG,hwu,hf]
     rw [hf,Bool.false_and] at hpb
     exact hS.2 hpb
    | cons y M =>
     simp only [slT,lsT]
     refine run_sound (Tab.ok_Γ _) 200 _ _ _ _ ?_
     simp (maxSteps:=9999999) only [EV0,zx,zw,zv,zu,zq,zp,zj,zk,zg,leT,zZ,rvC,zY,zX,zW,zV,↓zU,↓zQ,reduceCtorEq,yz,yy,yY,yx,yw,yv,yu,yq,yp,yX,yj,yk,yg,yW,yV,yU,yZ,yQ,xz,I,E,hk,hst,W2,getG,hwu,hf]
     rw [hf,Bool.false_and] at hpb
     exact hS.2 hpb
  ·have : i = n:=by omega
   subst this
   have hdn : F.drop i = []:=List.drop_eq_nil_of_le (by omega)
   rw [hdn] at hpb hpv
   simp only [unpackB,unpackV,List.append_nil] at hpb hpv
   have m2 : min a IntKind.u64.bits = a:=by show min a 64 = _; omega
   have a0 : (0 : Int) ≤ a:=by omega
   cases M with
   | nil =>
    simp only [slT,lsT]
    refine run_sound (Tab.ok_Γ _) 100 _ _ _ _ ?_
    simp (maxSteps:=9999999) only [EV0,zx,zw,zv,zu,zq,zp,zj,zk,zg,leT,zZ,rvC,zY,zX,zW,zV,↓zU,↓zQ,reduceCtorEq,yz,yy,yY,yx,yw,yv,yu,yq,yp,yX,yj,yk,yg,yW,yV,yU,yZ,yQ,xz,Int.lt_irrefl,m2,a0]
    rw [hpb,hpv,div_dec] at hS
    simp only [decide_eq_true_eq,decide_eq_false_iff_not] at hS
    exact ⟨hS.2,hS.1⟩
   | cons y M =>
    simp only [slT,lsT]
    refine run_sound (Tab.ok_Γ _) 100 _ _ _ _ ?_
    simp (maxSteps:=9999999) only [EV0,zx,zw,zv,zu,zq,zp,zj,zk,zg,leT,zZ,rvC,zY,zX,zW,zV,↓zU,↓zQ,reduceCtorEq,yz,yy,yY,yx,yw,yv,yu,yq,yp,yX,yj,yk,yg,yW,yV,yU,yZ,yQ,xz,Int.lt_irrefl,m2,a0]
    rw [hpb,hpv,div_dec] at hS
    simp only [decide_eq_true_eq,decide_eq_false_iff_not] at hS
    exact ⟨hS.2,fun e => words_leave (by simpa using hMc) (hS.1 e)⟩


theorem unpack_snd : Snd Try.prog 58 (FSpec.of unpackG):=snd_run W2_snd mixed Try.func58 dc58 100 fun args h K hc hS => by
 unfold unpackG at hS
 split at hS
 ·rename_i w h
  obtain ⟨hw,hS⟩:=hS
  obtain ⟨w,rfl,hw'⟩:=hw.nat
  simp only [spec_br,spec_ok,decide_eq_true_eq,decide_eq_false_iff_not] at hS
  simp (maxSteps:=9999999) only [EV0,zx,zw,zv,zu,zq,zp,zj,zk,zg,leT,zZ,rvC,zY,zX,zW,zV,↓zU,↓zQ,reduceCtorEq,yz,yy,yY,yx,yw,yv,yu,yq,yp,yX,yj,yk,yg,yW,yV,yU,yZ,yQ,xz,df58]
  refine loop_rule (α:=Unit) [] (fun _ => []) (fun _ => []) (fun _ => h) (fun _ => True) (fun _ => 0) () trivial .refl ?_
  rintro X _ _ _
  refine run_sound (Tab.ok_Γ _) 100 _ _ _ _ ?_
  simp (maxSteps:=9999999) only [EV0,zx,zw,zv,zu,zq,zp,zj,zk,zg,leT,zZ,rvC,zY,zX,zW,zV,↓zU,↓zQ,reduceCtorEq,yz,yy,yY,yx,yw,yv,yu,yq,yp,yX,yj,yk,yg,yW,yV,yU,yZ,yQ,xz,Int.lt_irrefl]
  have m2 : min 0 IntKind.u64.bits = 0:=rfl
  simp only [m2,Int.reducePow,Int.ediv_one]
  exact ⟨hS.2,hS.1⟩
 ·rename_i w k n c h
  split at hS
  ·rename_i B hk
   obtain ⟨⟨hw,hst,hB,hn,hn64⟩,hS⟩:=hS
   obtain ⟨w,rfl,hw'⟩:=hw.nat
   exact unpack_loop hw' hk hst hB hn hn64 hc hS
  ·exact hS.elim
 ·exact hS.elim


theorem up_B (w : Nat) : unpackB (w : Int) [4,16,5,3,4,6,5] 0 = decide ((w : Int) / 8796093022208 = 0):=by
 simp only [unpackB,fieldB,Int.reduceAdd,Int.reduceSub,reduceLE,reduceToNat,reducePow,true_and,and_true,decide_true,Bool.true_and,Int.toNat_natCast]
 rw [Bool.eq_iff_iff]
 simp only [decide_eq_true_eq,and_self,true_and]
 omega
theorem up_V (w : Nat) : unpackV (w : Int) [4,16,5,3,4,6,5] 0 = [(w : Int) % 16,(w : Int) / 16 % 65536,(w : Int) / 1048576 % 32,(w : Int) / 33554432 % 8,(w : Int) / 268435456 % 16,(w : Int) / 4294967296 % 64,(w : Int) / 274877906944 % 32]:=by
 simp only [unpackV,getV,Int.reduceAdd,reduceToNat,reducePow,Int.toNat_natCast,Int.natCast_ediv,Int.natCast_emod,Nat.div_one]
 rfl

theorem nlt (n k : Nat) : (n + k < n) = False:=by simp
def decC (w0 w1 : Int) : Cap:=⟨w0 % 16,w0 / 16 % 65536,w0 / 1048576 % 32,if w0 % 16 = 2 ∨ w0 % 16 = 4 ∨ w0 % 16 = 5 ∨ w0 % 16 = 6 ∨ w0 % 16 = 8 then 0 else w1,
 if w0 % 16 = 2 then w1 else 0,w0 / 274877906944 % 32,if w0 % 16 = 4 ∨ w0 % 16 = 5 then w1 else 0,w0 / 33554432 % 8,w0 / 4294967296 % 64,if w0 % 16 = 6 ∨ w0 % 16 = 8 then w1 else 0,w0 / 268435456 % 16⟩
def decB (w0 w1 : Int) : Bool:=decide (w0 / 8796093022208 = 0) && (decide (w1 < 4294967296) && rightB (decC w0 w1))
def capZ : Cap:=⟨0,0,0,0,0,0,0,0,0,0,0⟩
def decG : List V → List Blk → Res
 | [.s (.i .u64 w0), .s (.i .u64 w1)],h => .ob (u64 w0 ∧ u64 w1) (.br (decB w0 w1) (.ok (.tup [.agg (decC w0 w1).cl, .s (.i .i64 0)]) [] h) (.ok (.tup [.agg capZ.cl, .s (.i .i64 60)]) [] h))
 | _,_ => .bad

def TD : Tab:=addT 58 unpackG (addT 81 rightG noT)
theorem TD_snd : TD.Snd Try.prog:=addT_snd ok58 unpack_snd (addT_snd ok81 right_snd (noT_snd _))
theorem dec_snd : Snd Try.prog 57 (FSpec.of decG):=snd_run TD_snd mixed Try.func57 dc57 300 fun args h K hc hS => by
 unfold decG at hS
 split at hS
 ·rename_i w0 w1
  obtain ⟨⟨hw0,hw1⟩,hS⟩:=hS
  obtain ⟨w0,rfl,hw0'⟩:=hw0.nat
  simp only [spec_br,spec_ok] at hS
  have eB:=up_B w0
  have eV:=up_V w0
  by_cases hA : (w0 : Int) / 8796093022208 = 0
  ·by_cases hB : w1 < 4294967296
   ·have hB' : ¬ 4294967296 ≤ w1:=by omega
    have i0 : IntKind.i64.wrap ((w0 : Int) % 16) = (w0 : Int) % 16:=wrap64 (by omega) (by omega)
    have i1 : IntKind.i64.wrap ((w0 : Int) / 16 % 65536) = (w0 : Int) / 16 % 65536:=wrap64 (by omega) (by omega)
    have i2 : IntKind.i64.wrap ((w0 : Int) / 1048576 % 32) = (w0 : Int) / 1048576 % 32:=wrap64 (by omega) (by omega)
    have i3 : IntKind.i64.wrap ((w0 : Int) / 33554432 % 8) = (w0 : Int) / 33554432 % 8:=wrap64 (by omega) (by omega)
    have i4 : IntKind.i64.wrap ((w0 : Int) / 268435456 % 16) = (w0 : Int) / 268435456 % 16:=wrap64 (by omega) (by omega)
    have i5 : IntKind.i64.wrap ((w0 : Int) / 4294967296 % 64) = (w0 : Int) / 4294967296 % 64:=wrap64 (by omega) (by omega)
    have i6 : IntKind.i64.wrap ((w0 : Int) / 274877906944 % 32) = (w0 : Int) / 274877906944 % 32:=wrap64 (by omega) (by omega)
    have i7 : IntKind.i64.wrap w1 = w1:=wrap64 (by have:=hw1.1; omega) (by omega)
    simp only [decB,hA,hB,decide_true,Bool.true_and,decC] at hS
    have kk : (w0 : Int) % 16 = 2 ∨ (w0 : Int) % 16 = 4 ∨ (w0 : Int) % 16 = 5 ∨ (w0 : Int) % 16 = 6 ∨ (w0 : Int) % 16 = 8 ∨ (¬ (w0 : Int) % 16 = 2 ∧ ¬ (w0 : Int) % 16 = 4 ∧ ¬ (w0 : Int) % 16 = 5 ∧ ¬ (w0 : Int) % 16 = 6 ∧ ¬ (w0 : Int) % 16 = 8):=by omega
    generalize (w0 : Int) % 16 = t at *
    generalize (w0 : Int) / 16 % 65536 = f1 at *
    generalize (w0 : Int) / 1048576 % 32 = f2 at *
    generalize (w0 : Int) / 33554432 % 8 = f3 at *
    generalize (w0 : Int) / 268435456 % 16 = f4 at *
    generalize (w0 : Int) / 4294967296 % 64 = f5 at *
    generalize (w0 : Int) / 274877906944 % 32 = f6 at *
    rcases kk with ht | ht | ht | ht | ht | ⟨k2,k4,k5,k6,k8⟩
    case inr.inr.inr.inr.inr =>
     simp only [k2,k4,k5,k6,k8,or_self,if_false] at hS
     simp (maxSteps:=9999999) only [EV0,zx,zw,zv,zu,zq,zp,zj,zk,zg,leT,zZ,rvC,zY,zX,zW,zV,↓zU,↓zQ,reduceCtorEq,yz,yy,yY,yx,yw,yv,yu,yq,yp,yX,yj,yk,yg,yW,yV,yU,yZ,yQ,xz,df57,TD,unpackG,wordsR,pairV,rightG,capF,R.lend,R.unlend,S_ren,C.ren,V.ren,Blk.ren,take_app,drop_app,Nat.not_lt_zero,Nat.lt_irrefl,Nat.add_sub_cancel_left,Nat.not_lt,Nat.le_add_right,decI,arr,Ic,Uc,List.take,eB,eV,hw0,hA,hB',i0,i1,i2,i3,i4,i5,i6,i7,put,fillP,nlt,k2,k4,k5,k6,k8]
     exact fun c _ => ⟨hc,fun n => hS.2 (by simpa using n),hS.1⟩
    all_goals
     subst ht
     simp only [reduceEq,or_self,or_true,true_or,or_false,false_or,if_true,if_false] at hS
     simp (maxSteps:=9999999) only [EV0,zx,zw,zv,zu,zq,zp,zj,zk,zg,leT,zZ,rvC,zY,zX,zW,zV,↓zU,↓zQ,reduceCtorEq,yz,yy,yY,yx,yw,yv,yu,yq,yp,yX,yj,yk,yg,yW,yV,yU,yZ,yQ,xz,df57,TD,unpackG,wordsR,pairV,rightG,capF,R.lend,R.unlend,S_ren,C.ren,V.ren,Blk.ren,take_app,drop_app,Nat.not_lt_zero,Nat.lt_irrefl,Nat.add_sub_cancel_left,Nat.not_lt,Nat.le_add_right,decI,arr,Ic,Uc,List.take,eB,eV,hw0,hA,hB',i0,i1,i2,i3,i4,i5,i6,i7,put,fillP,nlt]
     exact fun c _ => ⟨hc,fun n => hS.2 (by simpa using n),hS.1⟩
   ·have hB' : 4294967296 ≤ w1:=by omega
    simp only [decB,hB,decide_false,Bool.false_and,Bool.and_false] at hS
    simp (maxSteps:=9999999) only [EV0,zx,zw,zv,zu,zq,zp,zj,zk,zg,leT,zZ,rvC,zY,zX,zW,zV,↓zU,↓zQ,reduceCtorEq,yz,yy,yY,yx,yw,yv,yu,yq,yp,yX,yj,yk,yg,yW,yV,yU,yZ,yQ,xz,df57,TD,unpackG,wordsR,pairV,rightG,capF,R.lend,R.unlend,S_ren,C.ren,V.ren,Blk.ren,take_app,drop_app,Nat.not_lt_zero,Nat.lt_irrefl,Nat.add_sub_cancel_left,Nat.not_lt,Nat.le_add_right,decI,arr,Ic,Uc,List.take,eB,eV,hw0,hA,hB',put,fillP,nlt]
    exact fun c _ => ⟨hc,hS.2 trivial⟩
  ·simp only [decB,hA,decide_false,Bool.false_and] at hS
   simp (maxSteps:=9999999) only [EV0,zx,zw,zv,zu,zq,zp,zj,zk,zg,leT,zZ,rvC,zY,zX,zW,zV,↓zU,↓zQ,reduceCtorEq,yz,yy,yY,yx,yw,yv,yu,yq,yp,yX,yj,yk,yg,yW,yV,yU,yZ,yQ,xz,df57,TD,unpackG,wordsR,rightG,capF,R.lend,R.unlend,S_ren,C.ren,V.ren,Blk.ren,take_app,drop_app,Nat.not_lt_zero,Nat.lt_irrefl,Nat.add_sub_cancel_left,Nat.not_lt,Nat.le_add_right,decI,arr,Ic,Uc,List.take,eB,eV,hw0,hA,put,fillP,nlt]
   exact ⟨hc,hS.2 trivial⟩
 ·exact hS.elim

theorem mark_zero {c : Cap} (h : rightB c = true) (h1 : ¬ c.ty = 1) (h2 : ¬ c.ty = 10) : c.mark = 0:=by
 obtain ⟨t,o,b,d,e,g,i,j,k,l,m⟩:=c
 simp only [rightB] at h h1 h2 ⊢
 rcases kinds t with rfl | rfl | rfl | rfl | rfl | rfl | rfl | rfl | rfl | rfl | rfl | rfl | rfl | rfl | ⟨k0,k1,k2,k3,k4,k5,k6,k7,k8,k9,k10,k11,k12,k13,ho⟩
 all_goals try simp only [k0,k1,k2,k3,k4,k5,k6,k7,k8,k9,k10,k11,k12,k13,if_false] at h
 all_goals try simp only [reduceEq,if_true,if_false,ite_t,ite_f,Bool.and_eq_true,inV_iff,mapV,Bool.or_eq_true,decide_eq_true_eq,beq_iff_eq,not_or,Classical.not_not,nOk_iff,and_true] at h
 case inr.inr.inr.inr.inr.inr.inr.inr.inr.inr.inr.inr.inr.inr => exact absurd h (by decide)
 case inr.inl => exact absurd rfl h1
 case inr.inr.inr.inr.inr.inr.inr.inr.inr.inr.inl => exact absurd rfl h2
 all_goals omega

theorem w0_back {w : Nat} : ((w : Int) % 16 + 16 * ((w : Int) / 16 % 65536) + 1048576 * ((w : Int) / 1048576 % 32) + 33554432 * ((w : Int) / 33554432 % 8) + 268435456 * ((w : Int) / 268435456 % 16) + 4294967296 * ((w : Int) / 4294967296 % 64) + 274877906944 * ((w : Int) / 274877906944 % 32) = w) ↔ (w : Int) / 8796093022208 = 0:=by
 omega

def TG : Tab:=addT 79 encG noT
theorem TG_snd : TG.Snd Try.prog:=addT_snd ok79 renc_snd (noT_snd _)
theorem rdec_snd : Snd Try.prog 77 (FSpec.of decG):=snd_run TG_snd mixed Try.func77 dc77 300 fun args h K hc hS => by
 unfold decG at hS
 split at hS
 ·rename_i w0 w1
  obtain ⟨⟨hw0,hw1⟩,hS⟩:=hS
  obtain ⟨w0,rfl,hw0'⟩:=hw0.nat
  simp only [spec_br,spec_ok] at hS
  by_cases hB : w1 < 4294967296
  ·have hB' : ¬ 4294967296 ≤ w1:=by omega
   have hb:=w0_back (w:=w0)
   have r0 : (w0 : Int).tmod 16 = (w0 : Int) % 16:=Int.tmod_eq_emod_of_nonneg (by omega)
   have r1 : ((w0 : Int) / 16).tmod 65536 = (w0 : Int) / 16 % 65536:=Int.tmod_eq_emod_of_nonneg (by omega)
   have r2 : ((w0 : Int) / 1048576).tmod 32 = (w0 : Int) / 1048576 % 32:=Int.tmod_eq_emod_of_nonneg (by omega)
   have r3 : ((w0 : Int) / 33554432).tmod 8 = (w0 : Int) / 33554432 % 8:=Int.tmod_eq_emod_of_nonneg (by omega)
   have r4 : ((w0 : Int) / 268435456).tmod 16 = (w0 : Int) / 268435456 % 16:=Int.tmod_eq_emod_of_nonneg (by omega)
   have r5 : ((w0 : Int) / 4294967296).tmod 64 = (w0 : Int) / 4294967296 % 64:=Int.tmod_eq_emod_of_nonneg (by omega)
   have r6 : ((w0 : Int) / 274877906944).tmod 32 = (w0 : Int) / 274877906944 % 32:=Int.tmod_eq_emod_of_nonneg (by omega)
   have i0 : IntKind.i64.wrap ((w0 : Int) % 16) = (w0 : Int) % 16:=wrap64 (by omega) (by omega)
   have i1 : IntKind.i64.wrap ((w0 : Int) / 16 % 65536) = (w0 : Int) / 16 % 65536:=wrap64 (by omega) (by omega)
   have i2 : IntKind.i64.wrap ((w0 : Int) / 1048576 % 32) = (w0 : Int) / 1048576 % 32:=wrap64 (by omega) (by omega)
   have i3 : IntKind.i64.wrap ((w0 : Int) / 33554432 % 8) = (w0 : Int) / 33554432 % 8:=wrap64 (by omega) (by omega)
   have i4 : IntKind.i64.wrap ((w0 : Int) / 268435456 % 16) = (w0 : Int) / 268435456 % 16:=wrap64 (by omega) (by omega)
   have i5 : IntKind.i64.wrap ((w0 : Int) / 4294967296 % 64) = (w0 : Int) / 4294967296 % 64:=wrap64 (by omega) (by omega)
   have i6 : IntKind.i64.wrap ((w0 : Int) / 274877906944 % 32) = (w0 : Int) / 274877906944 % 32:=wrap64 (by omega) (by omega)
   have i7 : IntKind.i64.wrap w1 = w1:=wrap64 (by have:=hw1.1; omega) (by omega)
   have m4 : min 4 IntKind.u64.bits = 4:=rfl
   have m20 : min 20 IntKind.u64.bits = 20:=rfl
   have m25 : min 25 IntKind.u64.bits = 25:=rfl
   have m28 : min 28 IntKind.u64.bits = 28:=rfl
   have m32 : min 32 IntKind.u64.bits = 32:=rfl
   have m38 : min 38 IntKind.u64.bits = 38:=rfl
   simp only [decB,hB,decide_true,Bool.true_and,decC,Bool.and_eq_true,Bool.and_eq_false_iff,decide_eq_true_eq,decide_eq_false_iff_not] at hS
   rw [← hb] at hS
   have kk : (w0 : Int) % 16 = 1 ∨ (w0 : Int) % 16 = 10 ∨ (w0 : Int) % 16 = 2 ∨ (w0 : Int) % 16 = 4 ∨ (w0 : Int) % 16 = 5 ∨ (w0 : Int) % 16 = 6 ∨ (w0 : Int) % 16 = 8 ∨ (¬ (w0 : Int) % 16 = 1 ∧ ¬ (w0 : Int) % 16 = 10 ∧ ¬ (w0 : Int) % 16 = 2 ∧ ¬ (w0 : Int) % 16 = 4 ∧ ¬ (w0 : Int) % 16 = 5 ∧ ¬ (w0 : Int) % 16 = 6 ∧ ¬ (w0 : Int) % 16 = 8):=by omega
   clear hb
   obtain ⟨q0,e0⟩ : ∃ q,q = (w0 : Int) % 16:=⟨_,rfl⟩
   obtain ⟨q1,e1⟩ : ∃ q,q = (w0 : Int) / 16 % 65536:=⟨_,rfl⟩
   obtain ⟨q2,e2⟩ : ∃ q,q = (w0 : Int) / 1048576 % 32:=⟨_,rfl⟩
   obtain ⟨q3,e3⟩ : ∃ q,q = (w0 : Int) / 33554432 % 8:=⟨_,rfl⟩
   obtain ⟨q4,e4⟩ : ∃ q,q = (w0 : Int) / 268435456 % 16:=⟨_,rfl⟩
   obtain ⟨q5,e5⟩ : ∃ q,q = (w0 : Int) / 4294967296 % 64:=⟨_,rfl⟩
   obtain ⟨q6,e6⟩ : ∃ q,q = (w0 : Int) / 274877906944 % 32:=⟨_,rfl⟩
   rw [← e0] at r0 i0 kk
   rw [← e1] at r1 i1
   rw [← e2] at r2 i2
   rw [← e3] at r3 i3
   rw [← e4] at r4 i4
   rw [← e5] at r5 i5
   rw [← e6] at r6 i6
   rw [← e0,← e1,← e2,← e3,← e4,← e5,← e6] at hS
   clear e0 e1 e2 e3 e4 e5 e6
   rcases kk with rfl | rfl | rfl | rfl | rfl | rfl | rfl | ⟨k1,k10,k2,k4,k5,k6,k8⟩
   case inl =>
    simp only [reduceEq,or_self,or_true,true_or,or_false,false_or,if_true,if_false] at hS
    cases hr : rightB ⟨1,q1,q2,w1,0,q6,0,q3,q5,0,q4⟩ with
    | true =>
     have hn : (⟨1,q1,q2,w1,0,q6,0,q3,q5,0,q4⟩ : Cap).num = w1:=by simp [Cap.num]
     simp (maxSteps:=9999999) only [EV0,zx,zw,zv,zu,zq,zp,zj,zk,zg,leT,zZ,rvC,zY,zX,zW,zV,↓zU,↓zQ,reduceCtorEq,yz,yy,yY,yx,yw,yv,yu,yq,yp,yX,yj,yk,yg,yW,yV,yU,yZ,yQ,xz,df77,TG,encG,capF,hB',r0,r1,r2,r3,r4,r5,r6,i0,i1,i2,i3,i4,i5,i6,i7,m4,m20,m25,m28,m32,m38,put,fillP,hr,hn]
     exact ⟨fun n => hS.2 (.inl n),fun n => hS.1 ⟨n,hr⟩⟩
    | false =>
     simp (maxSteps:=9999999) only [EV0,zx,zw,zv,zu,zq,zp,zj,zk,zg,leT,zZ,rvC,zY,zX,zW,zV,↓zU,↓zQ,reduceCtorEq,yz,yy,yY,yx,yw,yv,yu,yq,yp,yX,yj,yk,yg,yW,yV,yU,yZ,yQ,xz,df77,TG,encG,capF,hB',r0,r1,r2,r3,r4,r5,r6,i0,i1,i2,i3,i4,i5,i6,i7,m4,m20,m25,m28,m32,m38,put,fillP,hr]
     exact hS.2 (.inr hr)
   case inr.inl =>
    simp only [reduceEq,or_self,or_true,true_or,or_false,false_or,if_true,if_false] at hS
    cases hr : rightB ⟨10,q1,q2,w1,0,q6,0,q3,q5,0,q4⟩ with
    | true =>
     have hn : (⟨10,q1,q2,w1,0,q6,0,q3,q5,0,q4⟩ : Cap).num = w1:=by simp [Cap.num]
     simp (maxSteps:=9999999) only [EV0,zx,zw,zv,zu,zq,zp,zj,zk,zg,leT,zZ,rvC,zY,zX,zW,zV,↓zU,↓zQ,reduceCtorEq,yz,yy,yY,yx,yw,yv,yu,yq,yp,yX,yj,yk,yg,yW,yV,yU,yZ,yQ,xz,df77,TG,encG,capF,hB',r0,r1,r2,r3,r4,r5,r6,i0,i1,i2,i3,i4,i5,i6,i7,m4,m20,m25,m28,m32,m38,put,fillP,hr,hn]
     exact ⟨fun n => hS.2 (.inl n),fun n => hS.1 ⟨n,hr⟩⟩
    | false =>
     simp (maxSteps:=9999999) only [EV0,zx,zw,zv,zu,zq,zp,zj,zk,zg,leT,zZ,rvC,zY,zX,zW,zV,↓zU,↓zQ,reduceCtorEq,yz,yy,yY,yx,yw,yv,yu,yq,yp,yX,yj,yk,yg,yW,yV,yU,yZ,yQ,xz,df77,TG,encG,capF,hB',r0,r1,r2,r3,r4,r5,r6,i0,i1,i2,i3,i4,i5,i6,i7,m4,m20,m25,m28,m32,m38,put,fillP,hr]
     exact hS.2 (.inr hr)
   case inr.inr.inl =>
    simp only [reduceEq,or_self,or_true,true_or,or_false,false_or,if_true,if_false] at hS
    cases hr : rightB ⟨2,q1,q2,0,w1,q6,0,q3,q5,0,q4⟩ with
    | true =>
     have hn : (⟨2,q1,q2,0,w1,q6,0,q3,q5,0,q4⟩ : Cap).num = w1:=by simp [Cap.num]
     simp (maxSteps:=9999999) only [EV0,zx,zw,zv,zu,zq,zp,zj,zk,zg,leT,zZ,rvC,zY,zX,zW,zV,↓zU,↓zQ,reduceCtorEq,yz,yy,yY,yx,yw,yv,yu,yq,yp,yX,yj,yk,yg,yW,yV,yU,yZ,yQ,xz,df77,TG,encG,capF,hB',r0,r1,r2,r3,r4,r5,r6,i0,i1,i2,i3,i4,i5,i6,i7,m4,m20,m25,m28,m32,m38,put,fillP,hr,hn]
     exact ⟨fun n => hS.2 (.inl n),fun n => hS.1 ⟨n,hr⟩⟩
    | false =>
     simp (maxSteps:=9999999) only [EV0,zx,zw,zv,zu,zq,zp,zj,zk,zg,leT,zZ,rvC,zY,zX,zW,zV,↓zU,↓zQ,reduceCtorEq,yz,yy,yY,yx,yw,yv,yu,yq,yp,yX,yj,yk,yg,yW,yV,yU,yZ,yQ,xz,df77,TG,encG,capF,hB',r0,r1,r2,r3,r4,r5,r6,i0,i1,i2,i3,i4,i5,i6,i7,m4,m20,m25,m28,m32,m38,put,fillP,hr]
     exact hS.2 (.inr hr)
   case inr.inr.inr.inl =>
    simp only [reduceEq,or_self,or_true,true_or,or_false,false_or,if_true,if_false] at hS
    cases hr : rightB ⟨4,q1,q2,0,0,q6,w1,q3,q5,0,q4⟩ with
    | true =>
     have hn : (⟨4,q1,q2,0,0,q6,w1,q3,q5,0,q4⟩ : Cap).num = w1:=by simp [Cap.num]
     simp (maxSteps:=9999999) only [EV0,zx,zw,zv,zu,zq,zp,zj,zk,zg,leT,zZ,rvC,zY,zX,zW,zV,↓zU,↓zQ,reduceCtorEq,yz,yy,yY,yx,yw,yv,yu,yq,yp,yX,yj,yk,yg,yW,yV,yU,yZ,yQ,xz,df77,TG,encG,capF,hB',r0,r1,r2,r3,r4,r5,r6,i0,i1,i2,i3,i4,i5,i6,i7,m4,m20,m25,m28,m32,m38,put,fillP,hr,hn]
     exact ⟨fun n => hS.2 (.inl n),fun n => hS.1 ⟨n,hr⟩⟩
    | false =>
     simp (maxSteps:=9999999) only [EV0,zx,zw,zv,zu,zq,zp,zj,zk,zg,leT,zZ,rvC,zY,zX,zW,zV,↓zU,↓zQ,reduceCtorEq,yz,yy,yY,yx,yw,yv,yu,yq,yp,yX,yj,yk,yg,yW,yV,yU,yZ,yQ,xz,df77,TG,encG,capF,hB',r0,r1,r2,r3,r4,r5,r6,i0,i1,i2,i3,i4,i5,i6,i7,m4,m20,m25,m28,m32,m38,put,fillP,hr]
     exact hS.2 (.inr hr)
   case inr.inr.inr.inr.inl =>
    simp only [reduceEq,or_self,or_true,true_or,or_false,false_or,if_true,if_false] at hS
    cases hr : rightB ⟨5,q1,q2,0,0,q6,w1,q3,q5,0,q4⟩ with
    | true =>
     have hn : (⟨5,q1,q2,0,0,q6,w1,q3,q5,0,q4⟩ : Cap).num = w1:=by simp [Cap.num]
     simp (maxSteps:=9999999) only [EV0,zx,zw,zv,zu,zq,zp,zj,zk,zg,leT,zZ,rvC,zY,zX,zW,zV,↓zU,↓zQ,reduceCtorEq,yz,yy,yY,yx,yw,yv,yu,yq,yp,yX,yj,yk,yg,yW,yV,yU,yZ,yQ,xz,df77,TG,encG,capF,hB',r0,r1,r2,r3,r4,r5,r6,i0,i1,i2,i3,i4,i5,i6,i7,m4,m20,m25,m28,m32,m38,put,fillP,hr,hn]
     exact ⟨fun n => hS.2 (.inl n),fun n => hS.1 ⟨n,hr⟩⟩
    | false =>
     simp (maxSteps:=9999999) only [EV0,zx,zw,zv,zu,zq,zp,zj,zk,zg,leT,zZ,rvC,zY,zX,zW,zV,↓zU,↓zQ,reduceCtorEq,yz,yy,yY,yx,yw,yv,yu,yq,yp,yX,yj,yk,yg,yW,yV,yU,yZ,yQ,xz,df77,TG,encG,capF,hB',r0,r1,r2,r3,r4,r5,r6,i0,i1,i2,i3,i4,i5,i6,i7,m4,m20,m25,m28,m32,m38,put,fillP,hr]
     exact hS.2 (.inr hr)
   case inr.inr.inr.inr.inr.inl =>
    simp only [reduceEq,or_self,or_true,true_or,or_false,false_or,if_true,if_false] at hS
    cases hr : rightB ⟨6,q1,q2,0,0,q6,0,q3,q5,w1,q4⟩ with
    | true =>
     have hn : (⟨6,q1,q2,0,0,q6,0,q3,q5,w1,q4⟩ : Cap).num = w1:=by simp [Cap.num]
     simp (maxSteps:=9999999) only [EV0,zx,zw,zv,zu,zq,zp,zj,zk,zg,leT,zZ,rvC,zY,zX,zW,zV,↓zU,↓zQ,reduceCtorEq,yz,yy,yY,yx,yw,yv,yu,yq,yp,yX,yj,yk,yg,yW,yV,yU,yZ,yQ,xz,df77,TG,encG,capF,hB',r0,r1,r2,r3,r4,r5,r6,i0,i1,i2,i3,i4,i5,i6,i7,m4,m20,m25,m28,m32,m38,put,fillP,hr,hn]
     exact ⟨fun n => hS.2 (.inl n),fun n => hS.1 ⟨n,hr⟩⟩
    | false =>
     simp (maxSteps:=9999999) only [EV0,zx,zw,zv,zu,zq,zp,zj,zk,zg,leT,zZ,rvC,zY,zX,zW,zV,↓zU,↓zQ,reduceCtorEq,yz,yy,yY,yx,yw,yv,yu,yq,yp,yX,yj,yk,yg,yW,yV,yU,yZ,yQ,xz,df77,TG,encG,capF,hB',r0,r1,r2,r3,r4,r5,r6,i0,i1,i2,i3,i4,i5,i6,i7,m4,m20,m25,m28,m32,m38,put,fillP,hr]
     exact hS.2 (.inr hr)
   case inr.inr.inr.inr.inr.inr.inl =>
    simp only [reduceEq,or_self,or_true,true_or,or_false,false_or,if_true,if_false] at hS
    cases hr : rightB ⟨8,q1,q2,0,0,q6,0,q3,q5,w1,q4⟩ with
    | true =>
     have hn : (⟨8,q1,q2,0,0,q6,0,q3,q5,w1,q4⟩ : Cap).num = w1:=by simp [Cap.num]
     simp (maxSteps:=9999999) only [EV0,zx,zw,zv,zu,zq,zp,zj,zk,zg,leT,zZ,rvC,zY,zX,zW,zV,↓zU,↓zQ,reduceCtorEq,yz,yy,yY,yx,yw,yv,yu,yq,yp,yX,yj,yk,yg,yW,yV,yU,yZ,yQ,xz,df77,TG,encG,capF,hB',r0,r1,r2,r3,r4,r5,r6,i0,i1,i2,i3,i4,i5,i6,i7,m4,m20,m25,m28,m32,m38,put,fillP,hr,hn]
     exact ⟨fun n => hS.2 (.inl n),fun n => hS.1 ⟨n,hr⟩⟩
    | false =>
     simp (maxSteps:=9999999) only [EV0,zx,zw,zv,zu,zq,zp,zj,zk,zg,leT,zZ,rvC,zY,zX,zW,zV,↓zU,↓zQ,reduceCtorEq,yz,yy,yY,yx,yw,yv,yu,yq,yp,yX,yj,yk,yg,yW,yV,yU,yZ,yQ,xz,df77,TG,encG,capF,hB',r0,r1,r2,r3,r4,r5,r6,i0,i1,i2,i3,i4,i5,i6,i7,m4,m20,m25,m28,m32,m38,put,fillP,hr]
     exact hS.2 (.inr hr)
   case inr.inr.inr.inr.inr.inr.inr =>
    simp only [k2,k4,k5,k6,k8,or_self,if_false] at hS
    have hz : ¬ w1 = 0 → rightB ⟨q0,q1,q2,w1,0,q6,0,q3,q5,0,q4⟩ = false:=fun n => Bool.eq_false_iff.2 fun x => n (mark_zero x k1 k10)
    cases hr : rightB ⟨q0,q1,q2,0,0,q6,0,q3,q5,0,q4⟩ with
    | true =>
     have hn : (⟨q0,q1,q2,0,0,q6,0,q3,q5,0,q4⟩ : Cap).num = 0:=by simp [Cap.num]
     simp (maxSteps:=9999999) only [EV0,zx,zw,zv,zu,zq,zp,zj,zk,zg,leT,zZ,rvC,zY,zX,zW,zV,↓zU,↓zQ,reduceCtorEq,yz,yy,yY,yx,yw,yv,yu,yq,yp,yX,yj,yk,yg,yW,yV,yU,yZ,yQ,xz,df77,TG,encG,capF,hB',r0,r1,r2,r3,r4,r5,r6,i0,i1,i2,i3,i4,i5,i6,i7,m4,m20,m25,m28,m32,m38,put,fillP,hr,hn,k1,k10,k2,k4,k5,k6,k8]
     refine ⟨fun n => n.elim (fun x => hS.2 (.inl x)) (fun x => hS.2 (.inr (hz (fun e => x e.symm)))),fun n => ?_⟩
     have hw : 0 = w1:=Classical.byContradiction fun x => n (.inr x)
     subst hw
     exact hS.1 ⟨Classical.byContradiction fun x => n (.inl x),hr⟩
    | false =>
     simp (maxSteps:=9999999) only [EV0,zx,zw,zv,zu,zq,zp,zj,zk,zg,leT,zZ,rvC,zY,zX,zW,zV,↓zU,↓zQ,reduceCtorEq,yz,yy,yY,yx,yw,yv,yu,yq,yp,yX,yj,yk,yg,yW,yV,yU,yZ,yQ,xz,df77,TG,encG,capF,hB',r0,r1,r2,r3,r4,r5,r6,i0,i1,i2,i3,i4,i5,i6,i7,m4,m20,m25,m28,m32,m38,put,fillP,hr,k1,k10,k2,k4,k5,k6,k8]
     by_cases hw : w1 = 0
     ·subst hw; exact hS.2 (.inr hr)
     ·exact hS.2 (.inr (hz hw))
  ·have hB' : 4294967296 ≤ w1:=by omega
   simp only [decB,hB,decide_false,Bool.false_and,Bool.and_false] at hS
   simp (maxSteps:=9999999) only [EV0,zx,zw,zv,zu,zq,zp,zj,zk,zg,leT,zZ,rvC,zY,zX,zW,zV,↓zU,↓zQ,reduceCtorEq,yz,yy,yY,yx,yw,yv,yu,yq,yp,yX,yj,yk,yg,yW,yV,yU,yZ,yQ,xz,df77,TG,encG,capF,hB',put,fillP]
   exact hS.2 trivial
 ·exact hS.elim
end Go.Proofs.Ytcdfofeolgbnbaa

/- Caps: Words,Same. -/
namespace Go.Proofs.Ytcdfofeolgbnbaa
open Go.D
set_option linter.all false
set_option maxRecDepth 100000
set_option maxHeartbeats 4000000





theorem dec_back {w0 w1 : Int} (h0 : u64 w0) (h : decB w0 w1 = true) : rightB (decC w0 w1) = true ∧ (decC w0 w1).w0 = w0 ∧ (decC w0 w1).num = w1:=by
 obtain ⟨w,rfl,hw⟩:=h0.nat
 simp only [decB,Bool.and_eq_true,decide_eq_true_eq] at h
 refine ⟨h.2.2,w0_back.2 h.1, ?_⟩
 simp only [decC,Cap.num]
 split <;> split <;> split <;> split <;> omega

theorem cap_eta (c : Cap) : (⟨c.ty,c.obj,c.bits,c.mark,c.guard,c.gbits,c.badge,c.rights,c.asid,c.vaddr,c.line⟩ : Cap) = c:=rfl

theorem Cap.ext' {c d : Cap} (h1 : c.ty = d.ty) (h2 : c.obj = d.obj) (h3 : c.bits = d.bits) (h4 : c.mark = d.mark) (h5 : c.guard = d.guard) (h6 : c.gbits = d.gbits) (h7 : c.badge = d.badge) (h8 : c.rights = d.rights) (h9 : c.asid = d.asid) (ha : c.vaddr = d.vaddr) (hb : c.line = d.line) : c = d:=by
 cases c; cases d; simp_all
theorem enc_back {c : Cap} (h : rightB c = true) : u64 c.w0 ∧ u64 c.num ∧ decB c.w0 c.num = true ∧ decC c.w0 c.num = c:=by
 obtain ⟨h1,h2,h3,h4,h5,h6,h7,h8,h9,h10,h11,one⟩:=right_bounds h
 have t0 : c.w0 % 16 = c.ty:=by simp only [Cap.w0]; omega
 have e : decC c.w0 c.num = c:=by
  apply Cap.ext'
  ·exact t0
  ·simp only [decC,Cap.w0]; omega
  ·simp only [decC,Cap.w0]; omega
  ·simp only [decC,t0,Cap.num]
   split at one
   ·simp [*]
   ·split at one
    ·rename_i x; rcases x with x | x <;> simp [x,one]
    ·split at one
     ·rename_i x; rcases x with x | x <;> simp [x,one]
     ·rename_i x y z; rw [if_neg (by omega)]; omega
  ·simp only [decC,t0,Cap.num]
   split at one
   ·rename_i x; rw [if_pos x]; omega
   ·rename_i x; rw [if_neg x]
    split at one
    ·omega
    ·split at one <;> omega
  ·simp only [decC,Cap.w0]; omega
  ·simp only [decC,t0,Cap.num]
   split at one
   ·rename_i x; rw [if_neg (by omega)]; omega
   ·split at one
    ·rename_i x; rw [if_pos x]; omega
    ·rename_i x; rw [if_neg x]; split at one <;> omega
  ·simp only [decC,Cap.w0]; omega
  ·simp only [decC,Cap.w0]; omega
  ·simp only [decC,t0,Cap.num]
   split at one
   ·rw [if_neg (by omega)]; omega
   ·split at one
    ·rw [if_neg (by omega)]; omega
    ·split at one
     ·rename_i x; rw [if_pos x]; omega
     ·rename_i x; rw [if_neg x]; omega
  ·simp only [decC,Cap.w0]; omega
 refine ⟨by simp only [u64,Cap.w0]; omega,by simp only [u64,Cap.num]; omega, ?_,e⟩
 simp only [decB,e,h,Bool.and_true,Bool.and_eq_true,decide_eq_true_eq]
 constructor
 ·simp only [Cap.w0]; omega
 ·simp only [Cap.num]; omega

def uw (x : Int) : Int:=x % 18446744073709551616
theorem uw_u (x : Int) : u64 (uw x):=by simp only [u64,uw]; omega
theorem uw_of {x : Int} (h : u64 x) : uw x = x:=by simp only [u64,uw] at *; omega
theorem u64_0 : u64 0:=by simp only [u64]; omega

structure M where
 w : List Int
 n : Int
 u : ∀ x,x ∈ w → u64 x
 l : w.length ≤ 65536
theorem M.ext' {m k : M} (h1 : m.w = k.w) (h2 : m.n = k.n) : m = k:=by
 cases m; cases k; simp only at h1 h2; subst h1; subst h2; rfl

def wc (w : List Int) : List S:=w.map (S.i .u64)
theorem wc_len (w : List Int) : (wc w).length = w.length:=by simp [wc]
theorem wc_get {w : List Int} {i : Nat} (h : i < w.length) : (wc w)[i]? = some (.i .u64 (nth 0 w i)):=by
 simp only [wc,List.getElem?_map,nth_get (d:=0) h,Option.map_some]
theorem wc_set (w : List Int) (i : Nat) (x : Int) : (wc w).set i (.i .u64 x) = wc (w.set i x):=by simp [wc,List.map_set]
theorem wc_all {p : S → Bool} (hp : ∀ x,p (.i .u64 x) = true) (w : List Int) : (wc w).all p = true:=by simp [wc,hp]
theorem wc_known (w : List Int) : known (wc w) = true:=by unfold known; exact wc_all (fun _ => rfl) w
theorem wc_vals (n k : Nat) (w : List Int) : vals n k (wc w) = true:=by unfold vals; exact wc_all (fun _ => rfl) w
theorem wc_takes (r : R) (n k : Nat) (w : List Int) : (wc w).all (r.takes n k) = true:=wc_all (fun _ => by cases r <;> rfl) w
theorem wc_names (k : Nat) (w : List Int) : (wc w).all (fun s => !s.names k) = true:=wc_all (fun _ => rfl) w
theorem wc_kept (k : List Nat) (w : List Int) : (wc w).all (S.kept k) = true:=wc_all (fun _ => rfl) w
theorem wc_sub (w : List Int) (a k : Nat) : sub (wc w) a k = wc ((w.drop a).take k):=by simp [wc,sub,List.map_take,List.map_drop]
theorem wc_snoc (v : List Int) (a : Int) : wc (v ++ [a]) = wc v ++ [.i .u64 a]:=by simp [wc]
theorem wc_nil : wc [] = []:=rfl
theorem wc_cons (x : Int) (w : List Int) : wc (x :: w) = .i .u64 x :: wc w:=rfl
theorem wc_inj {v w : List Int} (h : wc v = wc w) : v = w:=by
 induction v generalizing w with
 | nil => cases w with
  | nil => rfl
  | cons y w => simp [wc] at h
 | cons x v ih => cases w with
  | nil => simp [wc] at h
  | cons y w =>
   simp only [wc,List.map_cons,List.cons.injEq,S.i.injEq,true_and] at h
   rw [h.1,ih h.2]
theorem wc_ren (ρ : R → R) (w : List Int) : (wc w).map (S.ren ρ) = wc w:=by simp [wc,Function.comp_def,S.ren]
theorem wc_zeros (n : Nat) : zeros [.i .u64 0] n = wc (List.replicate n 0):=by
 induction n with
 | zero => rfl
 | succ n ih => simp only [zeros,ih,List.replicate_succ,wc_cons,List.cons_append,List.nil_append]
theorem wc_map (w : List Int) : w.map (S.i .u64) = wc w:=rfl

def M.at (m : M) (i : Int) : Int:=nth 0 m.w i.toNat
theorem nth_mem {α : Type} {d : α} {l : List α} {i : Nat} (h : i < l.length) : nth d l i ∈ l:=by rw [nth_eq h]; exact List.getElem_mem h
theorem nth_out {α : Type} {d : α} : ∀ {l : List α} {i : Nat},l.length ≤ i → nth d l i = d
 | [],_,_ => rfl
 | _ :: _,0,h => by simp at h
 | _ :: l,i + 1,h => nth_out (l:=l) (by simpa using h)
theorem M.at_u (m : M) (i : Int) : u64 (m.at i):=by
 unfold M.at
 rcases Nat.lt_or_ge i.toNat m.w.length with h | h
 ·exact m.u _ (nth_mem h)
 ·rw [nth_out h]; exact u64_0

def M.put (m : M) (i : Nat) (x : Int) : M:=⟨m.w.set i (uw x),m.n,fun y hy => by
 rcases List.mem_or_eq_of_mem_set hy with h | h
 ·exact m.u y h
 ·subst h; exact uw_u x,by simpa using m.l⟩
def M.tick (m : M) (k : Int) : M:=⟨m.w,IntKind.i64.wrap (m.n + k),m.u,m.l⟩
def M.fill (m : M) (a : Nat) (x : Int) : Nat → M
 | 0 => m
 | k + 1 => (M.fill m a x k).put (a + k) x
def M.lay (m : M) (o : Nat) : List Int → M
 | [] => m
 | v :: vs => M.lay (m.put o v) (o + 1) vs
def M.has (m : M) (a k : Int) : Bool:=decide (0 ≤ a ∧ 0 ≤ k ∧ a ≤ m.w.length ∧ k ≤ m.w.length - a)
theorem M.has_iff {m : M} {a k : Int} : m.has a k = true ↔ 0 ≤ a ∧ 0 ≤ k ∧ a ≤ m.w.length ∧ k ≤ m.w.length - a:=by simp [M.has]
theorem M.has_nat {m : M} {a k : Int} (h : m.has a k = true) : ∃ i j : Nat,a = i ∧ k = j ∧ i + j ≤ m.w.length:=by
 rw [M.has_iff] at h
 exact ⟨a.toNat,k.toNat,by omega,by omega,by omega⟩
theorem M.has_not {m : M} {a k : Int} (h : m.has a k = false) : ¬ (0 ≤ a ∧ 0 ≤ k ∧ a ≤ m.w.length ∧ k ≤ m.w.length - a):=by simpa [M.has] using h

theorem M.put_len (m : M) (i : Nat) (x : Int) : (m.put i x).w.length = m.w.length:=by simp [M.put]
theorem M.tick_len (m : M) (k : Int) : (m.tick k).w.length = m.w.length:=rfl
theorem M.fill_len (m : M) (a : Nat) (x : Int) : ∀ k,(m.fill a x k).w.length = m.w.length
 | 0 => rfl
 | k + 1 => by rw [M.fill,M.put_len,M.fill_len m a x k]
theorem M.put_has (m : M) (i : Nat) (x a k : Int) : (m.put i x).has a k = m.has a k:=by simp only [M.has,M.put_len]
theorem M.tick_has (m : M) (j a k : Int) : (m.tick j).has a k = m.has a k:=rfl
theorem M.put_n (m : M) (i : Nat) (x : Int) : (m.put i x).n = m.n:=rfl
theorem M.fill_n (m : M) (a : Nat) (x : Int) : ∀ k,(m.fill a x k).n = m.n
 | 0 => rfl
 | k + 1 => by rw [M.fill,M.put_n,M.fill_n m a x k]
/-! ### among the blocks -/
def MB (b : Nat) (m : M) : Blk:=⟨.rw,[.sl (.g b) 0 m.w.length m.w.length, .i .i64 m.n],2⟩
def MW (m : M) : Blk:=⟨.rw,wc m.w,m.w.length⟩
structure IsMem (h : List Blk) (a b : Nat) (m : M) : Prop where
 ne : a ≠ b
 ha : h[a]? = some (MB b m)
 hb : h[b]? = some (MW m)
def setM (h : List Blk) (a b : Nat) (m : M) : List Blk:=(h.set a (MB b m)).set b (MW m)

theorem IsMem.lta {h : List Blk} {a b : Nat} {m : M} (H : IsMem h a b m) : a < h.length:=(List.getElem?_eq_some_iff.1 H.ha).1
theorem IsMem.ltb {h : List Blk} {a b : Nat} {m : M} (H : IsMem h a b m) : b < h.length:=(List.getElem?_eq_some_iff.1 H.hb).1
theorem setM_len {h : List Blk} {a b : Nat} {m : M} : (setM h a b m).length = h.length:=by simp [setM]
theorem IsMem.set {h : List Blk} {a b : Nat} {m : M} (H : IsMem h a b m) (m' : M) : IsMem (setM h a b m') a b m':=by
 refine ⟨H.ne, ?_, ?_⟩
 ·simp only [setM]
  rw [List.getElem?_set_ne (Ne.symm H.ne),List.getElem?_set_self H.lta]
 ·simp only [setM]
  rw [List.getElem?_set_self (by simpa using H.ltb)]
theorem setM_set {h : List Blk} {a b : Nat} {m m' : M} (ne : a ≠ b) : setM (setM h a b m) a b m' = setM h a b m':=by
 simp only [setM]
 rw [List.set_comm _ _ ne,List.set_set,List.set_comm _ _ ne,List.set_set,List.set_comm _ _ (Ne.symm ne)]
theorem setM_self {h : List Blk} {a b : Nat} {m : M} (H : IsMem h a b m) : setM h a b m = h:=by
 simp only [setM]
 rw [set_self H.ha,set_self H.hb]
theorem setM_fun {h : List Blk} {a b : Nat} {m m0 : M} (H : IsMem h a b m0) : setM (setM h a b m) a b = setM h a b:=funext fun m' => setM_set H.ne
theorem IsMem.app {h X : List Blk} {a b : Nat} {m : M} (H : IsMem h a b m) : IsMem (h ++ X) a b m :=
 ⟨H.ne,by rw [List.getElem?_append_left H.lta]; exact H.ha,by rw [List.getElem?_append_left H.ltb]; exact H.hb⟩
theorem setM_app {h X : List Blk} {a b : Nat} {m m' : M} (H : IsMem h a b m) : setM (h ++ X) a b m' = setM h a b m' ++ X:=by
 simp only [setM]
 rw [app_setl H.lta,app_setl (by simpa using H.ltb)]
theorem setM_steps {h : List Blk} {a b : Nat} {m m' : M} (H : IsMem h a b m) (hw : m'.w = m.w) : h.set a (MB b m') = setM h a b m':=by
 simp only [setM]
 rw [List.set_comm _ _ H.ne,show MW m' = MW m by simp only [MW,hw],set_self H.hb]
theorem IsMem.uniq {h : List Blk} {a b b' : Nat} {m m' : M} (H : IsMem h a b m) (H' : IsMem h a b' m') : b = b' ∧ m = m':=by
 have h1:=H.ha.symm.trans H'.ha
 simp only [MB,Option.some.injEq,Blk.mk.injEq,List.cons.injEq,S.sl.injEq,R.g.injEq,S.i.injEq,true_and,and_true] at h1
 obtain ⟨⟨e,_,_⟩,e2⟩:=h1
 subst e
 have h2:=H.hb.symm.trans H'.hb
 simp only [MW,Option.some.injEq,Blk.mk.injEq,true_and] at h2
 exact ⟨rfl,M.ext' (wc_inj h2.1) e2⟩
theorem setM_clean {h : List Blk} {a b : Nat} {m m0 : M} {n : Nat} (H : IsMem h a b m0) (hc : clean n h = true) (hn : b < n) : clean n (setM h a b m) = true:=by
 refine clean_set (clean_set hc ?_) (wc_vals _ _ _)
 simp [MB,vals,S.val,R.val,hn]

open Classical in
noncomputable def memOf (h : List Blk) (a : Nat) : Option (Nat × M):=if hx : ∃ x : Nat × M,IsMem h a x.1 x.2 then some (Classical.choose hx) else none
theorem memOf_eq {h : List Blk} {a b : Nat} {m : M} (H : IsMem h a b m) : memOf h a = some (b,m):=by
 have hx : ∃ x : Nat × M,IsMem h a x.1 x.2:=⟨(b,m),H⟩
 unfold memOf
 rw [dif_pos hx]
 have:=IsMem.uniq (Classical.choose_spec hx) H
 rw [show Classical.choose hx = (b,m) from Prod.ext this.1 this.2]
theorem memOf_some {h : List Blk} {a b : Nat} {m : M} (e : memOf h a = some (b,m)) : IsMem h a b m:=by
 unfold memOf at e
 split at e
 ·rename_i hx
  have:=Classical.choose_spec hx
  rw [Option.some.injEq] at e
  rw [e] at this
  exact this
 ·cases e

noncomputable def memF (f : Nat → M → (M → List Blk) → List V → Res) : List V → List Blk → Res
 | .s (.p (.g a) 0) :: rest,h => match memOf h a with
  | some (b,m) => f b m (setM h a b) rest
  | none => .bad
 | _,_ => .bad
theorem memF_spec {f : Nat → M → (M → List Blk) → List V → Res} {args : List V} {h : List Blk} {K : V → List Blk → Prop} (hS : (memF f args h).spec K) :
  ∃ a b m rest,args = .s (.p (.g a) 0) :: rest ∧ IsMem h a b m ∧ (f b m (setM h a b) rest).spec K:=by
 unfold memF at hS
 split at hS
 ·split at hS
  ·rename_i e
   exact ⟨_,_,_,_,rfl,memOf_some e,hS⟩
  ·exact hS.elim
 ·exact hS.elim
theorem memF_eq {f : Nat → M → (M → List Blk) → List V → Res} {h : List Blk} {a b : Nat} {m : M} {rest : List V} (H : IsMem h a b m) : memF f (.s (.p (.g a) 0) :: rest) h = f b m (setM h a b) rest:=by
 simp only [memF,memOf_eq H]
theorem memF_set {f : Nat → M → (M → List Blk) → List V → Res} {h : List Blk} {a b : Nat} {m m' : M} {rest : List V} (H : IsMem h a b m) : memF f (.s (.p (.g a) 0) :: rest) (setM h a b m') = f b m' (setM h a b) rest:=by
 rw [memF_eq (H.set m'),setM_fun H]
theorem memF_app {f : Nat → M → (M → List Blk) → List V → Res} {h X : List Blk} {a b : Nat} {m m' : M} {rest : List V} (H : IsMem h a b m) : memF f (.s (.p (.g a) 0) :: rest) (setM h a b m' ++ X) = f b m' (fun m => setM h a b m ++ X) rest:=by
 rw [memF_eq ((H.set m').app),show setM (setM h a b m' ++ X) a b = fun m => setM h a b m ++ X from funext fun k => by rw [setM_app (H.set m'),setM_set H.ne]]
/-! ### new memories -/
def memH (h : List Blk) (m : M) : List Blk:=h ++ [MB (h.length + 1) m,MW m]
theorem memH_len {h : List Blk} {m : M} : (memH h m).length = h.length + 2:=by simp [memH]
end Go.Proofs.Ytcdfofeolgbnbaa

