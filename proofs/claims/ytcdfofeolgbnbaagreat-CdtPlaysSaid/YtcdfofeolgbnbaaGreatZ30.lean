/- Links turned at a place's neighbours; Insert and Move,of the code and of the document,at slots that are in order. -/
import Derived.Test.YtcdfofeolgbnbaaGreatZ13
import Derived.Test.YtcdfofeolgbnbaaGreatZ29
import Derived.Test.YtcdfofeolgbnbaaGreatZ20
import Derived.Test.YtcdfofeolgbnbaaGreatZ24
/- Law 11: a handler's cap,lists of numbers; both memories. -/
namespace Go.Proofs.YtcdfofeolgbnbaaGreat
open Go.D
open Nat (reduceAdd reducePow reduceMul reduceSub reduceLeDiff reduceLT reduceEqDiff)
open Int (reduceNeg reduceLE reduceEq reduceNe reduceToNat)
open Go.D renaming istep → zy,pickR → zx,bin1R → zw,un1R → zv,eqS → zu,eq1 → zq,cmpS → zp,cmp1 → zj,isNil → zk,shows → zg,result → zZ,q_cond_t → zV,q_cond_f → zU
open List renaming set → zY,replicate → zX
open Option renaming map → zW
open Nat renaming reduceAdd → zQ,reducePow → yz,reduceMul → yy,reduceSub → yx,reduceLeDiff → yw,reduceLT → yv,reduceEqDiff → yu
open Int renaming reduceNeg → yq,reduceLE → yj,reduceEq → yk,reduceNe → yg,reduceToNat → yZ,reducePow → yY,reduceLT → yX,reduceAdd → yW,reduceSub → yV,reduceMul → yU,reduceBEq → yQ,reduceBNe → xz
set_option linter.all false
set_option maxRecDepth 100000
set_option maxHeartbeats 8000000

theorem eq_of_nthI {v w : List Int} (hl : v.length = w.length) (h : ∀ i,i < v.length → nth 0 v i = nth 0 w i) : v = w :=
 List.ext_getElem hl fun i h1 h2 => by have:=h i h1; rwa [nth_eq h1,nth_eq h2] at this
noncomputable def intsG : List V → List Blk → Res
 | [.s x, .s y],h => match arrOf In.c h x,arrOf In.c h y with
  | some v,some w => .ob (v.length ≤ 8796093022208 ∧ w.length ≤ 8796093022208) (.ok (.s (.b (decide (v = w)))) [] h)
  | _,_ => .bad
 | _,_ => .bad
theorem intsG_spec {args : List V} {h : List Blk} {K : V → List Blk → Prop} (hS : (intsG args h).spec K) : ∃ x y v w,args = [.s x, .s y] ∧ IsArr In.c h x v ∧ IsArr In.c h y w ∧ v.length ≤ 8796093022208 ∧ w.length ≤ 8796093022208 ∧ K (.s (.b (decide (v = w)))) h:=by
 unfold intsG at hS
 split at hS
 ·split at hS
  ·rename_i e1 e2
   exact ⟨_,_,_,_,rfl,arrOf_some e1,arrOf_some e2,hS.1.1,hS.1.2,hS.2⟩
  ·exact hS.elim
 ·exact hS.elim
theorem ints_snd : Snd Tryz.prog 48 (FSpec.of intsG):=snd_run (noT_snd _) mixed Tryz.func48 dc48 100 fun args h K hc hS => by
 obtain ⟨x,y,v,w,rfl,Hx,Hy,lx,ly,hK⟩:=intsG_spec hS
 clear hS
 have hlx:=fun ls h' => Hx.sl.len (ls:=ls) (h:=h')
 have hly:=fun ls h' => Hy.sl.len (ls:=ls) (h:=h')
 by_cases hn : v.length = w.length
 ·have e2 : ((v.length : Int) != (w.length : Int)) = false:=by rw [hn]; simp
  simp (maxSteps:=9999999) only [EV0,zy,zx,zw,zv,zu,zq,zp,zj,zk,leT,zg,rvC,zZ,zY,zX,zW,↓zV,↓zU,reduceCtorEq,zQ,yz,yY,yy,yx,yw,yv,yu,yq,yX,yj,yk,yg,yW,yV,yU,yZ,yQ,xz,df48,↓hlx,↓hly,e2]
  refine loop_rule (α:=Nat) [4,5,11,12,13,14,15,16,17,18,19,20,21,22,23,24,25] (fun q => [(5, .s (.i .i64 (q : Int)))]) (fun _ => []) (fun q => h) (fun q => q ≤ v.length ∧ ∀ i,i < q → nth 0 v i = nth 0 w i) (fun q => v.length - q) 0 ⟨Nat.zero_le _,fun i hi => absurd hi (Nat.not_lt_zero _)⟩ ?_ ?_
  ·refine Wk.less ?_
   simp (maxSteps:=9999999) only [EV0,zy,zx,zw,zv,zu,zq,zp,zj,zk,leT,zg,rvC,zZ,zY,zX,zW,↓zV,↓zU,reduceCtorEq,zQ,yz,yY,yy,yx,yw,yv,yu,yq,yX,yj,yk,yg,yW,yV,yU,yZ,yQ,xz,Int.natCast_zero]
  ·rintro X q ⟨hq,hpre⟩ IH
   rcases Nat.lt_or_ge q v.length with h1 | h1
   ·have h2 : q < w.length:=by omega
    obtain ⟨j,c,st,room,rfl,hj,hd⟩:=Hx.at h1
    obtain ⟨j2,c2,st2,room2,rfl,hj2,hd2⟩:=Hy.at h2
    rw [arr_ints] at hj hj2
    obtain ⟨d1,d2,d3,d4⟩:=idx h1 (by omega)
    have d5 : (q : Int) < w.length:=by omega
    have g1:=intsB_get h1
    have g2:=intsB_get h2
    by_cases hx : nth 0 v q = nth 0 w q
    ·have f1 : (nth 0 v q != nth 0 w q) = false:=by simpa using hx
     refine run_sound (Tab.ok_Γ _) 100 _ _ _ _ ?_
     simp (maxSteps:=9999999) only [EV0,zy,zx,zw,zv,zu,zq,zp,zj,zk,leT,zg,rvC,zZ,zY,zX,zW,↓zV,↓zU,reduceCtorEq,zQ,yz,yY,yy,yx,yw,yv,yu,yq,yX,yj,yk,yg,yW,yV,yU,yZ,yQ,xz,d1,d2,d3,d4,d5,g1,g2,hj,hj2,hd,hd2,f1,hx,Int.toNat_natCast]
     exact IH (q + 1) _ (by omega) ⟨by omega,fun i hi => by
      rcases Nat.lt_or_ge i q with h2 | h2
      ·exact hpre i h2
      ·have : i = q:=by omega
       subst this; exact hx⟩ (Wk.same rfl rfl (by simp (maxSteps:=9999999) only [EV0,zy,zx,zw,zv,zu,zq,zp,zj,zk,leT,zg,rvC,zZ,zY,zX,zW,↓zV,↓zU,reduceCtorEq,zQ,yz,yY,yy,yx,yw,yv,yu,yq,yX,yj,yk,yg,yW,yV,yU,yZ,yQ,xz]))
    ·have f1 : (nth 0 v q != nth 0 w q) = true:=by simpa using hx
     have e1 : ¬ v = w:=take_ne h1 h2 hx
     simp only [e1,decide_false] at hK
     refine run_sound (Tab.ok_Γ _) 100 _ _ _ _ ?_
     simp (maxSteps:=9999999) only [EV0,zy,zx,zw,zv,zu,zq,zp,zj,zk,leT,zg,rvC,zZ,zY,zX,zW,↓zV,↓zU,reduceCtorEq,zQ,yz,yY,yy,yx,yw,yv,yu,yq,yX,yj,yk,yg,yW,yV,yU,yZ,yQ,xz,d1,d2,d3,d4,d5,g1,g2,hj,hj2,hd,hd2,f1,hx,Int.toNat_natCast]
     exact hK
   ·have : q = v.length:=by omega
    subst this
    have e1:=eq_of_nthI hn hpre
    simp only [e1,decide_true] at hK
    refine run_sound (Tab.ok_Γ _) 100 _ _ _ _ ?_
    simp (maxSteps:=9999999) only [EV0,zy,zx,zw,zv,zu,zq,zp,zj,zk,leT,zg,rvC,zZ,zY,zX,zW,↓zV,↓zU,reduceCtorEq,zQ,yz,yY,yy,yx,yw,yv,yu,yq,yX,yj,yk,yg,yW,yV,yU,yZ,yQ,xz,↓hlx,Int.lt_irrefl]
    exact hK
 ·have e1 : ¬ (v = w):=fun e => hn (by rw [e])
  have e2 : ((v.length : Int) != (w.length : Int)) = true:=by rw [bne_iff_ne]; omega
  have e3 : ¬ ((v.length : Int) = (w.length : Int)):=by omega
  simp only [e1,decide_false] at hK
  simp (maxSteps:=9999999) only [EV0,zy,zx,zw,zv,zu,zq,zp,zj,zk,leT,zg,rvC,zZ,zY,zX,zW,↓zV,↓zU,reduceCtorEq,zQ,yz,yY,yy,yx,yw,yv,yu,yq,yX,yj,yk,yg,yW,yV,yU,yZ,yQ,xz,df48,↓hlx,↓hly,e2,e3]
  exact hK
theorem has_snd : Snd Tryz.prog 121 (FSpec.of containsG):=snd_run (noT_snd _) mixed Tryz.func121 dc121 100 fun args h K hc hS => by
 obtain ⟨s,x,l,rfl,Hs,hl,hK⟩:=containsG_spec hS
 clear hS
 have hlen:=fun ls h' => Hs.sl.len (ls:=ls) (h:=h')
 simp (maxSteps:=9999999) only [EV0,zy,zx,zw,zv,zu,zq,zp,zj,zk,leT,zg,rvC,zZ,zY,zX,zW,↓zV,↓zU,reduceCtorEq,zQ,yz,yY,yy,yx,yw,yv,yu,yq,yX,yj,yk,yg,yW,yV,yU,yZ,yQ,xz,df121,↓hlen]
 refine loop_rule (α:=Nat) [4,5,6,7,8,9,10,11,12,13,14,15,16,17] (fun q => [(5, .s (.i .i64 (q : Int)))]) (fun _ => []) (fun _ => h) (fun q => q ≤ l.length ∧ x ∉ l.take q) (fun q => l.length - q) 0 ⟨Nat.zero_le _,by simp⟩ ?_ ?_
 ·refine Wk.less ?_
  simp (maxSteps:=9999999) only [EV0,zy,zx,zw,zv,zu,zq,zp,zj,zk,leT,zg,rvC,zZ,zY,zX,zW,↓zV,↓zU,reduceCtorEq,zQ,yz,yY,yy,yx,yw,yv,yu,yq,yX,yj,yk,yg,yW,yV,yU,yZ,yQ,xz,Int.natCast_zero]
 ·rintro X q ⟨hq,hn⟩ IH
  rcases Nat.lt_or_ge q l.length with h1 | h1
  ·obtain ⟨j,c',st,room,rfl,hj,hd⟩:=Hs.at h1
   obtain ⟨d1,d2,d3,d4⟩:=idx h1 (by omega)
   rw [arr_ints] at hj
   have g1:=intsB_get h1
   by_cases e : x = nth 0 l q
   ·have e1 : decide (x ∈ l) = true:=by simpa using in_take h1 e.symm
    have e2 : (nth 0 l q == x) = true:=by rw [← e]; simp
    rw [e1] at hK
    refine run_sound (Tab.ok_Γ _) 100 _ _ _ _ ?_
    simp (maxSteps:=9999999) only [EV0,zy,zx,zw,zv,zu,zq,zp,zj,zk,leT,zg,rvC,zZ,zY,zX,zW,↓zV,↓zU,reduceCtorEq,zQ,yz,yY,yy,yx,yw,yv,yu,yq,yX,yj,yk,yg,yW,yV,yU,yZ,yQ,xz,d1,d2,d3,d4,g1,hj,hd,e2,Int.toNat_natCast]
    exact hK
   ·have e2 : (nth 0 l q == x) = false:=by simpa using fun h => e h.symm
    refine run_sound (Tab.ok_Γ _) 100 _ _ _ _ ?_
    simp (maxSteps:=9999999) only [EV0,zy,zx,zw,zv,zu,zq,zp,zj,zk,leT,zg,rvC,zZ,zY,zX,zW,↓zV,↓zU,reduceCtorEq,zQ,yz,yY,yy,yx,yw,yv,yu,yq,yX,yj,yk,yg,yW,yV,yU,yZ,yQ,xz,d1,d2,d3,d4,g1,hj,hd,e2,Int.toNat_natCast]
    exact IH (q + 1) _ (by omega) ⟨by omega,not_take h1 hn e⟩ (Wk.same rfl rfl (by simp (maxSteps:=9999999) only [EV0,zy,zx,zw,zv,zu,zq,zp,zj,zk,leT,zg,rvC,zZ,zY,zX,zW,↓zV,↓zU,reduceCtorEq,zQ,yz,yY,yy,yx,yw,yv,yu,yq,yX,yj,yk,yg,yW,yV,yU,yZ,yQ,xz]))
  ·have e0 : q = l.length:=by omega
   subst e0
   rw [List.take_length] at hn
   have e1 : decide (x ∈ l) = false:=by simpa using hn
   rw [e1] at hK
   refine run_sound (Tab.ok_Γ _) 100 _ _ _ _ ?_
   simp (maxSteps:=9999999) only [EV0,zy,zx,zw,zv,zu,zq,zp,zj,zk,leT,zg,rvC,zZ,zY,zX,zW,↓zV,↓zU,reduceCtorEq,zQ,yz,yY,yy,yx,yw,yv,yu,yq,yX,yj,yk,yg,yW,yV,yU,yZ,yQ,xz,↓hlen,Int.lt_irrefl]
   exact hK
def hndV (n : Int) : Cap:=⟨12,0,0,0,0,0,0,0,0,0,if n.tmod 16 < 0 then n.tmod 16 + 16 else n.tmod 16⟩
def hndG : List V → List Blk → Res
 | [.s (.i .i64 n)],h => .ob (-9223372036854775808 ≤ n ∧ n < 9223372036854775808) (.ok (.agg (hndV n).cl) [] h)
 | _,_ => .bad
theorem tmod16 (n : Int) : -16 < n.tmod 16 ∧ n.tmod 16 < 16:=⟨by have:=Int.lt_tmod_of_pos n (b:=16) (by omega); simpa using this,Int.tmod_lt_of_pos n (by omega)⟩
theorem hnd_snd : Snd Tryz.prog 117 (FSpec.of hndG):=snd_run (noT_snd _) mixed Tryz.func117 dc117 100 fun args h K hc hS => by
 unfold hndG at hS
 split at hS
 ·rename_i n
  simp only [spec_ob,spec_ok,hndV,Cap.cl] at hS
  obtain ⟨hn,hS⟩:=hS
  obtain ⟨t1,t2⟩:=tmod16 n
  have w0 : IntKind.i64.wrap (n.tmod 16) = n.tmod 16:=by rw [wrap64] <;> omega
  have w1 : IntKind.i64.wrap (n.tmod 16 + 16) = n.tmod 16 + 16:=by rw [wrap64] <;> omega
  by_cases c1 : n.tmod 16 < 0
  ·rw [if_pos c1] at hS
   simp (maxSteps:=9999999) only [EV0,zy,zx,zw,zv,zu,zq,zp,zj,zk,leT,zg,rvC,zZ,zY,zX,zW,↓zV,↓zU,reduceCtorEq,zQ,yz,yY,yy,yx,yw,yv,yu,yq,yX,yj,yk,yg,yW,yV,yU,yZ,yQ,xz,df117,w0,w1,c1,put,fillP,sub,EVt]
   exact hS
  ·rw [if_neg c1] at hS
   simp (maxSteps:=9999999) only [EV0,zy,zx,zw,zv,zu,zq,zp,zj,zk,leT,zg,rvC,zZ,zY,zX,zW,↓zV,↓zU,reduceCtorEq,zQ,yz,yY,yy,yx,yw,yv,yu,yq,yX,yj,yk,yg,yW,yV,yU,yZ,yQ,xz,df117,w0,w1,c1,put,fillP,sub,EVt]
   exact hS
 ·exact hS.elim

/-! ### both memories -/
def bothB (a p : Nat) : Blk:=⟨.rw,[.p (.g a) 0, .p (.g p) 0],2⟩
structure IsB (H : List Blk) (c a b p q : Nat) (m r : M) : Prop where
 hc : H[c]? = some (bothB a p)
 hm : IsMem H a b m
 hr : IsMem H p q r
 d : a ≠ p ∧ a ≠ q ∧ b ≠ p ∧ b ≠ q
def twoH (H : List Blk) (a b p q : Nat) (m r : M) (X : List Blk) : List Blk:=setM (setM H a b m) p q r ++ X
theorem setM_at {h : List Blk} {a b k : Nat} {m : M} (h1 : k ≠ a) (h2 : k ≠ b) : (setM h a b m)[k]? = h[k]?:=by
 simp only [setM]
 rw [List.getElem?_set_ne (Ne.symm h2),List.getElem?_set_ne (Ne.symm h1)]
theorem setM_comm {h : List Blk} {a b p q : Nat} {m r : M} (d : a ≠ p ∧ a ≠ q ∧ b ≠ p ∧ b ≠ q) : setM (setM h a b m) p q r = setM (setM h p q r) a b m:=by
 obtain ⟨d1,d2,d3,d4⟩:=d
 simp only [setM]
 rw [List.set_comm _ _ d3,List.set_comm _ _ d1,List.set_comm _ _ d4,List.set_comm _ _ d2]
theorem IsMem.oth {h : List Blk} {a b p q : Nat} {m m' r : M} (H : IsMem h a b m) (d : a ≠ p ∧ a ≠ q ∧ b ≠ p ∧ b ≠ q) : IsMem (setM h p q r) a b m:=by
 obtain ⟨d1,d2,d3,d4⟩:=d
 exact ⟨H.ne,(setM_at d1 d2).trans H.ha,(setM_at d3 d4).trans H.hb⟩
section
variable {H X : List Blk} {c a b p q : Nat} {m r : M}
theorem IsB.c_ne (I : IsB H c a b p q m r) : c ≠ a ∧ c ≠ b ∧ c ≠ p ∧ c ≠ q:=by
 refine ⟨fun e => ?_,fun e => ?_,fun e => ?_,fun e => ?_⟩
 ·have:=I.hc.symm.trans (e ▸ I.hm.ha); simp [bothB,MB] at this
 ·have:=I.hc.symm.trans (e ▸ I.hm.hb); simp only [bothB,MW,Option.some.injEq,Blk.mk.injEq] at this
  obtain ⟨_,e2,_⟩:=this
  cases hw : m.w with
  | nil => rw [hw] at e2; cases e2
  | cons x l => rw [hw] at e2; simp [wc_cons] at e2
 ·have:=I.hc.symm.trans (e ▸ I.hr.ha); simp [bothB,MB] at this
 ·have:=I.hc.symm.trans (e ▸ I.hr.hb); simp only [bothB,MW,Option.some.injEq,Blk.mk.injEq] at this
  obtain ⟨_,e2,_⟩:=this
  cases hw : r.w with
  | nil => rw [hw] at e2; cases e2
  | cons x l => rw [hw] at e2; simp [wc_cons] at e2
theorem IsB.sym_d (I : IsB H c a b p q m r) : p ≠ a ∧ p ≠ b ∧ q ≠ a ∧ q ≠ b:=⟨Ne.symm I.d.1,Ne.symm I.d.2.2.1,Ne.symm I.d.2.1,Ne.symm I.d.2.2.2⟩
theorem IsB.set (I : IsB H c a b p q m r) (m' r' : M) : IsB (setM (setM H a b m') p q r') c a b p q m' r':=by
 obtain ⟨h1,h2,h3,h4⟩:=I.c_ne
 refine ⟨?_, ?_, ?_,I.d⟩
 ·rw [setM_at h3 h4,setM_at h1 h2]; exact I.hc
 ·exact (I.hm.set m').oth (m':=m') I.d
 ·exact (I.hr.oth (m':=r) (r:=m') I.sym_d).set r'
theorem IsB.app (I : IsB H c a b p q m r) : IsB (H ++ X) c a b p q m r :=
 ⟨by rw [List.getElem?_append_left (List.getElem?_eq_some_iff.1 I.hc).1]; exact I.hc,I.hm.app,I.hr.app,I.d⟩
theorem IsB.two (I : IsB H c a b p q m r) (m' r' : M) (X : List Blk) : IsB (twoH H a b p q m' r' X) c a b p q m' r':=(I.set m' r').app
theorem twoH_len (m r : M) : (twoH H a b p q m r X).length = H.length + X.length:=by simp [twoH,setM_len]
theorem twoH_app (m r : M) (Y : List Blk) : twoH H a b p q m r X ++ Y = twoH H a b p q m r (X ++ Y):=by simp [twoH]
theorem IsB.setA (I : IsB H c a b p q m r) (m' r' m2 : M) (X : List Blk) : setM (twoH H a b p q m' r' X) a b m2 = twoH H a b p q m2 r' X:=by
 unfold twoH
 rw [setM_app (I.set m' r').hm,setM_comm I.d,setM_set I.hm.ne,← setM_comm I.d]
theorem IsB.setP (I : IsB H c a b p q m r) (m' r' r2 : M) (X : List Blk) : setM (twoH H a b p q m' r' X) p q r2 = twoH H a b p q m' r2 X:=by
 unfold twoH
 rw [setM_app (I.set m' r').hr,setM_set I.hr.ne]
theorem IsB.self (I : IsB H c a b p q m r) : twoH H a b p q m r [] = H:=by
 unfold twoH
 rw [setM_self I.hm,setM_self I.hr,List.append_nil]
theorem IsB.fm (I : IsB H c a b p q m r) {f : Nat → M → (M → List Blk) → List V → Res} (m' r' : M) (X : List Blk) (rest : List V) : memF f (.s (.p (.g a) 0) :: rest) (twoH H a b p q m' r' X) = f b m' (fun m2 => twoH H a b p q m2 r' X) rest:=by
 rw [memF_eq (I.two m' r' X).hm,show setM (twoH H a b p q m' r' X) a b = fun m2 => twoH H a b p q m2 r' X from funext fun m2 => I.setA m' r' m2 X]
theorem IsB.fr (I : IsB H c a b p q m r) {f : Nat → M → (M → List Blk) → List V → Res} (m' r' : M) (X : List Blk) (rest : List V) : memF f (.s (.p (.g p) 0) :: rest) (twoH H a b p q m' r' X) = f q r' (fun r2 => twoH H a b p q m' r2 X) rest:=by
 rw [memF_eq (I.two m' r' X).hr,show setM (twoH H a b p q m' r' X) p q = fun r2 => twoH H a b p q m' r2 X from funext fun r2 => I.setP m' r' r2 X]
theorem IsB.at_c (I : IsB H c a b p q m r) (m' r' : M) (X : List Blk) : (twoH H a b p q m' r' X)[c]? = some ⟨.rw,[.p (.g a) 0, .p (.g p) 0],2⟩:=(I.two m' r' X).hc
theorem IsB.at_p (I : IsB H c a b p q m r) (m' r' : M) (X : List Blk) : (twoH H a b p q m' r' X)[p]? = some (MB q r'):=(I.two m' r' X).hr.ha
theorem IsB.at_x (m' r' : M) (Y : Blk) (X : List Blk) : (twoH H a b p q m' r' (Y :: X))[H.length]? = some Y:=by
 unfold twoH
 rw [List.getElem?_append_right (by simp [setM_len])]
 simp [setM_len]
theorem twoH_x (m r : M) (X : List Blk) : twoH H a b p q m r X = twoH H a b p q m r [] ++ X:=(twoH_app (X:=[]) m r X).symm
theorem IsB.clean (I : IsB H c a b p q m r) {m1 r1 : M} (hc : clean (twoH H a b p q m1 r1 X).length (twoH H a b p q m1 r1 X) = true) (m' r' : M) : clean (twoH H a b p q m' r' X).length (twoH H a b p q m' r' X) = true:=by
 have e : twoH H a b p q m' r' X = setM (setM (twoH H a b p q m1 r1 X) a b m') p q r':=by rw [I.setA,I.setP]
 have hl : (twoH H a b p q m' r' X).length = (twoH H a b p q m1 r1 X).length:=by rw [twoH_len,twoH_len]
 rw [hl,e]
 have hM:=(I.two m1 r1 X).hm
 have hR:=(I.two m' r1 X).hr
 refine setM_clean (m0:=r1) ?_ (setM_clean hM hc hM.ltb) ?_
 ·rw [I.setA]; exact hR
 ·have:=hR.ltb; rw [twoH_len] at this ⊢; exact this
theorem IsB.uniq (I : IsB H c a b p q m r) {a' b' p' q' : Nat} {m' r' : M} (J : IsB H c a' b' p' q' m' r') : a = a' ∧ b = b' ∧ p = p' ∧ q = q' ∧ m = m' ∧ r = r':=by
 have e:=I.hc.symm.trans J.hc
 simp only [bothB,Option.some.injEq,Blk.mk.injEq,List.cons.injEq,S.p.injEq,R.g.injEq,true_and,and_true] at e
 obtain ⟨rfl,rfl⟩:=e
 obtain ⟨e1,e2⟩:=I.hm.uniq J.hm
 obtain ⟨e3,e4⟩:=I.hr.uniq J.hr
 exact ⟨rfl,e1,rfl,e3,e2,e4⟩
end
open Classical in
noncomputable def bothOf (H : List Blk) (c : Nat) : Option (Nat × Nat × Nat × Nat × M × M):=if hx : ∃ x : Nat × Nat × Nat × Nat × M × M,IsB H c x.1 x.2.1 x.2.2.1 x.2.2.2.1 x.2.2.2.2.1 x.2.2.2.2.2 then some (Classical.choose hx) else none
theorem bothOf_eq {H : List Blk} {c a b p q : Nat} {m r : M} (I : IsB H c a b p q m r) : bothOf H c = some (a,b,p,q,m,r):=by
 have hx : ∃ x : Nat × Nat × Nat × Nat × M × M,IsB H c x.1 x.2.1 x.2.2.1 x.2.2.2.1 x.2.2.2.2.1 x.2.2.2.2.2:=⟨(a,b,p,q,m,r),I⟩
 unfold bothOf
 rw [dif_pos hx]
 obtain ⟨e1,e2,e3,e4,e5,e6⟩:=IsB.uniq (Classical.choose_spec hx) I
 exact congrArg some (Prod.ext e1 (Prod.ext e2 (Prod.ext e3 (Prod.ext e4 (Prod.ext e5 e6)))))
theorem bothOf_some {H : List Blk} {c a b p q : Nat} {m r : M} (e : bothOf H c = some (a,b,p,q,m,r)) : IsB H c a b p q m r:=by
 unfold bothOf at e
 split at e
 ·rename_i hx
  have:=Classical.choose_spec hx
  rw [Option.some.injEq] at e
  rwa [e] at this
 ·cases e
noncomputable def bothF (f : M → M → (M → M → List Blk) → List V → Res) : List V → List Blk → Res
 | .s (.p (.g c) 0) :: rest,H => match bothOf H c with
  | some (a,b,p,q,m,r) => f m r (fun m r => twoH H a b p q m r []) rest
  | none => .bad
 | _,_ => .bad
theorem bothF_spec {f : M → M → (M → M → List Blk) → List V → Res} {args : List V} {H : List Blk} {K : V → List Blk → Prop} (hS : (bothF f args H).spec K) :
  ∃ H0 c a b p q m r rest,args = .s (.p (.g c) 0) :: rest ∧ H = twoH H0 a b p q m r [] ∧ IsB H0 c a b p q m r ∧ (f m r (fun m r => twoH H0 a b p q m r []) rest).spec K:=by
 unfold bothF at hS
 split at hS
 ·split at hS
  ·rename_i e
   have I:=bothOf_some e
   exact ⟨H,_,_,_,_,_,_,_,_,rfl,I.self.symm,I,hS⟩
  ·exact hS.elim
 ·exact hS.elim
theorem bothF_eq {f : M → M → (M → M → List Blk) → List V → Res} {H X : List Blk} {c a b p q : Nat} {m r m' r' : M} {rest : List V} (I : IsB H c a b p q m r) : bothF f (.s (.p (.g c) 0) :: rest) (twoH H a b p q m' r' X) = f m' r' (fun m r => twoH H a b p q m r X) rest:=by
 unfold bothF
 simp only [bothOf_eq (I.two m' r' X)]
 congr 1
 funext m2 r2
 unfold twoH
 rw [setM_app (I.set m' r').hm,setM_comm I.d,setM_set I.hm.ne,← setM_comm I.d,setM_app (I.set m2 r').hr,setM_set I.hr.ne,List.append_nil]

def hndS (n : Int) : Slot:=⟨hndV n,0,0,0⟩
def laysV (m r : M) (a n : Int) : Bool:=if r.gE a = 0 ∧ r.eB a = true then m.pE a (hndS n) == (r.gX a).pE a (hndS n) else true
def laysX (m r : M) (a n : Int) : M × M:=if r.gE a = 0 ∧ r.eB a = true then (m.pX a (hndS n),(r.gX a).pX a (hndS n)) else (m,r.gX a)
def laysM (m r : M) (st : M → M → List Blk) : List V → Res
 | [.s (.i .i64 a), .s (.i .i64 n)] => .ob (-9223372036854775808 ≤ n ∧ n < 9223372036854775808) (.ok (.s (.b (laysV m r a n))) [] (st (laysX m r a n).1 (laysX m r a n).2))
 | _ => .bad
noncomputable def laysG:=bothF laysM
noncomputable def TLa : Tab:=addT 116 empty2G (addT 117 hndG (addT 79 put2G (addT 118 put2G (noT))))
theorem TLa_snd : TLa.Snd Tryz.prog:=addT_snd ok116 rempty2_snd (addT_snd ok117 hnd_snd (addT_snd ok79 put2_snd (addT_snd ok118 rput2_snd ((noT_snd _)))))
theorem lays_snd : Snd Tryz.prog 44 (FSpec.of laysG):=snd_run TLa_snd mixed Tryz.func44 dc44 200 fun args H K hc hS => by
 obtain ⟨H0,c,a,b,p,q,m,r,rest,rfl,rfl,I,hS1⟩:=bothF_spec hS
 clear hS
 unfold laysM at hS1
 split at hS1
 ·rename_i x n
  obtain ⟨hn,hS⟩:=hS1
  simp only [spec_ok,laysV,laysX] at hS
  obtain ⟨⟨⟨c0,c1,c2,c3,c4,c5,c6,c7,c8,c9,c10⟩,p0,q0,r0⟩,hs⟩ : ∃ s,hndS n = s:=⟨_,rfl⟩
  have hcap : hndV n = ⟨c0,c1,c2,c3,c4,c5,c6,c7,c8,c9,c10⟩:=by have:=congrArg Slot.cap hs; exact this
  have hl : (0 : Int) = p0 ∧ (0 : Int) = q0 ∧ (0 : Int) = r0:=⟨congrArg Slot.prev hs,congrArg Slot.next hs,congrArg Slot.depth hs⟩
  obtain ⟨rfl,rfl,rfl⟩:=hl
  rw [hs] at hS
  by_cases h1 : r.gE x = 0
  ·have h1' : (r.gE x == 0) = true:=by simpa using h1
   cases h2 : r.eB x
   ·rw [if_neg (by simp [h2]),if_neg (by simp [h2])] at hS
    simp (maxSteps:=9999999) only [EV0,zy,zx,zw,zv,zu,zq,zp,zj,zk,leT,zg,rvC,zZ,zY,zX,zW,↓zV,↓zU,reduceCtorEq,zQ,yz,yY,yy,yx,yw,yv,yu,yq,yX,yj,yk,yg,yW,yV,yU,yZ,yQ,xz,df44,TLa,empty2G,empty2M,I.at_c,I.fm,I.fr,h1,h2,bne]
    exact hS
   ·rw [if_pos ⟨h1,h2⟩,if_pos ⟨h1,h2⟩] at hS
    simp (maxSteps:=9999999) only [EV0,zy,zx,zw,zv,zu,zq,zp,zj,zk,leT,zg,rvC,zZ,zY,zX,zW,↓zV,↓zU,reduceCtorEq,zQ,yz,yY,yy,yx,yw,yv,yu,yq,yX,yj,yk,yg,yW,yV,yU,yZ,yQ,xz,df44,TLa,empty2G,empty2M,hndG,put2G,put2M,slotF,hcap,I.at_c,I.fm,I.fr,h1,h2,hn,bne,Slot.cl,Cap.cl,put,fillP,sub,EVt]
    exact hS
  ·have h1' : (r.gE x == 0) = false:=by simpa using h1
   rw [if_neg (fun h => h1 h.1),if_neg (fun h => h1 h.1)] at hS
   simp (maxSteps:=9999999) only [EV0,zy,zx,zw,zv,zu,zq,zp,zj,zk,leT,zg,rvC,zZ,zY,zX,zW,↓zV,↓zU,reduceCtorEq,zQ,yz,yY,yy,yx,yw,yv,yu,yq,yX,yj,yk,yg,yW,yV,yU,yZ,yQ,xz,df44,TLa,empty2G,empty2M,I.at_c,I.fm,I.fr,h1',h1,bne]
   exact hS
 ·exact hS1.elim
structure Op where
 wh : Int
 a : Int
 b : Int
 n : Int
def Op.cl (x : Op) : List S:=[.i .i64 x.wh, .i .i64 x.a, .i .i64 x.b, .i .i64 x.n]
theorem Op.cl_len (x : Op) : x.cl.length = 4:=rfl
theorem Op.inj {x y : Op} (e : x.cl = y.cl) : x = y:=by
 obtain ⟨a,b,c,d⟩:=x
 obtain ⟨a',b',c',d'⟩:=y
 simp only [Op.cl,List.cons.injEq,S.i.injEq,true_and,and_true] at e
 obtain ⟨rfl,rfl,rfl,rfl⟩:=e
 rfl
instance : Cells Op.cl:=⟨⟨4,Op.cl_len⟩,fun x y e => Op.inj e⟩
def opF (f : Op → Res) : List V → Res
 | [.agg [.i .i64 a, .i .i64 b, .i .i64 c, .i .i64 d]] => f ⟨a,b,c,d⟩
 | _ => .bad
theorem opF_spec {f : Op → Res} {args : List V} {K : V → List Blk → Prop} (h : (opF f args).spec K) : ∃ x : Op,args = [.agg x.cl] ∧ (f x).spec K:=by
 unfold opF at h
 split at h
 ·exact ⟨_,rfl,h⟩
 ·exact h.elim
def M.rli (r : M) : Option (List Int) × M:=rdW (-1) (r.w.length / 4) (r.w.length / 4 + 2) r.fst r.fstX []
def promV (r : M) (x : Op) : Bool:=match r.rli with
 | (none,_) => false
 | (some L,_) => (x.wh == 1 || (!(r.gE x.a == 0) || (r.eB x.a || decide (x.a ∈ L)))) && (!(r.gE x.b == 0) || (r.eB x.b || (decide (x.b ∈ L) || (x.wh == 1 && x.b == 0))))
def promX (r : M) (x : Op) : M:=match r.rli with
 | (none,r2) => r2
 | (some _,r2) => (r2.gX x.a).gX x.b
def promM (m r : M) (st : M → M → List Blk) : List V → Res:=opF fun x => .ok (.s (.b (promV r x))) [] (st m (promX r x))
noncomputable def promG:=bothF promM
theorem rdW_w {d : Int} {N : Nat} : ∀ (k : Nat) (x : Int) (m : M) (l : List Int),(rdW d N k x m l).2.w = m.w
 | 0,x,m,l => rfl
 | k + 1,x,m,l => by
  simp only [rdW]
  split
  ·rfl
  ·split
   ·split
    ·exact gX_w _ _
    ·exact (rdW_w k _ _ _).trans (gX_w _ _)
   ·exact gX_w _ _
noncomputable def TPr : Tab:=addT 120 rlisG (addT 116 empty2G (addT 121 containsG (noT)))
theorem TPr_snd : TPr.Snd Tryz.prog:=addT_snd ok120 rlis_snd (addT_snd ok116 rempty2_snd (addT_snd ok121 has_snd ((noT_snd _))))
theorem prom_snd : Snd Tryz.prog 51 (FSpec.of promG):=(fwp_sound (Tab.snd_Γ TPr_snd) mixed Tryz.func51 dc51).weaken fun args H K hc hS => by
 refine fwp_runW (Tab.ok_Γ _) 300 ?_
 obtain ⟨H0,c,a,b,p,q,m,r,rest,rfl,rfl,I,hS1⟩:=bothF_spec hS
 clear hS
 obtain ⟨⟨xw,xa,xb,xn⟩,rfl,hS⟩:=opF_spec hS1
 clear hS1
 simp only [spec_ok,promV,promX] at hS
 obtain ⟨o,ho⟩ : ∃ o,r.rli = o:=⟨_,rfl⟩
 rw [ho] at hS
 have ho2:=ho
 unfold M.rli at ho
 have hw : o.2.w = r.w:=by rw [← ho]; exact (rdW_w _ _ _ _).trans (fstX_w _)
 have hE : ∀ x,o.2.gE x = r.gE x:=fun x => gE_w hw x
 have hB : ∀ x,o.2.eB x = r.eB x:=fun x => eB_w hw x
 have hrl:=r.l
 have hcl:=I.clean hc
 have hln : ∀ m' r' X,(twoH H0 a b p q m r []).length = (twoH H0 a b p q m' r' X).length - X.length:=fun m' r' X => by rw [twoH_len,twoH_len]; simp
 rcases o with ⟨_ | _ | ⟨z,l⟩,r2⟩
 ·simp only at hS
  simp (maxSteps:=9999999) only [EV0,zy,zx,zw,zv,zu,zq,zp,zj,zk,leT,zg,rvC,zZ,zY,zX,zW,↓zV,↓zU,reduceCtorEq,zQ,yz,yY,yy,yx,yw,yv,yu,yq,yX,yj,yk,yg,yW,yV,yU,yZ,yQ,xz,df51,TPr,rlisG,rlisM,dscR,ho,I.at_c,I.fr,Op.cl,bne]
  refine fin_of (v:=.s (.b false)) (ls:=[]) (h:=twoH H0 a b p q m r2 []) rfl ?_ ?_
  ·exact Wk.keep 0 rfl rfl (by simp (maxSteps:=9999999) only [EV0,zy,zx,zw,zv,zu,zq,zp,zj,zk,leT,zg,rvC,zZ,zY,zX,zW,↓zV,↓zU,reduceCtorEq,zQ,yz,yY,yy,yx,yw,yv,yu,yq,yX,yj,yk,yg,yW,yV,yU,yZ,yQ,xz]) (by rfl) (by rfl)
  ·simp (maxSteps:=9999999) only [EV0,zy,zx,zw,zv,zu,zq,zp,zj,zk,leT,zg,rvC,zZ,zY,zX,zW,↓zV,↓zU,reduceCtorEq,zQ,yz,yY,yy,yx,yw,yv,yu,yq,yX,yj,yk,yg,yW,yV,yU,yZ,yQ,xz]
   exact hS
 ·simp only at hS hE hB
  cases k : xw == 1
  ·simp only [k,List.not_mem_nil,decide_false,Bool.false_or,Bool.or_false,Bool.true_or,Bool.true_and,Bool.false_and] at hS
   simp (maxSteps:=9999999) only [EV0,zy,zx,zw,zv,zu,zq,zp,zj,zk,leT,zg,rvC,zZ,zY,zX,zW,↓zV,↓zU,reduceCtorEq,zQ,yz,yY,yy,yx,yw,yv,yu,yq,yX,yj,yk,yg,yW,yV,yU,yZ,yQ,xz,df51,TPr,rlisG,rlisM,dscR,empty2G,empty2M,containsG,intsOf_ns,ho,I.at_c,I.fr,Op.cl,hE,hB,gX_gE,gX_eB,bne,List.not_mem_nil,decide_false,k]
   refine fin_of (v:=.s (.b ((!r.gE xa == 0 || r.eB xa) && (!r.gE xb == 0 || r.eB xb)))) (ls:=[]) (h:=twoH H0 a b p q m ((r2.gX xa).gX xb) []) rfl (Wk.keep 0 rfl rfl (by simp (maxSteps:=9999999) only [EV0,zy,zx,zw,zv,zu,zq,zp,zj,zk,leT,zg,rvC,zZ,zY,zX,zW,↓zV,↓zU,reduceCtorEq,zQ,yz,yY,yy,yx,yw,yv,yu,yq,yX,yj,yk,yg,yW,yV,yU,yZ,yQ,xz]) (by rfl) (by rfl)) ?_
   simp (maxSteps:=9999999) only [EV0,zy,zx,zw,zv,zu,zq,zp,zj,zk,leT,zg,rvC,zZ,zY,zX,zW,↓zV,↓zU,reduceCtorEq,zQ,yz,yY,yy,yx,yw,yv,yu,yq,yX,yj,yk,yg,yW,yV,yU,yZ,yQ,xz]
   exact hS
  ·simp only [k,List.not_mem_nil,decide_false,Bool.false_or,Bool.or_false,Bool.true_or,Bool.true_and,Bool.false_and] at hS
   simp (maxSteps:=9999999) only [EV0,zy,zx,zw,zv,zu,zq,zp,zj,zk,leT,zg,rvC,zZ,zY,zX,zW,↓zV,↓zU,reduceCtorEq,zQ,yz,yY,yy,yx,yw,yv,yu,yq,yX,yj,yk,yg,yW,yV,yU,yZ,yQ,xz,df51,TPr,rlisG,rlisM,dscR,empty2G,empty2M,containsG,intsOf_ns,ho,I.at_c,I.fr,Op.cl,hE,hB,gX_gE,gX_eB,bne,List.not_mem_nil,decide_false,k]
   refine fin_of (v:=.s (.b (!r.gE xb == 0 || (r.eB xb || xb == 0)))) (ls:=[]) (h:=twoH H0 a b p q m ((r2.gX xa).gX xb) []) rfl (Wk.keep 0 rfl rfl (by simp (maxSteps:=9999999) only [EV0,zy,zx,zw,zv,zu,zq,zp,zj,zk,leT,zg,rvC,zZ,zY,zX,zW,↓zV,↓zU,reduceCtorEq,zQ,yz,yY,yy,yx,yw,yv,yu,yq,yX,yj,yk,yg,yW,yV,yU,yZ,yQ,xz]) (by rfl) (by rfl)) ?_
   simp (maxSteps:=9999999) only [EV0,zy,zx,zw,zv,zu,zq,zp,zj,zk,leT,zg,rvC,zZ,zY,zX,zW,↓zV,↓zU,reduceCtorEq,zQ,yz,yY,yy,yx,yw,yv,yu,yq,yX,yj,yk,yg,yW,yV,yU,yZ,yQ,xz]
   exact hS
 ·simp only at hS hE hB
  have hl:=rdW_len _ _ _ _ ho
  simp only [List.length_cons,List.length_nil] at hl
  have hl2 : (z :: l).length ≤ 8796093022208:=by simp only [List.length_cons]; omega
  have hA : ∀ r' c,arrOf In.c (twoH H0 a b p q m r' [⟨.rw,intsB (z :: l),c⟩]) (.sl (.g H0.length) 0 (l.length + 1) c) = some (z :: l):=fun r' c => intsOf_at (IsB.at_x _ _ _ _)
  obtain ⟨d1,hd1⟩ : ∃ d,decide (xa ∈ z :: l) = d:=⟨_,rfl⟩
  obtain ⟨d2,hd2⟩ : ∃ d,decide (xb ∈ z :: l) = d:=⟨_,rfl⟩
  rw [hd1,hd2] at hS
  cases k : xw == 1
  ·simp only [k,Bool.true_or,Bool.true_and,Bool.false_and,Bool.false_or,Bool.or_false] at hS
   simp (maxSteps:=9999999) only [EV0,zy,zx,zw,zv,zu,zq,zp,zj,zk,leT,zg,rvC,zZ,zY,zX,zW,↓zV,↓zU,reduceCtorEq,zQ,yz,yY,yy,yx,yw,yv,yu,yq,yX,yj,yk,yg,yW,yV,yU,yZ,yQ,xz,df51,TPr,rlisG,rlisM,dscR,empty2G,empty2M,containsG,ho,I.at_c,I.fr,Op.cl,hE,hB,gX_gE,gX_eB,bne,k,twoH_app,twoH_len,List.length_nil,Nat.add_zero,List.nil_append,hA,hd1,hd2,hl2]
   intro c1 _
   refine ⟨fun _ _ => by omega,fun _ _ => by omega, ?_⟩
   have e0:=twoH_len (H:=H0) (X:=[]) (a:=a) (b:=b) (p:=p) (q:=q) m ((r2.gX xa).gX xb)
   refine fin_of (v:=.s (.b ((!r.gE xa == 0 || (r.eB xa || d1)) && (!r.gE xb == 0 || (r.eB xb || d2))))) (ls:=[]) (h:=twoH H0 a b p q m ((r2.gX xa).gX xb) []) rfl ?_ ?_
   ·rw [twoH_x m _ [_]]
    exact drop_b (by simp (maxSteps:=9999999) only [EV0,zy,zx,zw,zv,zu,zq,zp,zj,zk,leT,zg,rvC,zZ,zY,zX,zW,↓zV,↓zU,reduceCtorEq,zQ,yz,yY,yy,yx,yw,yv,yu,yq,yX,yj,yk,yg,yW,yV,yU,yZ,yQ,xz]) (hcl _ _) (Nat.le_of_eq (by rw [e0]; rfl))
   ·simp (maxSteps:=9999999) only [EV0,zy,zx,zw,zv,zu,zq,zp,zj,zk,leT,zg,rvC,zZ,zY,zX,zW,↓zV,↓zU,reduceCtorEq,zQ,yz,yY,yy,yx,yw,yv,yu,yq,yX,yj,yk,yg,yW,yV,yU,yZ,yQ,xz]
    exact hS
  ·simp only [k,Bool.true_or,Bool.true_and,Bool.false_and,Bool.false_or,Bool.or_false] at hS
   simp (maxSteps:=9999999) only [EV0,zy,zx,zw,zv,zu,zq,zp,zj,zk,leT,zg,rvC,zZ,zY,zX,zW,↓zV,↓zU,reduceCtorEq,zQ,yz,yY,yy,yx,yw,yv,yu,yq,yX,yj,yk,yg,yW,yV,yU,yZ,yQ,xz,df51,TPr,rlisG,rlisM,dscR,empty2G,empty2M,containsG,ho,I.at_c,I.fr,Op.cl,hE,hB,gX_gE,gX_eB,bne,k,twoH_app,twoH_len,List.length_nil,Nat.add_zero,List.nil_append,hA,hd1,hd2,hl2]
   intro c1 _
   refine ⟨fun _ _ => by omega,fun _ _ => by omega, ?_⟩
   have e0:=twoH_len (H:=H0) (X:=[]) (a:=a) (b:=b) (p:=p) (q:=q) m ((r2.gX xa).gX xb)
   refine fin_of (v:=.s (.b (!r.gE xb == 0 || (r.eB xb || (d2 || xb == 0))))) (ls:=[]) (h:=twoH H0 a b p q m ((r2.gX xa).gX xb) []) rfl ?_ ?_
   ·rw [twoH_x m _ [_]]
    exact drop_b (by simp (maxSteps:=9999999) only [EV0,zy,zx,zw,zv,zu,zq,zp,zj,zk,leT,zg,rvC,zZ,zY,zX,zW,↓zV,↓zU,reduceCtorEq,zQ,yz,yY,yy,yx,yw,yv,yu,yq,yX,yj,yk,yg,yW,yV,yU,yZ,yQ,xz]) (hcl _ _) (Nat.le_of_eq (by rw [e0]; rfl))
   ·simp (maxSteps:=9999999) only [EV0,zy,zx,zw,zv,zu,zq,zp,zj,zk,leT,zg,rvC,zZ,zY,zX,zW,↓zV,↓zU,reduceCtorEq,zQ,yz,yY,yy,yx,yw,yv,yu,yq,yX,yj,yk,yg,yW,yV,yU,yZ,yQ,xz]
    exact hS
end Go.Proofs.YtcdfofeolgbnbaaGreat

/- Links turned at a place's neighbours; Insert and Move,of the code and of the document,at slots that are in order. -/
namespace Go.Proofs.YtcdfofeolgbnbaaGreat
open Go.D
set_option linter.all false
set_option maxRecDepth 100000
set_option maxHeartbeats 4000000

theorem fE_zero {m : M} {x : Int} : m.fE x = 0 ↔ m.gE x = 0 ∧ (m.gV x).cap.ty ≠ 0:=by
 unfold M.fE
 constructor
 ·intro h
  split at h
  ·cases h
  ·rename_i hn
   exact ⟨h,fun e => hn ⟨h,e⟩⟩
 ·intro h
  rw [if_neg fun h2 => h.2 h2.2]
  exact h.1
theorem fE_there {m : M} {x : Int} (h : m.fE x = 0) : thereB m x = true:=(gE_there (fE_zero.1 h).1).1
theorem link_there {m : M} {x : Int} (h : thereB m x = true) : linkB x = true:=by
 have hl:=m.l
 have hb:=there_iff.1 h
 simp only [linkB,Bool.and_eq_true,decide_eq_true_eq,beq_iff_eq]
 omega
theorem link_0 : linkB 0 = true:=by decide
theorem full_mk {m : M} {x : Int} (h : m.fE x = 0) {p n d : Int} (hp : linkB p = true) (hn : linkB n = true) (h0 : 0 ≤ d) (h1 : d < 65536) : slotRB ⟨(m.gV x).cap,p,n,d⟩ = true:=by
 have h2:=(slotRB_iff (m.gV_u x)).1
 have h3:=(fE_zero.1 h).2
 have h4 : ((m.gV x).cap.ty == 0) = false:=by simpa using h3
 simp only [slotRB,h2,h4,hp,hn,h0,h1,Bool.false_and,Bool.not_false,decide_true,Bool.and_self]
theorem gV_links (m : M) (x : Int) : linkB (m.gV x).prev = true ∧ linkB (m.gV x).next = true ∧ 0 ≤ (m.gV x).depth ∧ (m.gV x).depth < 65536:=by
 have h:=m.gV_u x
 simp only [slotRB,Bool.and_eq_true,decide_eq_true_eq] at h
 exact ⟨h.2.2.1,h.2.2.2.1,h.2.2.2.2⟩
theorem gV_zero (m : M) : m.gV 0 = slotZ:=by
 unfold M.gV
 rw [if_neg]
 intro h
 exact there_ne0 h.1 rfl
def Slot.toN (s : Slot) (a : Int) : Slot:=⟨s.cap,s.prev,a,s.depth⟩
def Slot.toP (s : Slot) (a : Int) : Slot:=⟨s.cap,a,s.next,s.depth⟩
def jnV (V : Int → Slot) (p a n : Int) (x : Int) : Slot:=if x = p then (V p).toN a else if x = n then (V n).toP a else V x

structure M.To (m m' : M) (V : Int → Slot) (F : Int) : Prop where
 fr : M.Fr m m'
 E : ∀ x,m'.gE x = m.gE x
 V : ∀ x,x ≠ 0 → m'.gV x = V x
 F : m'.fst = F
theorem M.To.refl (m : M) : M.To m m m.gV m.fst:=⟨.refl m,fun _ => rfl,fun _ _ => rfl,rfl⟩
theorem M.To.of_w {m m1 m2 : M} {V : Int → Slot} {F : Int} (h : M.To m m1 V F) (e : m2.w = m1.w) : M.To m m2 V F :=
 ⟨h.fr.of_w e,fun x => (gE_w e x).trans (h.E x),fun x hx => (gV_w e x).trans (h.V x hx),(fst_w e).trans h.F⟩
theorem M.To.from_w {m m' m1 : M} {V : Int → Slot} {F : Int} (h : M.To m m1 V F) (e : m'.w = m.w) : M.To m' m1 V F :=
 ⟨h.fr.from_w e,fun x => (h.E x).trans (gE_w e x).symm,h.V,h.F⟩
theorem M.To.val {m m' : M} {V : Int → Slot} {F : Int} (h : M.To m m' V F) {V' : Int → Slot} (e : ∀ x,x ≠ 0 → V x = V' x) {F' : Int} (f : F = F') : M.To m m' V' F' :=
 ⟨h.fr,h.E,fun x hx => (h.V x hx).trans (e x hx),h.F.trans f⟩
theorem M.To.gX {m m' : M} {V : Int → Slot} {F : Int} (h : M.To m m' V F) (a : Int) : M.To m (m'.gX a) V F:=h.of_w (gX_w _ _)
theorem M.To.fstX {m m' : M} {V : Int → Slot} {F : Int} (h : M.To m m' V F) : M.To m m'.fstX V F:=h.of_w (fstX_w _)
theorem M.To.liX {m m' : M} {V : Int → Slot} {F : Int} (h : M.To m m' V F) (s : Slot) : M.To m (m'.liX s) V F:=h.of_w (liX_w _ _)
theorem M.To.there {m m' : M} {V : Int → Slot} {F : Int} (h : M.To m m' V F) (x : Int) : thereB m' x = thereB m x:=h.fr.there x
theorem M.To.fE {m m' : M} {V : Int → Slot} {F : Int} (h : M.To m m' V F) {x : Int} (hx : x ≠ 0) : m'.fE x = if m.gE x = 0 ∧ (V x).cap.ty = 0 then 121 else m.gE x:=by
 simp only [M.fE,h.E,h.V x hx]
theorem M.To.pX {m m' : M} {V : Int → Slot} {F : Int} (h : M.To m m' V F) {a : Int} {s : Slot} (ha : m.gE a = 0) (hr : slotRB s = true) : M.To m (m'.pX a s) (fun x => if x = a then s else V x) F:=by
 have ht : thereB m' a = true:=by rw [h.there]; exact (gE_there ha).1
 refine ⟨h.fr.pX a s,fun x => ?_,fun x hx => ?_,(pX_fst ht hr).trans h.F⟩
 ·rw [pX_gE ht hr]
  split
  ·rename_i e; rw [e,ha]
  ·exact h.E x
 ·rw [pX_gV ht hr]
  split
  ·rfl
  ·exact h.V x hx
theorem M.To.sfX {m m' : M} {V : Int → Slot} {F : Int} (h : M.To m m' V F) (hl : 4 ≤ m.w.length) {n : Int} (hn : n = 0 ∨ thereB m n = true) : M.To m (m'.sfX n) V n :=
 ⟨h.fr.sfX hl,fun x => (sfX_gE _ _ _).trans (h.E x),fun x hx => (sfX_gV _ _ _).trans (h.V x hx),sfX_fst (by rw [h.there]; exact hn) (by rw [h.fr.len]; exact hl)⟩
theorem M.To.trans {m m1 m2 : M} {V V' : Int → Slot} {F F' : Int} (h : M.To m m1 V F) (h2 : M.To m1 m2 V' F') : M.To m m2 V' F':=by
 refine ⟨⟨h2.fr.len.trans h.fr.len,fun j hj => (h2.fr.low j hj).trans (h.fr.low j hj),fun x hx => ?_,fun e => h2.fr.two (h.fr.two e)⟩,fun x => (h2.E x).trans (h.E x),h2.V,h2.F⟩
 by_cases e : m.gE x = 0
 ·exact .inl (by rw [h2.E,h.E]; exact e)
 ·right
  have e1 : ¬ m1.gE x = 0:=by rw [h.E]; exact e
  have e2 : ¬ m2.gE x = 0:=by rw [h2.E,h.E]; exact e
  have w1:=(h.fr.slot x hx).resolve_left e1
  have w2:=(h2.fr.slot x (by rw [h.there]; exact hx)).resolve_left e2
  exact fun k k1 k2 => (w2 k k1 k2).trans (w1 k k1 k2)
theorem M.To.det {m m' m1 m2 : M} {V V' : Int → Slot} {F F' : Int} (h1 : M.To m m1 V F) (h2 : M.To m' m2 V' F') (hw : m'.w = m.w) (hV : ∀ x,x ≠ 0 → V x = V' x) (hF : F = F') (h4 : m.w.length % 4 = 0) (htwo : m.at 2 = m.fst) : m1.w = m2.w:=by
 have h2:=h2.from_w hw.symm
 refine h1.fr.det h2.fr (fun x => (h1.E x).trans (h2.E x).symm) (fun x => ?_) (h1.F.trans (hF.trans h2.F.symm)) h4 htwo
 by_cases e : x = 0
 ·subst e; rw [gV_zero,gV_zero]
 ·rw [h1.V x e,h2.V x e,hV x e]

theorem M.To.full {m m' : M} {V : Int → Slot} {F : Int} (h : M.To m m' V F) {x : Int} (hx : m.gE x = 0) (ht : (V x).cap.ty ≠ 0) : m'.fE x = 0:=by
 have h0:=there_ne0 (gE_there hx).1
 exact fE_zero.2 ⟨(h.E x).trans hx,by rw [h.V x h0]; exact ht⟩
theorem M.To.turn {m m' : M} {V : Int → Slot} {F : Int} (h : M.To m m' V F) {x : Int} (hx : m.gE x = 0) (ht : (V x).cap.ty ≠ 0) {g : Slot → Slot} (hr : slotRB (g (V x)) = true) : M.To m (m'.turnX x g) (fun y => if y = x then g (V x) else V y) F:=by
 have h0:=there_ne0 (gE_there hx).1
 unfold M.turnX
 rw [if_neg h0,if_pos (h.full hx ht),h.V x h0]
 exact (h.gX x).pX hx hr
theorem M.To.turn0 {m m' : M} {V : Int → Slot} {F : Int} (h : M.To m m' V F) {g : Slot → Slot} : M.To m (m'.turnX 0 g) V F:=by
 unfold M.turnX
 rw [if_pos rfl]; exact h
theorem M.To.vlinks {m m' : M} {V : Int → Slot} {F : Int} (h : M.To m m' V F) {x : Int} (h0 : x ≠ 0) (ht : (V x).cap.ty ≠ 0) {p n d : Int} (hp : linkB p = true) (hn : linkB n = true) (d0 : 0 ≤ d) (d1 : d < 65536) : slotRB ⟨(V x).cap,p,n,d⟩ = true:=by
 have h2:=(slotRB_iff (m'.gV_u x)).1
 rw [h.V x h0] at h2
 have h4 : ((V x).cap.ty == 0) = false:=by simpa using ht
 simp only [slotRB,h2,h4,hp,hn,d0,d1,Bool.false_and,Bool.not_false,decide_true,Bool.and_self]
theorem M.To.lk {m m' : M} {V : Int → Slot} {F : Int} (h : M.To m m' V F) {x : Int} (h0 : x ≠ 0) : linkB (V x).prev = true ∧ linkB (V x).next = true ∧ 0 ≤ (V x).depth ∧ (V x).depth < 65536:=by
 have:=gV_links m' x
 rw [h.V x h0] at this
 exact this
theorem M.To.join {m m' : M} {V : Int → Slot} {F : Int} (h : M.To m m' V F) (hl : 4 ≤ m.w.length) {p a n : Int} (hp : p = 0 ∨ (m.gE p = 0 ∧ (V p).cap.ty ≠ 0)) (hn : n = 0 ∨ (m.gE n = 0 ∧ (V n).cap.ty ≠ 0)) (hpn : n = 0 ∨ p ≠ n) (ha : a = 0 ∨ thereB m a = true) :
  M.To m (m'.joinX p a n) (jnV V p a n) (if p = 0 then a else F):=by
 have la : linkB a = true:=by
  rcases ha with rfl | ha
  ·exact link_0
  ·exact link_there ha
 have h1 : M.To m ((if p = 0 then m'.sfX a else m').turnX p fun s => ⟨s.cap,s.prev,a,s.depth⟩) (fun x => if x = p then (V p).toN a else V x) (if p = 0 then a else F):=by
  by_cases hp0 : p = 0
  ·subst hp0
   simp only [if_true]
   exact ((h.sfX hl ha).turn0).val (fun x hx => by simp only [hx,if_false]) rfl
  ·obtain ⟨e1,e2⟩:=hp.resolve_left hp0
   obtain ⟨k1,k2,k3,k4⟩:=h.lk hp0
   simp only [if_neg hp0]
   exact h.turn e1 e2 (h.vlinks hp0 e2 k1 la k3 k4)
 unfold M.joinX
 by_cases hn0 : n = 0
 ·subst hn0
  exact h1.turn0.val (fun x hx => by simp only [jnV,hx,if_false]) rfl
 ·obtain ⟨e1,e2⟩:=hn.resolve_left hn0
  have hne:=hpn.resolve_left hn0
  have ev : (fun x => if x = p then (V p).toN a else V x) n = V n:=by simp only [if_neg (Ne.symm hne)]
  obtain ⟨k1,k2,k3,k4⟩:=h.lk hn0
  have:=h1.turn (x:=n) (g:=fun s => ⟨s.cap,a,s.next,s.depth⟩) e1 (by simp only [if_neg (Ne.symm hne)]; exact e2) (by simp only [if_neg (Ne.symm hne)]; exact h.vlinks hn0 e2 la k2 k3 k4)
  refine this.val (fun x hx => ?_) rfl
  simp only [jnV,if_neg (Ne.symm hne)]
  by_cases c1 : x = n
  ·subst c1
   rw [if_pos rfl,if_neg (Ne.symm hne),if_pos rfl]; rfl
  ·rw [if_neg c1]
   by_cases c2 : x = p
   ·rw [if_pos c2,if_pos c2]
   ·rw [if_neg c2,if_neg c2,if_neg c1]
theorem M.To.nk {m m' : M} {V : Int → Slot} {F : Int} (h : M.To m m' V F) {p a : Int} (hp : m.gE p = 0 ∧ (V p).cap.ty ≠ 0) (ha : a = 0 ∨ thereB m a = true) : M.To m (m'.nkX p a) (fun x => if x = p then (V p).toN a else V x) F:=by
 have la : linkB a = true:=by
  rcases ha with rfl | ha
  ·exact link_0
  ·exact link_there ha
 have h0:=there_ne0 (gE_there hp.1).1
 obtain ⟨k1,k2,k3,k4⟩:=h.lk h0
 unfold M.nkX
 rw [if_pos ((h.E p).trans hp.1),h.V p h0]
 exact (h.gX p).pX hp.1 (h.vlinks h0 hp.2 k1 la k3 k4)
theorem M.To.bk {m m' : M} {V : Int → Slot} {F : Int} (h : M.To m m' V F) {n a : Int} (hn : n = 0 ∨ (m.gE n = 0 ∧ (V n).cap.ty ≠ 0)) (ha : a = 0 ∨ thereB m a = true) : M.To m (m'.bkX a n) (fun x => if x = n then (V n).toP a else V x) F:=by
 have la : linkB a = true:=by
  rcases ha with rfl | ha
  ·exact link_0
  ·exact link_there ha
 by_cases h0 : n = 0
 ·subst h0
  unfold M.bkX
  rw [if_neg fun h => h.1 rfl]
  exact (h.gX 0).val (fun x hx => by simp only [hx,if_false]) rfl
 ·obtain ⟨e1,e2⟩:=hn.resolve_left h0
  obtain ⟨k1,k2,k3,k4⟩:=h.lk h0
  unfold M.bkX
  rw [if_pos ⟨h0,(h.E n).trans e1⟩,h.V n h0]
  exact (h.gX n).pX e1 (h.vlinks h0 e2 la k2 k3 k4)
theorem M.To.lkX {m m' : M} {V : Int → Slot} {F : Int} (h : M.To m m' V F) (hl : 4 ≤ m.w.length) {p a : Int} (hp : p = 0 ∨ (m.gE p = 0 ∧ (V p).cap.ty ≠ 0)) (ha : a = 0 ∨ thereB m a = true) : M.To m (m'.lkX p a) (fun x => if x = p then (V p).toN a else V x) (if p = 0 then a else F):=by
 unfold M.lkX
 by_cases h0 : p = 0
 ·subst h0
  simp only [if_true]
  exact (h.sfX hl ha).val (fun x hx => by simp only [hx,if_false]) rfl
 ·simp only [if_neg h0]
  exact h.nk (hp.resolve_left h0) ha
end Go.Proofs.YtcdfofeolgbnbaaGreat

