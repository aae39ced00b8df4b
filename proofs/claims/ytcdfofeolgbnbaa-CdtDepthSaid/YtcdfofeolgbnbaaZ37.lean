/- CdtEnds: for every input the law's Go function answers true,and its arguments read behind the call as before. No conditions. -/
import Derived.Test.YtcdfofeolgbnbaaZ13
import Derived.Test.YtcdfofeolgbnbaaZ35
import Derived.Test.YtcdfofeolgbnbaaZ36
import Derived.Test.YtcdfofeolgbnbaaZ34
/- Law 11: CdtEnds: the walk. -/
namespace Go.Proofs.Ytcdfofeolgbnbaa
open Go.D
open Nat (reduceAdd reducePow reduceMul reduceSub reduceLeDiff reduceLT reduceEqDiff)
open Int (reduceNeg reduceLE reduceEq reduceNe reduceToNat)
open Go.D renaming istep → zy,pickR → zx,bin1R → zw,un1R → zv,eqS → zu,eq1 → zq,cmpS → zp,cmp1 → zj,isNil → zk,shows → zg,result → zZ,q_cond_t → zV,q_cond_f → zU
open List renaming set → zY,replicate → zX
open Option renaming map → zW
open Nat renaming reduceAdd → zQ,reducePow → yz,reduceMul → yy,reduceSub → yx,reduceLeDiff → yv,reduceLT → yu,reduceEqDiff → yq
open Int renaming reduceNeg → yp,reduceLE → yj,reduceEq → yk,reduceNe → yg,reduceToNat → yZ,reducePow → yY,reduceLT → yX,reduceAdd → yW,reduceSub → yV,reduceMul → yU,reduceBEq → yQ,reduceBNe → xz
set_option linter.all false
set_option maxRecDepth 100000
set_option maxHeartbeats 4000000

structure Wrd where
 a : Int
 w : Int
def Wrd.cl (x : Wrd) : List S:=[.i .i64 x.a, .i .u64 x.w]
theorem Wrd.cl_len (x : Wrd) : x.cl.length = 2:=rfl
theorem Wrd.inj {x y : Wrd} (e : x.cl = y.cl) : x = y:=by
 obtain ⟨a,b⟩:=x
 obtain ⟨a',b'⟩:=y
 simp only [Wrd.cl,List.cons.injEq,S.i.injEq,true_and,and_true] at e
 obtain ⟨rfl,rfl⟩:=e
 rfl
instance : Cells Wrd.cl:=⟨⟨2,Wrd.cl_len⟩,fun x y e => Wrd.inj e⟩
def wrdZ : Wrd:=⟨0,0⟩
def Wrd.u (x : Wrd) : Prop:=u64 x.w
theorem ends_le {m m' : M} {k : Nat} (T : Tk m m' 8256) (h0 : 0 ≤ m.n) (h1 : m.n ≤ 8256 * k) (hk : k ≤ 9) : 0 ≤ m'.n ∧ m'.n ≤ 8256 * ((k + 1 : Nat) : Int) ∧ ¬ 8256 < IntKind.i64.wrap (m'.n - m.n):=by
 obtain ⟨⟨j,hj,e⟩,_⟩:=T
 have hw : IntKind.i64.wrap (m.n + j) = m.n + j:=by rw [wrap64] <;> omega
 rw [hw] at e
 have hw2 : IntKind.i64.wrap (m'.n - m.n) = j:=by rw [e,wrap64] <;> omega
 rw [hw2]
 omega
theorem lis_len {m : M} (h : m.w.length = 2048) : (m.lis.1.getD []).length ≤ 512:=by
 unfold M.lis
 cases e : dsW (-1) (m.w.length / 4) m.fst m.fstX [] with
 | mk o m2 =>
  cases o with
  | none => simp
  | some l =>
   have:=dsW_len _ _ _ _ e
   rw [h] at this
   simpa using this
theorem dsL_len {m : M} (h : m.w.length = 2048) (x : Int) : (m.dsL x).length ≤ 512:=by
 unfold M.dsL M.dsO
 split
 ·cases e : dsW (m.gV x).depth (m.w.length / 4) (m.gV x).next (m.gX x) [] with
  | mk o m2 =>
   cases o with
   | none => simp
   | some l =>
    have:=dsW_len _ _ _ _ e
    rw [h] at this
    simpa using this
 ·simp
theorem erO_nil {o : Option (List Int)} (h : erO o ≠ 0) : erO o = 110 ∧ o.getD [] = []:=by
 cases o with
 | none => exact ⟨rfl,rfl⟩
 | some l => exact absurd rfl h
theorem dsE_nil {m : M} {x : Int} (h : m.dsE x ≠ 0) : m.dsL x = []:=by
 unfold M.dsE at h
 by_cases hf : m.fE x = 0
 ·rw [if_pos hf] at h
  exact (erO_nil h).2
 ·unfold M.dsL M.dsO
  rw [if_neg hf]; rfl
def cdtEndsS : FSpec:=fun args h K => ∃ (s : S) (L : List Wrd) (x : Op),args = [.s s, .agg x.cl] ∧ IsArr Wrd.cl h s L ∧ (∀ x,x ∈ L → x.u) ∧ L.length ≤ 9223372036854775807 ∧ ∀ h',K (.s (.b true)) h'
noncomputable def TEn : Tab:=addT 8 awake11G (addT 9 newM (addT 10 load2G (addT 11 stepsG (addT 12 lisAG (addT 13 dscA (addT 14 nextG (addT 15 lastG (addT 16 belG (addT 17 insG (addT 18 movG (addT 19 swpG (addT 20 remG (noT)))))))))))))
theorem TEn_snd : TEn.Snd Try.prog:=addT_snd ok8 awake11_snd (addT_snd ok9 new_snd (addT_snd ok10 load2_snd (addT_snd ok11 msteps_snd (addT_snd ok12 lisA_snd (addT_snd ok13 dscA_snd (addT_snd ok14 next_snd (addT_snd ok15 last_snd (addT_snd ok16 bel_snd (addT_snd ok17 ins_snd (addT_snd ok18 mov_snd (addT_snd ok19 swp_snd (addT_snd ok20 rem_snd ((noT_snd _))))))))))))))
theorem cdtEnds_snd : Snd Try.prog 3 cdtEndsS:=(fwp_sound (Tab.snd_Γ TEn_snd) mixed Try.func3 dc3).weaken fun args h K hc hS => by
 obtain ⟨s,L,⟨xw,xa,xb,xn⟩,rfl,Hs,hu,l1,hK⟩:=hS
 refine fwp_run (Tab.ok_Γ _) 600 ?_
 have hlen:=fun ls h' => Hs.sl.len (ls:=ls) (h:=h')
 have hkn:=Hs.sl.known
 have hnl:=Hs.sl.noL
 have hd : decide ((11 : Int) ≤ 11) && decide ((11 : Int) ≤ 16) = true:=by decide
 have ht : Int.toNat 11 = 11:=rfl
 by_cases c1 : (2147483647 : Int) < (L.length : Int)
 ·simp (maxSteps:=9999999) only [EV0,zy,zx,zw,zv,zu,zq,zp,zj,zk,leT,zg,rvC,zZ,zY,zX,zW,↓zV,↓zU,reduceCtorEq,zQ,yz,yY,yy,yx,yv,yu,yq,yp,yX,yj,yk,yg,yW,yV,yU,yZ,yQ,xz,df3,TEn,↓hlen,↓hkn,↓hnl,c1,Op.cl,put,fillP]
  exact hK _
 ·have hmo : ∀ (m : M) (X : List Blk),memOf (memH h m ++ X) h.length = some (h.length + 1,m):=fun m X => memOf_eq (memH_is h m).app
  have hset : ∀ (m m' : M) (X : List Blk),setM (memH h m ++ X) h.length (h.length + 1) m' = memH h m' ++ X:=fun m m' X => by rw [setM_app (memH_is h m),memH_set]
  have htk : ∀ (m : M) (X : List Blk),(memH h m ++ X).take (h.length + 2) = memH h m:=fun m X => take_app memH_len
  have hdr : ∀ (m : M) (X : List Blk),(memH h m ++ X).drop (h.length + 2) = X:=fun m X => drop_app memH_len
  have hcl : ∀ m : M,clean (h.length + 2) (memH h m) = true:=fun m => by
   unfold memH
   refine clean_app hc (by omega) ?_
   simp only [clean,List.all_cons,List.all_nil,Bool.and_true,Bool.and_eq_true]
   refine ⟨?_,wc_vals _ _ _⟩
   simp only [MB,vals,List.all_cons,List.all_nil,S.val,R.val,Bool.and_true,decide_eq_true_eq]; omega
  have hmn2 : ∀ {f : Nat → M → (M → List Blk) → List V → Res} (m : M) (rest : List V),memF f (.s (.p (.g h.length) 0) :: rest) (memH h m) = f (h.length + 1) m (memH h) rest:=fun m rest => memF_new
  have hn1 : h.length ≤ h.length + 2:=by omega
  have hmA : ∀ {f : Nat → M → (M → List Blk) → List V → Res} (m : M) (X : List Blk) (rest : List V),memF f (.s (.p (.g h.length) 0) :: rest) (memH h m ++ X) = f (h.length + 1) m (fun m => memH h m ++ X) rest:=fun m X rest => by
   rw [memF_eq ((memH_is h m).app (X:=X)),show setM (memH h m ++ X) h.length (h.length + 1) = fun m => memH h m ++ X from funext fun m' => hset m m' X]
  have hdrp : ∀ (m : M) (X : List Blk) {t t' : List V},leT t' t → t'.all (V.val (h.length + 2) 1) = true → Wk h.length ⟨t,[⟨.rw,[.i .i64 xw, .i .i64 xa, .i .i64 xb, .i .i64 xn],4⟩],memH h m ++ X⟩ ⟨t',[⟨.rw,[.i .i64 xw, .i .i64 xa, .i .i64 xb, .i .i64 xn],4⟩],memH h m⟩:=fun m X t t' h1 h2 =>
   Wk.keepH (h.length + 2) (htk m X) (by rw [memH_len]; omega) h1 (by rw [memH_len]; exact h2) (by rw [memH_len]; exact hcl m) rfl
  simp (maxSteps:=9999999) only [EV0,zy,zx,zw,zv,zu,zq,zp,zj,zk,leT,zg,rvC,zZ,zY,zX,zW,↓zV,↓zU,reduceCtorEq,zQ,yz,yY,yy,yx,yv,yu,yq,yp,yX,yj,yk,yg,yW,yV,yU,yZ,yQ,xz,df3,TEn,awake11G,newM,hd,ht,↓hlen,↓hkn,↓hnl,c1,Op.cl,put,fillP]
  refine loop_rule (α:=Nat × M) [8,31,32,33,34,35,36,37,38,39,40,41,42,43,44,45,46,47,48,49] (fun z => [(8, .s (.i .i64 (z.1 : Int)))]) (fun _ => [⟨.rw,[.i .i64 xw, .i .i64 xa, .i .i64 xb, .i .i64 xn],4⟩]) (fun z => memH h z.2) (fun z => z.1 ≤ L.length ∧ z.2.w.length = 2048 ∧ z.2.n = 0) (fun z => L.length - z.1) (0,z11) ⟨Nat.zero_le _,z11_len,rfl⟩ ?_ ?_
  ·refine Wk.same rfl rfl ?_
   simp (maxSteps:=9999999) only [EV0,zy,zx,zw,zv,zu,zq,zp,zj,zk,leT,zg,rvC,zZ,zY,zX,zW,↓zV,↓zU,reduceCtorEq,zQ,yz,yY,yy,yx,yv,yu,yq,yp,yX,yj,yk,yg,yW,yV,yU,yZ,yQ,xz,Int.natCast_zero]
  ·rintro X ⟨i,m⟩ ⟨hi,hml,hmn⟩ IH
   simp only at hi hml hmn ⊢
   rcases Nat.lt_or_ge i L.length with h1 | h1
   ·obtain ⟨d1,d2,d3,d4⟩:=idx h1 l1
    obtain ⟨j,cc,st,room,hse,hj,hjd⟩:=Hs.at h1
    obtain ⟨⟨ya,yw⟩,hy⟩ : ∃ x,nth wrdZ L i = x:=⟨_,rfl⟩
    have hyu : u64 yw:=by have:=hu _ (nth_mem (d:=wrdZ) h1); rw [hy] at this; exact this
    have hsub : sub (arr Wrd.cl L) (i * 2) 2 = [.i .i64 ya, .i .u64 yw]:=by
     have:=arr_sub Wrd.cl_len h1
     rw [← nth_eq (d:=wrdZ) h1,hy] at this
     exact this
    have g1 : (arr Wrd.cl L)[i * 2]? = some (.i .i64 ya):=by
     have:=congrArg (fun l => l[0]?) hsub
     simp only [sub,List.getElem?_take,List.getElem?_drop] at this
     simpa using this
    have g2 : (arr Wrd.cl L)[i * 2 + 1]? = some (.i .u64 yw):=by
     have:=congrArg (fun l => l[1]?) hsub
     simp only [sub,List.getElem?_take,List.getElem?_drop] at this
     simpa using this
    have hob : ∀ m X,(memH h m ++ X)[j]? = some ⟨st,arr Wrd.cl L,room⟩:=fun m X => by
     have hjl:=(List.getElem?_eq_some_iff.1 hj).1
     rw [List.getElem?_append_left (by rw [memH_len]; omega)]
     unfold memH
     rw [List.getElem?_append_left hjl]; exact hj
    have hob0 : ∀ m,(memH h m)[j]? = some ⟨st,arr Wrd.cl L,room⟩:=fun m => by
     have:=hob m []
     rwa [List.append_nil] at this
    have hLx : ∀ (m : M) (B : Blk),(memH h m ++ [B,⟨.rw,[.i .u64 yw],1⟩])[h.length + 2 + 1]? = some ⟨.rw,wc [yw],1⟩:=fun m B => by
     have : h.length + 2 + 1 = (memH h m).length + 1:=by rw [memH_len]
     rw [this,app_getn]; rfl
    have hLo : ∀ (m : M) (B : Blk),listOf (memH h m ++ [B,⟨.rw,[.i .u64 yw],1⟩]) (.sl (.g (h.length + 2 + 1)) 0 1 1) = some [yw]:=fun m B => listOf_at (hLx m B) (fun x => BK.noConfusion x) rfl
    have hap : apartS (h.length + 1) (.sl (.g (h.length + 2 + 1)) 0 1 1) = True:=eq_true (by simp only [apartS]; omega)
    have hyu2 : (∀ v,v ∈ [yw] → u64 v) = True:=eq_true (by simpa using hyu)
    subst hse
    refine run_sound (Tab.ok_Γ _) 300 _ _ _ _ ?_
    simp (maxSteps:=9999999) only [EV0,zy,zx,zw,zv,zu,zq,zp,zj,zk,leT,zg,rvC,zZ,zY,zX,zW,↓zV,↓zU,reduceCtorEq,zQ,yz,yY,yy,yx,yv,yu,yq,yp,yX,yj,yk,yg,yW,yV,yU,yZ,yQ,xz,TEn,↓hlen,↓hkn,↓hnl,d1,d2,d3,d4,hob,hob0,hjd,g1,g2,Int.toNat_natCast,load2G,hmo,hLo,hap,hyu2,hset,htk,hdr,hcl,memH_len,R.lend,R.unlend,S_ren,C.ren,V.ren,Blk.ren,Nat.add_sub_cancel_left,Nat.not_lt,Nat.le_add_right,Nat.add_lt_add_iff_left,put,fillP]
    refine IH (i + 1,m.loadX ya [yw]) _ (by simp only; omega) ⟨by simp only; omega,by simp only; rw [M.loadX_len]; exact hml,by simp only; rw [M.loadX_n]; exact hmn⟩ ?_
    refine Wk.keep 1 rfl rfl ?_ ?_ rfl
    ·simp (maxSteps:=9999999) only [EV0,zy,zx,zw,zv,zu,zq,zp,zj,zk,leT,zg,rvC,zZ,zY,zX,zW,↓zV,↓zU,reduceCtorEq,zQ,yz,yY,yy,yx,yv,yu,yq,yp,yX,yj,yk,yg,yW,yV,yU,yZ,yQ,xz]
    ·simp (maxSteps:=9999999) only [EV0,zy,zx,zw,zv,zu,zq,zp,zj,zk,leT,zg,rvC,zZ,zY,zX,zW,↓zV,↓zU,reduceCtorEq,zQ,yz,yY,yy,yx,yv,yu,yq,yp,yX,yj,yk,yg,yW,yV,yU,yZ,yQ,xz,S_below]
   ·have e0 : i = L.length:=by omega
    subst e0
    clear IH
    refine run_sound (Tab.ok_Γ _) 300 _ _ _ _ ?_
    simp (maxSteps:=9999999) only [EV0,zy,zx,zw,zv,zu,zq,zp,zj,zk,leT,zg,rvC,zZ,zY,zX,zW,↓zV,↓zU,reduceCtorEq,zQ,yz,yY,yy,yx,yv,yu,yq,yp,yX,yj,yk,yg,yW,yV,yU,yZ,yQ,xz,TEn,↓hlen,↓hkn,↓hnl,Int.lt_irrefl]
    refine loop_rule (α:=Nat × M) [4,10,11,12,13,14,15,16,50,51,52,53,54,55,56,57,58,59,60,61,62,63,64,65,66,67,68,69,70,71,72,73,74,75,76,77,78,79,80,81,82,83,84,85,86,87,88,89,90,91,92,93,94,95,96,97,98,99,100,101,102,103,104,105,106,107,108,109,110,111,112,113,114,115,116,117,118,119,120,121,122,123,124,125,126,127,128,129,130,131,132,133,134,135,136,137,138,139,140,141,142,143,144,145,146,147,148,149,150,151,152,153,154,155,156,157,158,159,160,161,162,163] (fun z => [(10, .s (.i .i64 (z.1 : Int)))]) (fun _ => [⟨.rw,[.i .i64 xw, .i .i64 xa, .i .i64 xb, .i .i64 xn],4⟩]) (fun z => memH h z.2) (fun z => z.1 ≤ 9 ∧ z.2.w.length = 2048 ∧ 0 ≤ z.2.n ∧ z.2.n ≤ 8256 * (z.1 : Int)) (fun z => 9 - z.1) (0,m) ⟨Nat.zero_le _,hml,by simp only [hmn]; decide,by simp only [hmn]; decide⟩ ?_ ?_
    ·refine Wk.same rfl rfl ?_
     simp (maxSteps:=9999999) only [EV0,zy,zx,zw,zv,zu,zq,zp,zj,zk,leT,zg,rvC,zZ,zY,zX,zW,↓zV,↓zU,reduceCtorEq,zQ,yz,yY,yy,yx,yv,yu,yq,yp,yX,yj,yk,yg,yW,yV,yU,yZ,yQ,xz,Int.natCast_zero]
    ·rintro X2 ⟨k,m1⟩ ⟨hk,hml1,hn0,hn9⟩ IH
     simp only at hk hml1 hn0 hn9 ⊢
     have hnb : m1.nb:=⟨by omega,by omega⟩
     by_cases c9 : k = 9
     ·have kk : (k : Int) = 9:=by omega
      clear IH
      refine run_sound (Tab.ok_Γ _) 300 _ _ _ _ ?_
      simp (maxSteps:=9999999) only [EV0,zy,zx,zw,zv,zu,zq,zp,zj,zk,leT,zg,rvC,zZ,zY,zX,zW,↓zV,↓zU,reduceCtorEq,zQ,yz,yY,yy,yx,yv,yu,yq,yp,yX,yj,yk,yg,yW,yV,yU,yZ,yQ,xz,TEn,kk]
      exact hK _
     have kl : (k : Int) < 9:=by omega
     have hsv : s.val (h.length + 2) 1 = true:=Hs.sl.val (by omega)
     have hlt2 : h.length < h.length + 2:=by omega
     have h2k : k ≤ 8:=by omega
     by_cases k0 : k = 0
     ·have kk : (k : Int) = 0:=by omega
      have d4 : IntKind.i64.wrap 1 = ((k + 1 : Nat) : Int):=by rw [wrap64] <;> omega
      have T : Tk m1 (m1.lis.2) 8256:=((Tk.lis hnb).mono (by rw [hml1]; decide))
      obtain ⟨f1,f2,f3⟩:=ends_le T hn0 hn9 hk
      have hl:=lis_len hml1
      have hl2 : ¬ ((512 : Int) < (((m1.lis.1.getD []).length : Nat) : Int)):=by omega
      obtain ⟨m2,hm2⟩ : ∃ m2,m1.lis.2 = m2:=⟨_,rfl⟩
      rw [hm2] at T f1 f2 f3
      by_cases ze : erO m1.lis.1 = 0
      ·refine run_sound (Tab.ok_Γ _) 300 _ _ _ _ ?_
       simp (maxSteps:=9999999) only [EV0,zy,zx,zw,zv,zu,zq,zp,zj,zk,leT,zg,rvC,zZ,zY,zX,zW,↓zV,↓zU,reduceCtorEq,zQ,yz,yY,yy,yx,yv,yu,yq,yp,yX,yj,yk,yg,yW,yV,yU,yZ,yQ,xz,TEn,stepsG,stepsM,hmn2,hmA,lisAG,lisAM,lisA,kk,kl,d4,f3,hm2,ze,hl2,hset,hmo,memH_set,memH_len,slA_known,slA_noL,slA_Cknown,slA_below,↓slA_len,bne,put,fillP]
       intro c _
       refine IH (k + 1,m2) _ (by simp only; omega) ⟨by simp only; omega,T.2.trans hml1,f1,f2⟩ ?_
       refine hdrp m2 _ ?_ ?_
       ·simp (maxSteps:=9999999) only [EV0,zy,zx,zw,zv,zu,zq,zp,zj,zk,leT,zg,rvC,zZ,zY,zX,zW,↓zV,↓zU,reduceCtorEq,zQ,yz,yY,yy,yx,yv,yu,yq,yp,yX,yj,yk,yg,yW,yV,yU,yZ,yQ,xz]
       ·simp (maxSteps:=9999999) only [EV0,zy,zx,zw,zv,zu,zq,zp,zj,zk,leT,zg,rvC,zZ,zY,zX,zW,↓zV,↓zU,reduceCtorEq,zQ,yz,yY,yy,yx,yv,yu,yq,yp,yX,yj,yk,yg,yW,yV,yU,yZ,yQ,xz,S_val,hsv,hlt2,Nat.lt_add_right]
      ·obtain ⟨z1,z2⟩:=erO_nil ze
       have hl3 : ¬ ((0 : Int) < (([] : List Int).length : Int)):=by decide
       refine run_sound (Tab.ok_Γ _) 300 _ _ _ _ ?_
       simp (maxSteps:=9999999) only [EV0,zy,zx,zw,zv,zu,zq,zp,zj,zk,leT,zg,rvC,zZ,zY,zX,zW,↓zV,↓zU,reduceCtorEq,zQ,yz,yY,yy,yx,yv,yu,yq,yp,yX,yj,yk,yg,yW,yV,yU,yZ,yQ,xz,TEn,stepsG,stepsM,hmn2,hmA,lisAG,lisAM,lisA,kk,kl,d4,f3,hm2,z1,z2,hset,hmo,memH_set,memH_len,slA,bkA,bne,put,fillP]
       intros
       refine IH (k + 1,m2) _ (by simp only; omega) ⟨by simp only; omega,T.2.trans hml1,f1,f2⟩ ?_
       exact Wk.same rfl rfl (by simp (maxSteps:=9999999) only [EV0,zy,zx,zw,zv,zu,zq,zp,zj,zk,leT,zg,rvC,zZ,zY,zX,zW,↓zV,↓zU,reduceCtorEq,zQ,yz,yY,yy,yx,yv,yu,yq,yp,yX,yj,yk,yg,yW,yV,yU,yZ,yQ,xz])
     by_cases k1 : k = 1
     ·have kk : (k : Int) = 1:=by omega
      have d4 : IntKind.i64.wrap 2 = ((k + 1 : Nat) : Int):=by rw [wrap64] <;> omega
      have T : Tk m1 ((m1.dsO xa).2) 8256:=((Tk.dsO hnb xa).mono (by rw [hml1]; decide))
      obtain ⟨f1,f2,f3⟩:=ends_le T hn0 hn9 hk
      have hl:=dsL_len hml1 xa
      have hl2 : ¬ ((512 : Int) < (((m1.dsL xa).length : Nat) : Int)):=by omega
      obtain ⟨m2,hm2⟩ : ∃ m2,(m1.dsO xa).2 = m2:=⟨_,rfl⟩
      rw [hm2] at T f1 f2 f3
      by_cases ze : m1.dsE xa = 0
      ·refine run_sound (Tab.ok_Γ _) 300 _ _ _ _ ?_
       simp (maxSteps:=9999999) only [EV0,zy,zx,zw,zv,zu,zq,zp,zj,zk,leT,zg,rvC,zZ,zY,zX,zW,↓zV,↓zU,reduceCtorEq,zQ,yz,yY,yy,yx,yv,yu,yq,yp,yX,yj,yk,yg,yW,yV,yU,yZ,yQ,xz,TEn,stepsG,stepsM,hmn2,hmA,dscA,dscAM,lisA,kk,kl,d4,f3,hm2,ze,hl2,hset,hmo,memH_set,memH_len,slA_known,slA_noL,slA_Cknown,slA_below,↓slA_len,bne,put,fillP]
       intro c _
       refine IH (k + 1,m2) _ (by simp only; omega) ⟨by simp only; omega,T.2.trans hml1,f1,f2⟩ ?_
       refine hdrp m2 _ ?_ ?_
       ·simp (maxSteps:=9999999) only [EV0,zy,zx,zw,zv,zu,zq,zp,zj,zk,leT,zg,rvC,zZ,zY,zX,zW,↓zV,↓zU,reduceCtorEq,zQ,yz,yY,yy,yx,yv,yu,yq,yp,yX,yj,yk,yg,yW,yV,yU,yZ,yQ,xz]
       ·simp (maxSteps:=9999999) only [EV0,zy,zx,zw,zv,zu,zq,zp,zj,zk,leT,zg,rvC,zZ,zY,zX,zW,↓zV,↓zU,reduceCtorEq,zQ,yz,yY,yy,yx,yv,yu,yq,yp,yX,yj,yk,yg,yW,yV,yU,yZ,yQ,xz,S_val,hsv,hlt2,Nat.lt_add_right]
      ·have z2:=dsE_nil ze
       have z1 : (m1.dsE xa == 0) = false:=by simpa using ze
       refine run_sound (Tab.ok_Γ _) 300 _ _ _ _ ?_
       simp (maxSteps:=9999999) only [EV0,zy,zx,zw,zv,zu,zq,zp,zj,zk,leT,zg,rvC,zZ,zY,zX,zW,↓zV,↓zU,reduceCtorEq,zQ,yz,yY,yy,yx,yv,yu,yq,yp,yX,yj,yk,yg,yW,yV,yU,yZ,yQ,xz,TEn,stepsG,stepsM,hmn2,hmA,dscA,dscAM,lisA,kk,kl,d4,f3,hm2,ze,z1,z2,hset,hmo,memH_set,memH_len,slA,bkA,bne,put,fillP]
       intros
       refine IH (k + 1,m2) _ (by simp only; omega) ⟨by simp only; omega,T.2.trans hml1,f1,f2⟩ ?_
       exact Wk.same rfl rfl (by simp (maxSteps:=9999999) only [EV0,zy,zx,zw,zv,zu,zq,zp,zj,zk,leT,zg,rvC,zZ,zY,zX,zW,↓zV,↓zU,reduceCtorEq,zQ,yz,yY,yy,yx,yv,yu,yq,yp,yX,yj,yk,yg,yW,yV,yU,yZ,yQ,xz])
     by_cases k2 : k = 2
     ·have kk : (k : Int) = 2:=by omega
      have d4 : IntKind.i64.wrap 3 = ((k + 1 : Nat) : Int):=by rw [wrap64] <;> omega
      have T : Tk m1 (m1.nxX xa) 8256:=((Tk.nxX hnb xa).mono (by decide))
      obtain ⟨f1,f2,f3⟩:=ends_le T hn0 hn9 hk
      obtain ⟨m2,hm2⟩ : ∃ m2,m1.nxX xa = m2:=⟨_,rfl⟩
      rw [hm2] at T f1 f2 f3
      refine run_sound (Tab.ok_Γ _) 300 _ _ _ _ ?_
      simp (maxSteps:=9999999) only [EV0,zy,zx,zw,zv,zu,zq,zp,zj,zk,leT,zg,rvC,zZ,zY,zX,zW,↓zV,↓zU,reduceCtorEq,zQ,yz,yY,yy,yx,yv,yu,yq,yp,yX,yj,yk,yg,yW,yV,yU,yZ,yQ,xz,TEn,stepsG,stepsM,hmn2,nextG,nextM,kk,kl,d4,f3,hm2,memH_len,bne,put,fillP]
      refine IH (k + 1,m2) _ (by simp only; omega) ⟨by simp only; omega,T.2.trans hml1,f1,f2⟩ ?_
      exact Wk.same rfl rfl (by simp (maxSteps:=9999999) only [EV0,zy,zx,zw,zv,zu,zq,zp,zj,zk,leT,zg,rvC,zZ,zY,zX,zW,↓zV,↓zU,reduceCtorEq,zQ,yz,yY,yy,yx,yv,yu,yq,yp,yX,yj,yk,yg,yW,yV,yU,yZ,yQ,xz])
     by_cases k3 : k = 3
     ·have kk : (k : Int) = 3:=by omega
      have d4 : IntKind.i64.wrap 4 = ((k + 1 : Nat) : Int):=by rw [wrap64] <;> omega
      have T : Tk m1 ((m1.dsO xa).2) 8256:=((Tk.dsO hnb xa).mono (by rw [hml1]; decide))
      obtain ⟨f1,f2,f3⟩:=ends_le T hn0 hn9 hk
      obtain ⟨m2,hm2⟩ : ∃ m2,(m1.dsO xa).2 = m2:=⟨_,rfl⟩
      rw [hm2] at T f1 f2 f3
      refine run_sound (Tab.ok_Γ _) 300 _ _ _ _ ?_
      simp (maxSteps:=9999999) only [EV0,zy,zx,zw,zv,zu,zq,zp,zj,zk,leT,zg,rvC,zZ,zY,zX,zW,↓zV,↓zU,reduceCtorEq,zQ,yz,yY,yy,yx,yv,yu,yq,yp,yX,yj,yk,yg,yW,yV,yU,yZ,yQ,xz,TEn,stepsG,stepsM,hmn2,lastG,lastM,kk,kl,d4,f3,hm2,memH_len,bne,put,fillP]
      refine IH (k + 1,m2) _ (by simp only; omega) ⟨by simp only; omega,T.2.trans hml1,f1,f2⟩ ?_
      exact Wk.same rfl rfl (by simp (maxSteps:=9999999) only [EV0,zy,zx,zw,zv,zu,zq,zp,zj,zk,leT,zg,rvC,zZ,zY,zX,zW,↓zV,↓zU,reduceCtorEq,zQ,yz,yY,yy,yx,yv,yu,yq,yp,yX,yj,yk,yg,yW,yV,yU,yZ,yQ,xz])
     by_cases k4 : k = 4
     ·have kk : (k : Int) = 4:=by omega
      have d4 : IntKind.i64.wrap 5 = ((k + 1 : Nat) : Int):=by rw [wrap64] <;> omega
      have T : Tk m1 ((m1.dsO xa).2) 8256:=((Tk.dsO hnb xa).mono (by rw [hml1]; decide))
      obtain ⟨f1,f2,f3⟩:=ends_le T hn0 hn9 hk
      obtain ⟨m2,hm2⟩ : ∃ m2,(m1.dsO xa).2 = m2:=⟨_,rfl⟩
      rw [hm2] at T f1 f2 f3
      refine run_sound (Tab.ok_Γ _) 300 _ _ _ _ ?_
      simp (maxSteps:=9999999) only [EV0,zy,zx,zw,zv,zu,zq,zp,zj,zk,leT,zg,rvC,zZ,zY,zX,zW,↓zV,↓zU,reduceCtorEq,zQ,yz,yY,yy,yx,yv,yu,yq,yp,yX,yj,yk,yg,yW,yV,yU,yZ,yQ,xz,TEn,stepsG,stepsM,hmn2,belG,belM,kk,kl,d4,f3,hm2,memH_len,bne,put,fillP]
      refine IH (k + 1,m2) _ (by simp only; omega) ⟨by simp only; omega,T.2.trans hml1,f1,f2⟩ ?_
      exact Wk.same rfl rfl (by simp (maxSteps:=9999999) only [EV0,zy,zx,zw,zv,zu,zq,zp,zj,zk,leT,zg,rvC,zZ,zY,zX,zW,↓zV,↓zU,reduceCtorEq,zQ,yz,yY,yy,yx,yv,yu,yq,yp,yX,yj,yk,yg,yW,yV,yU,yZ,yQ,xz])
     by_cases k5 : k = 5
     ·have kk : (k : Int) = 5:=by omega
      have d4 : IntKind.i64.wrap 6 = ((k + 1 : Nat) : Int):=by rw [wrap64] <;> omega
      have T : Tk m1 ((m1.ins xb xa).2) 8256:=((Tk.ins hnb xb xa).mono (by decide))
      obtain ⟨f1,f2,f3⟩:=ends_le T hn0 hn9 hk
      obtain ⟨m2,hm2⟩ : ∃ m2,(m1.ins xb xa).2 = m2:=⟨_,rfl⟩
      rw [hm2] at T f1 f2 f3
      refine run_sound (Tab.ok_Γ _) 300 _ _ _ _ ?_
      simp (maxSteps:=9999999) only [EV0,zy,zx,zw,zv,zu,zq,zp,zj,zk,leT,zg,rvC,zZ,zY,zX,zW,↓zV,↓zU,reduceCtorEq,zQ,yz,yY,yy,yx,yv,yu,yq,yp,yX,yj,yk,yg,yW,yV,yU,yZ,yQ,xz,TEn,stepsG,stepsM,hmn2,insG,insM,kk,kl,d4,f3,hm2,memH_len,bne,put,fillP]
      refine IH (k + 1,m2) _ (by simp only; omega) ⟨by simp only; omega,T.2.trans hml1,f1,f2⟩ ?_
      exact Wk.same rfl rfl (by simp (maxSteps:=9999999) only [EV0,zy,zx,zw,zv,zu,zq,zp,zj,zk,leT,zg,rvC,zZ,zY,zX,zW,↓zV,↓zU,reduceCtorEq,zQ,yz,yY,yy,yx,yv,yu,yq,yp,yX,yj,yk,yg,yW,yV,yU,yZ,yQ,xz])
     by_cases k6 : k = 6
     ·have kk : (k : Int) = 6:=by omega
      have d4 : IntKind.i64.wrap 7 = ((k + 1 : Nat) : Int):=by rw [wrap64] <;> omega
      have T : Tk m1 ((m1.mov xa xb).2) 8256:=((Tk.mov hnb xa xb).mono (by decide))
      obtain ⟨f1,f2,f3⟩:=ends_le T hn0 hn9 hk
      obtain ⟨m2,hm2⟩ : ∃ m2,(m1.mov xa xb).2 = m2:=⟨_,rfl⟩
      rw [hm2] at T f1 f2 f3
      refine run_sound (Tab.ok_Γ _) 300 _ _ _ _ ?_
      simp (maxSteps:=9999999) only [EV0,zy,zx,zw,zv,zu,zq,zp,zj,zk,leT,zg,rvC,zZ,zY,zX,zW,↓zV,↓zU,reduceCtorEq,zQ,yz,yY,yy,yx,yv,yu,yq,yp,yX,yj,yk,yg,yW,yV,yU,yZ,yQ,xz,TEn,stepsG,stepsM,hmn2,movG,movM,kk,kl,d4,f3,hm2,memH_len,bne,put,fillP]
      refine IH (k + 1,m2) _ (by simp only; omega) ⟨by simp only; omega,T.2.trans hml1,f1,f2⟩ ?_
      exact Wk.same rfl rfl (by simp (maxSteps:=9999999) only [EV0,zy,zx,zw,zv,zu,zq,zp,zj,zk,leT,zg,rvC,zZ,zY,zX,zW,↓zV,↓zU,reduceCtorEq,zQ,yz,yY,yy,yx,yv,yu,yq,yp,yX,yj,yk,yg,yW,yV,yU,yZ,yQ,xz])
     by_cases k7 : k = 7
     ·have kk : (k : Int) = 7:=by omega
      have d4 : IntKind.i64.wrap 8 = ((k + 1 : Nat) : Int):=by rw [wrap64] <;> omega
      have T : Tk m1 ((m1.swp xa xb).2) 8256:=((Tk.swp hnb xa xb).mono (by decide))
      obtain ⟨f1,f2,f3⟩:=ends_le T hn0 hn9 hk
      obtain ⟨m2,hm2⟩ : ∃ m2,(m1.swp xa xb).2 = m2:=⟨_,rfl⟩
      rw [hm2] at T f1 f2 f3
      refine run_sound (Tab.ok_Γ _) 300 _ _ _ _ ?_
      simp (maxSteps:=9999999) only [EV0,zy,zx,zw,zv,zu,zq,zp,zj,zk,leT,zg,rvC,zZ,zY,zX,zW,↓zV,↓zU,reduceCtorEq,zQ,yz,yY,yy,yx,yv,yu,yq,yp,yX,yj,yk,yg,yW,yV,yU,yZ,yQ,xz,TEn,stepsG,stepsM,hmn2,swpG,swpM,kk,kl,d4,f3,hm2,memH_len,bne,put,fillP]
      refine IH (k + 1,m2) _ (by simp only; omega) ⟨by simp only; omega,T.2.trans hml1,f1,f2⟩ ?_
      exact Wk.same rfl rfl (by simp (maxSteps:=9999999) only [EV0,zy,zx,zw,zv,zu,zq,zp,zj,zk,leT,zg,rvC,zZ,zY,zX,zW,↓zV,↓zU,reduceCtorEq,zQ,yz,yY,yy,yx,yv,yu,yq,yp,yX,yj,yk,yg,yW,yV,yU,yZ,yQ,xz])
     by_cases k8 : k = 8
     ·have kk : (k : Int) = 8:=by omega
      have d4 : IntKind.i64.wrap 9 = ((k + 1 : Nat) : Int):=by rw [wrap64] <;> omega
      have T : Tk m1 ((m1.rem xa).2) 8256:=((Tk.rem hnb xa).mono (by rw [hml1]; decide))
      obtain ⟨f1,f2,f3⟩:=ends_le T hn0 hn9 hk
      obtain ⟨m2,hm2⟩ : ∃ m2,(m1.rem xa).2 = m2:=⟨_,rfl⟩
      rw [hm2] at T f1 f2 f3
      refine run_sound (Tab.ok_Γ _) 300 _ _ _ _ ?_
      simp (maxSteps:=9999999) only [EV0,zy,zx,zw,zv,zu,zq,zp,zj,zk,leT,zg,rvC,zZ,zY,zX,zW,↓zV,↓zU,reduceCtorEq,zQ,yz,yY,yy,yx,yv,yu,yq,yp,yX,yj,yk,yg,yW,yV,yU,yZ,yQ,xz,TEn,stepsG,stepsM,hmn2,remG,remM,kk,kl,d4,f3,hm2,memH_len,bne,put,fillP]
      refine IH (k + 1,m2) _ (by simp only; omega) ⟨by simp only; omega,T.2.trans hml1,f1,f2⟩ ?_
      exact Wk.same rfl rfl (by simp (maxSteps:=9999999) only [EV0,zy,zx,zw,zv,zu,zq,zp,zj,zk,leT,zg,rvC,zZ,zY,zX,zW,↓zV,↓zU,reduceCtorEq,zQ,yz,yY,yy,yx,yv,yu,yq,yp,yX,yj,yk,yg,yW,yV,yU,yZ,yQ,xz])
     exact absurd h2k (by omega)
end Go.Proofs.Ytcdfofeolgbnbaa

/- CdtEnds: for every input the law's Go function answers true,and its arguments read behind the call as before. No conditions. -/
namespace Go.Proofs.Ytcdfofeolgbnbaa
open Go.D
set_option linter.all false
set_option maxRecDepth 100000

def WrdT : List TY:=[.int .i64, .int .u64]
theorem hasTs_wrd11 {h : List Blk} {ss : List S} (H0 : hasTs h WrdT ss) : ∃ o : Wrd,ss = o.cl ∧ o.u:=by
 unfold WrdT at H0
 obtain ⟨_,_,rfl,⟨x0,rfl,h0⟩,H1⟩:=hasTs_cons H0
 obtain ⟨_,_,rfl,⟨x1,rfl,h1⟩,H2⟩:=hasTs_cons H1
 obtain rfl:=hasTs_nil H2
 exact ⟨⟨x0,x1⟩,rfl,u64_wf h1⟩
theorem cdtEnds_law : Law cdtEndsS [(false,[.slice WrdT]),(true,OpT)]:=by
 intro h us H hc
 obtain ⟨_,_,rfl,H1,H⟩:=lawC H
 obtain ⟨_,_,rfl,H2,H⟩:=lawC H
 obtain rfl:=lawN H
 obtain ⟨s,L,rfl,e1,e2,e3⟩:=hasV_slice (c:=Wrd.cl) (p:=Wrd.u) (fun ss h => hasTs_wrd11 h) H1
 obtain ⟨ss,rfl,Hx⟩:=H2
 obtain ⟨x,rfl,hx⟩:=hasTs_op11 Hx
 exact ⟨s,L,x,rfl,e1,e2,by omega,fun _ => rfl⟩
theorem cdtEnds_row : RowOk Try.prog 3 Try.f3 Rows.cdtEndsSpec [(false,[.slice WrdT]),(true,OpT)] where
 own:=own
 noTabs:=rfl
 noInit:=by kernel_rfl
 isf:=Try.func3
 laid:=laid
 rowed:=rowed
 full:=full
 params:=by kernel_rfl
 vars:=rfl
 ret:=⟨_,rfl,by kernel_rfl⟩
 spec:=fun H ds e => by
  match ds,e with
  | [_,_],_ => rfl
 tys:=⟨20,by kernel_rfl⟩
theorem cdtEnds_holds : Rows.CdtEndsSaid :=
 OpenClaim.holds_of_wide 3 Try.f3 rfl rfl rfl rfl rfl rfl rfl ⟨rfl,rfl,rfl,rfl,rfl⟩ rfl rfl rfl rfl rfl (by kernel_rfl) Try.func3 (by kernel_rfl)
  (of_decide_eq_true (by kernel_rfl)) (by unfold Func.isWrapper; first | (rw [if_pos (by decide +kernel)]; kernel_rfl) | (rw [if_neg (by decide +kernel)]; exact ⟨rfl,rfl⟩))
  (fun os started H enc _ => cdtEnds_row.lifted (C:=Try.checked) cdtEnds_snd cdtEnds_law started (ChangeSpec.witness6 (enc:=enc) (C:=Try.checked) false ⟨#[], #[.slice none 0 0, .agg #[.int .i64 0, .int .i64 0, .int .i64 0, .int .i64 0]],[]⟩ 8 (by kernel_rfl) (by kernel_rfl) (by kernel_rfl) (by kernel_rfl)))
end Go.Proofs.Ytcdfofeolgbnbaa

