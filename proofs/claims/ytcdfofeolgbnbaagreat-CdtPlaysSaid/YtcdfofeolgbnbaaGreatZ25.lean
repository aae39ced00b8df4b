/- slices.Index and Contains of ints; package cdt: Next,Below,Last. -/
import Derived.Test.YtcdfofeolgbnbaaGreatZ13
import Derived.Test.YtcdfofeolgbnbaaGreatZ23
import Derived.Test.YtcdfofeolgbnbaaGreatZ24
/- slices.Index and Contains of ints; package cdt: Next,Below,Last. -/
namespace Go.Proofs.YtcdfofeolgbnbaaGreat
open Go.D
open Nat (reduceAdd reducePow reduceMul reduceSub reduceLeDiff reduceLT reduceEqDiff)
open Int (reduceNeg reduceLE reduceEq reduceNe reduceToNat)
open Go.D renaming istep → zy,pickR → zx,bin1R → zw,un1R → zv,eqS → zu,eq1 → zq,cmpS → zp,cmp1 → zj,isNil → zk,shows → zg,result → zZ,q_cond_t → zV,q_cond_f → zU
open List renaming set → zY,replicate → zX
open Option renaming map → zW
open Nat renaming reduceAdd → zQ,reducePow → yz,reduceMul → yy,reduceSub → yx,reduceLeDiff → yw,reduceLT → yv,reduceEqDiff → yu
open Int renaming reduceNeg → yq,reduceLE → yj,reduceEq → yk,reduceNe → yg,reduceToNat → yZ,reducePow → yY,reduceLT → yX,reduceAdd → yW,reduceSub → yV,reduceMul → yU,reduceBEq → yQ,reduceBNe → xz
set_option linter.all false
set_option maxRecDepth 100000
set_option maxHeartbeats 8000000

theorem arr_ints : ∀ l : List Int,arr In.c l = intsB l
 | [] => rfl
 | x :: l => by simp only [arr,In.c,arr_ints l,intsB,List.map_cons]; rfl
theorem intsOf_at {h : List Blk} {j c room : Nat} {l : List Int} (hj : h[j]? = some ⟨.rw,intsB l,room⟩) : arrOf In.c h (.sl (.g j) 0 l.length c) = some l:=arrOf_eq (.inr ⟨j,c, .rw,room,rfl,by rw [arr_ints]; exact hj,fun _ h => by cases h⟩)
theorem intsOf_ns {h : List Blk} : arrOf In.c h .ns = some []:=arrOf_eq (.inl ⟨.inl rfl,rfl⟩)
theorem intsB_get {l : List Int} {i : Nat} (h : i < l.length) : (intsB l)[i]? = some (.i .i64 (nth 0 l i)):=by
 unfold intsB
 rw [List.getElem?_map,List.getElem?_eq_getElem h,← nth_eq h]; rfl
def ixOf (x : Int) (l : List Int) : Int:=if x ∈ l then (l.idxOf x : Int) else -1
noncomputable def indexG : List V → List Blk → Res
 | [.s s, .s (.i .i64 x)],h => match arrOf In.c h s with
  | some l => .ob (l.length ≤ 8796093022208) (.ok (.s (.i .i64 (ixOf x l))) [] h)
  | none => .bad
 | _,_ => .bad
theorem indexG_spec {args : List V} {h : List Blk} {K : V → List Blk → Prop} (hS : (indexG args h).spec K) : ∃ s x l,args = [.s s, .s (.i .i64 x)] ∧ IsArr In.c h s l ∧ l.length ≤ 8796093022208 ∧ K (.s (.i .i64 (ixOf x l))) h:=by
 unfold indexG at hS
 split at hS
 ·split at hS
  ·rename_i e1
   exact ⟨_,_,_,rfl,arrOf_some e1,hS.1,hS.2⟩
  ·exact hS.elim
 ·exact hS.elim
theorem ixOf_at {x : Int} {l : List Int} {i : Nat} (hi : i < l.length) (hn : x ∉ l.take i) (e : x = nth 0 l i) : ixOf x l = (i : Int):=by
 have hx : x ∈ l:=by rw [e,nth_eq hi]; exact List.getElem_mem hi
 unfold ixOf
 rw [if_pos hx]
 have e1 : l = l.take i ++ x :: l.drop (i + 1):=by
  rw [e,nth_eq hi,List.getElem_cons_drop,List.take_append_drop]
 have : l.idxOf x = i:=by
  rw [e1,List.idxOf_append,if_neg hn,List.idxOf_cons_self,List.length_take]
  omega
 rw [this]
theorem not_take {x : Int} {l : List Int} {i : Nat} (hi : i < l.length) (hn : x ∉ l.take i) (e : ¬ x = nth 0 l i) : x ∉ l.take (i + 1):=by
 rw [List.take_add_one,List.getElem?_eq_getElem hi,Option.toList_some,List.mem_append,List.mem_singleton,← nth_eq hi (d:=0)]
 rintro (h | h)
 ·exact hn h
 ·exact e h
theorem index_snd : Snd Tryz.prog 159 (FSpec.of indexG):=snd_run (noT_snd _) mixed Tryz.func159 dc159 100 fun args h K hc hS => by
 obtain ⟨s,x,l,rfl,Hs,hl,hK⟩:=indexG_spec hS
 clear hS
 have hlen:=fun ls h' => Hs.sl.len (ls:=ls) (h:=h')
 simp (maxSteps:=9999999) only [EV0,zy,zx,zw,zv,zu,zq,zp,zj,zk,leT,zg,rvC,zZ,zY,zX,zW,↓zV,↓zU,reduceCtorEq,zQ,yz,yY,yy,yx,yw,yv,yu,yq,yX,yj,yk,yg,yW,yV,yU,yZ,yQ,xz,df159,↓hlen]
 refine loop_rule (α:=Nat) [4,5,8,9,10,11,12,13,14,15,16,17,18] (fun q => [(8, .s (.i .i64 (q : Int)))]) (fun _ => []) (fun _ => h) (fun q => q ≤ l.length ∧ x ∉ l.take q) (fun q => l.length - q) 0 ⟨Nat.zero_le _,by simp⟩ ?_ ?_
 ·refine Wk.less ?_
  simp (maxSteps:=9999999) only [EV0,zy,zx,zw,zv,zu,zq,zp,zj,zk,leT,zg,rvC,zZ,zY,zX,zW,↓zV,↓zU,reduceCtorEq,zQ,yz,yY,yy,yx,yw,yv,yu,yq,yX,yj,yk,yg,yW,yV,yU,yZ,yQ,xz,Int.natCast_zero]
 ·rintro X q ⟨hq,hn⟩ IH
  rcases Nat.lt_or_ge q l.length with h1 | h1
  ·obtain ⟨j,c',st,room,rfl,hj,hd⟩:=Hs.at h1
   obtain ⟨d1,d2,d3,d4⟩:=idx h1 (by omega)
   rw [arr_ints] at hj
   have g1:=intsB_get h1
   by_cases e : x = nth 0 l q
   ·have e1:=ixOf_at h1 hn e
    rw [e1] at hK
    refine run_sound (Tab.ok_Γ _) 100 _ _ _ _ ?_
    simp (maxSteps:=9999999) only [EV0,zy,zx,zw,zv,zu,zq,zp,zj,zk,leT,zg,rvC,zZ,zY,zX,zW,↓zV,↓zU,reduceCtorEq,zQ,yz,yY,yy,yx,yw,yv,yu,yq,yX,yj,yk,yg,yW,yV,yU,yZ,yQ,xz,d1,d2,d3,d4,g1,hj,hd,e,Int.toNat_natCast]
    exact hK
   ·have e1 : (x == nth 0 l q) = false:=by simpa using e
    refine run_sound (Tab.ok_Γ _) 100 _ _ _ _ ?_
    simp (maxSteps:=9999999) only [EV0,zy,zx,zw,zv,zu,zq,zp,zj,zk,leT,zg,rvC,zZ,zY,zX,zW,↓zV,↓zU,reduceCtorEq,zQ,yz,yY,yy,yx,yw,yv,yu,yq,yX,yj,yk,yg,yW,yV,yU,yZ,yQ,xz,d1,d2,d3,d4,g1,hj,hd,e1,e,Int.toNat_natCast]
    exact IH (q + 1) _ (by omega) ⟨by omega,not_take h1 hn e⟩ (Wk.same rfl rfl (by simp (maxSteps:=9999999) only [EV0,zy,zx,zw,zv,zu,zq,zp,zj,zk,leT,zg,rvC,zZ,zY,zX,zW,↓zV,↓zU,reduceCtorEq,zQ,yz,yY,yy,yx,yw,yv,yu,yq,yX,yj,yk,yg,yW,yV,yU,yZ,yQ,xz]))
  ·have e0 : q = l.length:=by omega
   subst e0
   rw [List.take_length] at hn
   have e1 : ixOf x l = -1:=by unfold ixOf; rw [if_neg hn]
   rw [e1] at hK
   refine run_sound (Tab.ok_Γ _) 100 _ _ _ _ ?_
   simp (maxSteps:=9999999) only [EV0,zy,zx,zw,zv,zu,zq,zp,zj,zk,leT,zg,rvC,zZ,zY,zX,zW,↓zV,↓zU,reduceCtorEq,zQ,yz,yY,yy,yx,yw,yv,yu,yq,yX,yj,yk,yg,yW,yV,yU,yZ,yQ,xz,↓hlen,Int.lt_irrefl]
   exact hK
noncomputable def containsG : List V → List Blk → Res
 | [.s s, .s (.i .i64 x)],h => match arrOf In.c h s with
  | some l => .ob (l.length ≤ 8796093022208) (.ok (.s (.b (decide (x ∈ l)))) [] h)
  | none => .bad
 | _,_ => .bad
theorem containsG_spec {args : List V} {h : List Blk} {K : V → List Blk → Prop} (hS : (containsG args h).spec K) : ∃ s x l,args = [.s s, .s (.i .i64 x)] ∧ IsArr In.c h s l ∧ l.length ≤ 8796093022208 ∧ K (.s (.b (decide (x ∈ l)))) h:=by
 unfold containsG at hS
 split at hS
 ·split at hS
  ·rename_i e1
   exact ⟨_,_,_,rfl,arrOf_some e1,hS.1,hS.2⟩
  ·exact hS.elim
 ·exact hS.elim
noncomputable def TCo : Tab:=addT 159 indexG noT
theorem TCo_snd : TCo.Snd Tryz.prog:=addT_snd ok159 index_snd (noT_snd _)
theorem contains_snd : Snd Tryz.prog 97 (FSpec.of containsG):=snd_run TCo_snd mixed Tryz.func97 dc97 100 fun args h K hc hS => by
 obtain ⟨s,x,l,rfl,Hs,hl,hK⟩:=containsG_spec hS
 clear hS
 have hkn:=Hs.sl.known
 have hnl:=Hs.sl.noL
 have e:=arrOf_eq Hs
 have hv : decide (0 ≤ ixOf x l) = decide (x ∈ l):=by
  unfold ixOf
  by_cases hx : x ∈ l
  ·rw [if_pos hx]; simp [hx]
  ·rw [if_neg hx]; simp [hx]
 obtain ⟨b,hb⟩ : ∃ b,decide (x ∈ l) = b:=⟨_,rfl⟩
 rw [hb] at hK hv
 simp (maxSteps:=9999999) only [EV0,zy,zx,zw,zv,zu,zq,zp,zj,zk,leT,zg,rvC,zZ,zY,zX,zW,↓zV,↓zU,reduceCtorEq,zQ,yz,yY,yy,yx,yw,yv,yu,yq,yX,yj,yk,yg,yW,yV,yU,yZ,yQ,xz,df97,TCo,indexG,e,hl,↓hkn,↓hnl,hv]
 exact hK

/-! ### Next -/
def M.nxV (m : M) (a : Int) : Int:=if m.fE a = 0 then (if (m.gV a).next = 0 then 0 else if m.fE (m.gV a).next = 0 then (if (m.gV (m.gV a).next).depth ≤ (m.gV a).depth then 0 else (m.gV a).next) else 0) else 0
def M.nxX (m : M) (a : Int) : M:=if m.fE a = 0 then (if (m.gV a).next = 0 then m.gX a else (m.gX a).gX (m.gV a).next) else m.gX a
def nextM (b : Nat) (m : M) (st : M → List Blk) : List V → Res
 | [.s (.i .i64 x)] => .ok (.s (.i .i64 (m.nxV x))) [] (st (m.nxX x))
 | _ => .bad
noncomputable def nextG:=memF nextM
noncomputable def TNx : Tab:=addT 74 fullG (noT)
theorem TNx_snd : TNx.Snd Tryz.prog:=addT_snd ok74 full_snd ((noT_snd _))
theorem next_snd : Snd Tryz.prog 41 (FSpec.of nextG):=snd_run TNx_snd mixed Tryz.func41 dc41 200 fun args h K hc hS => by
 obtain ⟨a,b,m,rest,rfl,H,hS1⟩:=memF_spec (f:=nextM) hS
 clear hS
 have hS:=hS1
 clear hS1
 unfold nextM at hS
 split at hS
 ·rename_i x
  simp only [spec_ok,M.nxV,M.nxX] at hS
  obtain ⟨⟨⟨c0,c1,c2,c3,c4,c5,c6,c7,c8,c9,c10⟩,p0,q0,r0⟩,hs⟩ : ∃ s,m.gV x = s:=⟨_,rfl⟩
  obtain ⟨⟨⟨d0,d1,d2,d3,d4,d5,d6,d7,d8,d9,d10⟩,p1,q1,r1⟩,ht⟩ : ∃ s,m.gV q0 = s:=⟨_,rfl⟩
  simp only [hs,ht] at hS
  by_cases hf : m.fE x = 0
  ·rw [if_pos hf,if_pos hf] at hS
   by_cases hn : q0 = 0
   ·rw [if_pos hn,if_pos hn] at hS
    have hn' : (q0 == 0) = true:=by simpa using hn
    simp (maxSteps:=9999999) only [EV0,zy,zx,zw,zv,zu,zq,zp,zj,zk,leT,zg,rvC,zZ,zY,zX,zW,↓zV,↓zU,reduceCtorEq,zQ,yz,yY,yy,yx,yw,yv,yu,yq,yX,yj,yk,yg,yW,yV,yU,yZ,yQ,xz,df41,TNx,fullG,memF_eq H,memF_set H,fullM,hs,hf,hn',bne,Slot.cl,Cap.cl,put,fillP,sub,EVt]
    exact hS
   ·rw [if_neg hn,if_neg hn] at hS
    have hn' : (q0 == 0) = false:=by simpa using hn
    by_cases hg : m.fE q0 = 0
    ·rw [if_pos hg] at hS
     by_cases hd : r1 ≤ r0
     ·rw [if_pos hd] at hS
      simp (maxSteps:=9999999) only [EV0,zy,zx,zw,zv,zu,zq,zp,zj,zk,leT,zg,rvC,zZ,zY,zX,zW,↓zV,↓zU,reduceCtorEq,zQ,yz,yY,yy,yx,yw,yv,yu,yq,yX,yj,yk,yg,yW,yV,yU,yZ,yQ,xz,df41,TNx,fullG,memF_eq H,memF_set H,fullM,hs,ht,hf,hn',hg,hd,gX_fE,gX_gV,bne,Slot.cl,Cap.cl,put,fillP,sub,EVt]
      exact hS
     ·rw [if_neg hd] at hS
      simp (maxSteps:=9999999) only [EV0,zy,zx,zw,zv,zu,zq,zp,zj,zk,leT,zg,rvC,zZ,zY,zX,zW,↓zV,↓zU,reduceCtorEq,zQ,yz,yY,yy,yx,yw,yv,yu,yq,yX,yj,yk,yg,yW,yV,yU,yZ,yQ,xz,df41,TNx,fullG,memF_eq H,memF_set H,fullM,hs,ht,hf,hn',hg,hd,gX_fE,gX_gV,bne,Slot.cl,Cap.cl,put,fillP,sub,EVt]
      exact hS
    ·rw [if_neg hg] at hS
     have hg' : (m.fE q0 == 0) = false:=by simpa using hg
     simp (maxSteps:=9999999) only [EV0,zy,zx,zw,zv,zu,zq,zp,zj,zk,leT,zg,rvC,zZ,zY,zX,zW,↓zV,↓zU,reduceCtorEq,zQ,yz,yY,yy,yx,yw,yv,yu,yq,yX,yj,yk,yg,yW,yV,yU,yZ,yQ,xz,df41,TNx,fullG,memF_eq H,memF_set H,fullM,hs,ht,hf,hn',hg',hg,gX_fE,gX_gV,bne,Slot.cl,Cap.cl,put,fillP,sub,EVt]
     exact hS
  ·rw [if_neg hf,if_neg hf] at hS
   have hf' : (m.fE x == 0) = false:=by simpa using hf
   simp (maxSteps:=9999999) only [EV0,zy,zx,zw,zv,zu,zq,zp,zj,zk,leT,zg,rvC,zZ,zY,zX,zW,↓zV,↓zU,reduceCtorEq,zQ,yz,yY,yy,yx,yw,yv,yu,yq,yX,yj,yk,yg,yW,yV,yU,yZ,yQ,xz,df41,TNx,fullG,memF_eq H,memF_set H,fullM,hs,hf,hf',bne,Slot.cl,Cap.cl,put,fillP,sub,EVt]
   exact hS
 ·exact hS.elim

/-! ### Below,Last -/
def M.dsO (m : M) (x : Int) : Option (List Int) × M:=if m.fE x = 0 then dsW (m.gV x).depth (m.w.length / 4) (m.gV x).next (m.gX x) [] else (none,m.gX x)
def M.dsL (m : M) (x : Int) : List Int:=(m.dsO x).1.getD []
def belM (b : Nat) (m : M) (st : M → List Blk) : List V → Res
 | [.s (.i .i64 x), .s (.i .i64 y)] => .ok (.s (.b (decide (y ∈ m.dsL x)))) [] (st (m.dsO x).2)
 | _ => .bad
noncomputable def belG:=memF belM
def lastM (b : Nat) (m : M) (st : M → List Blk) : List V → Res
 | [.s (.i .i64 x)] => .ok (.s (.i .i64 ((m.dsL x).getLastD 0))) [] (st (m.dsO x).2)
 | _ => .bad
noncomputable def lastG:=memF lastM
theorem dsW_len {d : Int} : ∀ (k : Nat) (x : Int) (m : M) (l : List Int) {l' : List Int} {m' : M},dsW d k x m l = (some l',m') → l'.length ≤ l.length + k
 | 0,x,m,l,l',m',h => by
  simp only [dsW] at h
  split at h
  ·simp only [Prod.mk.injEq,Option.some.injEq] at h; rw [← h.1]; omega
  ·simp at h
 | k + 1,x,m,l,l',m',h => by
  simp only [dsW] at h
  split at h
  ·simp only [Prod.mk.injEq,Option.some.injEq] at h; rw [← h.1]; omega
  ·split at h
   ·split at h
    ·simp only [Prod.mk.injEq,Option.some.injEq] at h; rw [← h.1]; omega
    ·have:=dsW_len k _ _ _ h
     simp only [List.length_append,List.length_cons,List.length_nil] at this
     omega
   ·simp at h
noncomputable def TBe : Tab:=addT 47 dscG (noT)
theorem TBe_snd : TBe.Snd Tryz.prog:=addT_snd ok47 dsc_snd ((noT_snd _))
noncomputable def TBl : Tab:=addT 97 containsG TBe
theorem TBl_snd : TBl.Snd Tryz.prog:=addT_snd ok97 contains_snd TBe_snd
theorem drop_b {q : Bool} {t : List V} {ls h X : List Blk} (ht : leT [.s (.b q)] t) (hc : clean h.length h = true) {n0 : Nat} (hn : n0 ≤ h.length) : Wk n0 ⟨t,ls,h ++ X⟩ ⟨[.s (.b q)],[],h⟩ :=
 .trans (Wk.keep 0 (ls:=[]) (t':=[.s (.b q)]) rfl rfl ht (by rfl) (by rfl)) (Wk.keepH h.length (by simp) hn (by simp (maxSteps:=9999999) only [EV0,zy,zx,zw,zv,zu,zq,zp,zj,zk,leT,zg,rvC,zZ,zY,zX,zW,↓zV,↓zU,reduceCtorEq,zQ,yz,yY,yy,yx,yw,yv,yu,yq,yX,yj,yk,yg,yW,yV,yU,yZ,yQ,xz]) (by rfl) hc (by rfl))
theorem drop_i {q : Int} {t : List V} {ls h X : List Blk} (ht : leT [.s (.i .i64 q)] t) (hc : clean h.length h = true) {n0 : Nat} (hn : n0 ≤ h.length) : Wk n0 ⟨t,ls,h ++ X⟩ ⟨[.s (.i .i64 q)],[],h⟩ :=
 .trans (Wk.keep 0 (ls:=[]) (t':=[.s (.i .i64 q)]) rfl rfl ht (by rfl) (by rfl)) (Wk.keepH h.length (by simp) hn (by simp (maxSteps:=9999999) only [EV0,zy,zx,zw,zv,zu,zq,zp,zj,zk,leT,zg,rvC,zZ,zY,zX,zW,↓zV,↓zU,reduceCtorEq,zQ,yz,yY,yy,yx,yw,yv,yu,yq,yX,yj,yk,yg,yW,yV,yU,yZ,yQ,xz]) (by rfl) hc (by rfl))
theorem bel_snd : Snd Tryz.prog 31 (FSpec.of belG):=(fwp_sound (Tab.snd_Γ TBl_snd) mixed Tryz.func31 dc31).weaken fun args h K hc hS => by
 refine fwp_runW (Tab.ok_Γ _) 200 ?_
 obtain ⟨a,b,m,rest,rfl,H,hS1⟩:=memF_spec (f:=belM) hS
 clear hS
 have hS:=hS1
 clear hS1
 unfold belM at hS
 split at hS
 ·rename_i x y
  simp only [spec_ok] at hS
  have hlm : ∀ m2,(setM h a b m2).length = h.length:=fun _ => setM_len
  have hcm : ∀ m2,clean (setM h a b m2).length (setM h a b m2) = true:=fun _ => by rw [setM_len]; exact setM_clean H hc H.ltb
  have hml:=m.l
  by_cases hf : m.fE x = 0
  ·obtain ⟨o,ho⟩ : ∃ o,dsW (m.gV x).depth (m.w.length / 4) (m.gV x).next (m.gX x) [] = o:=⟨_,rfl⟩
   have hO : m.dsO x = o:=by unfold M.dsO; rw [if_pos hf,ho]
   have hL : m.dsL x = o.1.getD []:=by unfold M.dsL; rw [hO]
   rw [hL,hO] at hS
   clear hL hO
   rcases o with ⟨_ | _ | ⟨z,l⟩,m2⟩
   ·simp (maxSteps:=9999999) only [EV0,zy,zx,zw,zv,zu,zq,zp,zj,zk,leT,zg,rvC,zZ,zY,zX,zW,↓zV,↓zU,reduceCtorEq,zQ,yz,yY,yy,yx,yw,yv,yu,yq,yX,yj,yk,yg,yW,yV,yU,yZ,yQ,xz,df31,TBl,TBe,dscG,memF_eq H,memF_set H,dscM,dscR,hf,ho,containsG,intsOf_ns,List.not_mem_nil]
    exact fin_of (v:=.s (.b false)) (ls:=[]) (h:=setM h a b m2) rfl (Wk.keep 0 rfl rfl (by simp (maxSteps:=9999999) only [EV0,zy,zx,zw,zv,zu,zq,zp,zj,zk,leT,zg,rvC,zZ,zY,zX,zW,↓zV,↓zU,reduceCtorEq,zQ,yz,yY,yy,yx,yw,yv,yu,yq,yX,yj,yk,yg,yW,yV,yU,yZ,yQ,xz]) (by rfl) (by rfl)) (by simp (maxSteps:=9999999) only [EV0,zy,zx,zw,zv,zu,zq,zp,zj,zk,leT,zg,rvC,zZ,zY,zX,zW,↓zV,↓zU,reduceCtorEq,zQ,yz,yY,yy,yx,yw,yv,yu,yq,yX,yj,yk,yg,yW,yV,yU,yZ,yQ,xz]; exact hS)
   ·simp (maxSteps:=9999999) only [EV0,zy,zx,zw,zv,zu,zq,zp,zj,zk,leT,zg,rvC,zZ,zY,zX,zW,↓zV,↓zU,reduceCtorEq,zQ,yz,yY,yy,yx,yw,yv,yu,yq,yX,yj,yk,yg,yW,yV,yU,yZ,yQ,xz,df31,TBl,TBe,dscG,memF_eq H,memF_set H,dscM,dscR,hf,ho,containsG,intsOf_ns,List.not_mem_nil]
    exact fin_of (v:=.s (.b false)) (ls:=[]) (h:=setM h a b m2) rfl (Wk.keep 0 rfl rfl (by simp (maxSteps:=9999999) only [EV0,zy,zx,zw,zv,zu,zq,zp,zj,zk,leT,zg,rvC,zZ,zY,zX,zW,↓zV,↓zU,reduceCtorEq,zQ,yz,yY,yy,yx,yw,yv,yu,yq,yX,yj,yk,yg,yW,yV,yU,yZ,yQ,xz]) (by rfl) (by rfl)) (by simp (maxSteps:=9999999) only [EV0,zy,zx,zw,zv,zu,zq,zp,zj,zk,leT,zg,rvC,zZ,zY,zX,zW,↓zV,↓zU,reduceCtorEq,zQ,yz,yY,yy,yx,yw,yv,yu,yq,yX,yj,yk,yg,yW,yV,yU,yZ,yQ,xz]; exact hS)
   ·have hl:=dsW_len _ _ _ _ ho
    have w5 : ∀ c,(setM h a b m2 ++ [⟨.rw,intsB (z :: l),c⟩])[(setM h a b m2).length]? = some (⟨.rw,intsB (z :: l),c⟩ : Blk):=fun c => by simp
    have hA : ∀ c,arrOf In.c (setM h a b m2 ++ [⟨.rw,intsB (z :: l),c⟩]) (.sl (.g (setM h a b m2).length) 0 (l.length + 1) c) = some (z :: l):=fun c => intsOf_at (w5 c)
    have hl2 : (z :: l).length ≤ 8796093022208:=by simp only [List.length_nil] at hl; omega
    simp only [Option.getD_some] at hS
    obtain ⟨ys,hys⟩ : ∃ ys,decide (y ∈ z :: l) = ys:=⟨_,rfl⟩
    rw [hys] at hS
    simp (maxSteps:=9999999) only [EV0,zy,zx,zw,zv,zu,zq,zp,zj,zk,leT,zg,rvC,zZ,zY,zX,zW,↓zV,↓zU,reduceCtorEq,zQ,yz,yY,yy,yx,yw,yv,yu,yq,yX,yj,yk,yg,yW,yV,yU,yZ,yQ,xz,df31,TBl,TBe,dscG,memF_eq H,memF_set H,dscM,dscR,hf,ho,containsG,hA,hys,hl2]
    intro c hc'
    refine ⟨by simp only [List.length_cons] at hl2; omega, ?_⟩
    refine fin_of (v:=.s (.b ys)) (ls:=[]) (h:=setM h a b m2) rfl ?_ ?_
    ·exact drop_b (by simp (maxSteps:=9999999) only [EV0,zy,zx,zw,zv,zu,zq,zp,zj,zk,leT,zg,rvC,zZ,zY,zX,zW,↓zV,↓zU,reduceCtorEq,zQ,yz,yY,yy,yx,yw,yv,yu,yq,yX,yj,yk,yg,yW,yV,yU,yZ,yQ,xz]) (hcm m2) (Nat.le_of_eq (hlm m2).symm)
    ·simp (maxSteps:=9999999) only [EV0,zy,zx,zw,zv,zu,zq,zp,zj,zk,leT,zg,rvC,zZ,zY,zX,zW,↓zV,↓zU,reduceCtorEq,zQ,yz,yY,yy,yx,yw,yv,yu,yq,yX,yj,yk,yg,yW,yV,yU,yZ,yQ,xz]
     exact hS
  ·have hO : m.dsO x = (none,m.gX x):=by unfold M.dsO; rw [if_neg hf]
   have hL : m.dsL x = []:=by unfold M.dsL; rw [hO]; rfl
   rw [hL,hO] at hS
   simp (maxSteps:=9999999) only [EV0,zy,zx,zw,zv,zu,zq,zp,zj,zk,leT,zg,rvC,zZ,zY,zX,zW,↓zV,↓zU,reduceCtorEq,zQ,yz,yY,yy,yx,yw,yv,yu,yq,yX,yj,yk,yg,yW,yV,yU,yZ,yQ,xz,df31,TBl,TBe,dscG,memF_eq H,memF_set H,dscM,dscR,hf,containsG,intsOf_ns,List.not_mem_nil]
   exact fin_of (v:=.s (.b false)) (ls:=[]) (h:=setM h a b (m.gX x)) rfl (Wk.keep 0 rfl rfl (by simp (maxSteps:=9999999) only [EV0,zy,zx,zw,zv,zu,zq,zp,zj,zk,leT,zg,rvC,zZ,zY,zX,zW,↓zV,↓zU,reduceCtorEq,zQ,yz,yY,yy,yx,yw,yv,yu,yq,yX,yj,yk,yg,yW,yV,yU,yZ,yQ,xz]) (by rfl) (by rfl)) (by simp (maxSteps:=9999999) only [EV0,zy,zx,zw,zv,zu,zq,zp,zj,zk,leT,zg,rvC,zZ,zY,zX,zW,↓zV,↓zU,reduceCtorEq,zQ,yz,yY,yy,yx,yw,yv,yu,yq,yX,yj,yk,yg,yW,yV,yU,yZ,yQ,xz]; exact hS)
 ·exact hS.elim
theorem last_get {l : List Int} (h : l ≠ []) : (intsB l)[l.length - 1]? = some (.i .i64 (l.getLastD 0)):=by
 have h1 : l.length - 1 < l.length:=by have:=List.length_pos_iff.2 h; omega
 rw [intsB_get h1,nth_eq h1]
 congr 2
 rw [List.getLastD_eq_getLast?,List.getLast?_eq_getElem?,List.getElem?_eq_getElem h1]; rfl
theorem last_snd : Snd Tryz.prog 46 (FSpec.of lastG):=(fwp_sound (Tab.snd_Γ TBe_snd) mixed Tryz.func46 dc46).weaken fun args h K hc hS => by
 refine fwp_runW (Tab.ok_Γ _) 200 ?_
 obtain ⟨a,b,m,rest,rfl,H,hS1⟩:=memF_spec (f:=lastM) hS
 clear hS
 have hS:=hS1
 clear hS1
 unfold lastM at hS
 split at hS
 ·rename_i x
  simp only [spec_ok] at hS
  have hlm : ∀ m2,(setM h a b m2).length = h.length:=fun _ => setM_len
  have hcm : ∀ m2,clean (setM h a b m2).length (setM h a b m2) = true:=fun _ => by rw [setM_len]; exact setM_clean H hc H.ltb
  have hml:=m.l
  by_cases hf : m.fE x = 0
  ·obtain ⟨o,ho⟩ : ∃ o,dsW (m.gV x).depth (m.w.length / 4) (m.gV x).next (m.gX x) [] = o:=⟨_,rfl⟩
   have hO : m.dsO x = o:=by unfold M.dsO; rw [if_pos hf,ho]
   have hL : m.dsL x = o.1.getD []:=by unfold M.dsL; rw [hO]
   rw [hL,hO] at hS
   clear hL hO
   rcases o with ⟨_ | _ | ⟨z,l⟩,m2⟩
   ·simp (maxSteps:=9999999) only [EV0,zy,zx,zw,zv,zu,zq,zp,zj,zk,leT,zg,rvC,zZ,zY,zX,zW,↓zV,↓zU,reduceCtorEq,zQ,yz,yY,yy,yx,yw,yv,yu,yq,yX,yj,yk,yg,yW,yV,yU,yZ,yQ,xz,df46,TBe,dscG,memF_eq H,memF_set H,dscM,dscR,hf,ho]
    exact fin_of (v:=.s (.i .i64 0)) (ls:=[]) (h:=setM h a b m2) rfl (Wk.keep 0 rfl rfl (by simp (maxSteps:=9999999) only [EV0,zy,zx,zw,zv,zu,zq,zp,zj,zk,leT,zg,rvC,zZ,zY,zX,zW,↓zV,↓zU,reduceCtorEq,zQ,yz,yY,yy,yx,yw,yv,yu,yq,yX,yj,yk,yg,yW,yV,yU,yZ,yQ,xz]) (by rfl) (by rfl)) (by simp (maxSteps:=9999999) only [EV0,zy,zx,zw,zv,zu,zq,zp,zj,zk,leT,zg,rvC,zZ,zY,zX,zW,↓zV,↓zU,reduceCtorEq,zQ,yz,yY,yy,yx,yw,yv,yu,yq,yX,yj,yk,yg,yW,yV,yU,yZ,yQ,xz]; exact hS)
   ·simp (maxSteps:=9999999) only [EV0,zy,zx,zw,zv,zu,zq,zp,zj,zk,leT,zg,rvC,zZ,zY,zX,zW,↓zV,↓zU,reduceCtorEq,zQ,yz,yY,yy,yx,yw,yv,yu,yq,yX,yj,yk,yg,yW,yV,yU,yZ,yQ,xz,df46,TBe,dscG,memF_eq H,memF_set H,dscM,dscR,hf,ho]
    exact fin_of (v:=.s (.i .i64 0)) (ls:=[]) (h:=setM h a b m2) rfl (Wk.keep 0 rfl rfl (by simp (maxSteps:=9999999) only [EV0,zy,zx,zw,zv,zu,zq,zp,zj,zk,leT,zg,rvC,zZ,zY,zX,zW,↓zV,↓zU,reduceCtorEq,zQ,yz,yY,yy,yx,yw,yv,yu,yq,yX,yj,yk,yg,yW,yV,yU,yZ,yQ,xz]) (by rfl) (by rfl)) (by simp (maxSteps:=9999999) only [EV0,zy,zx,zw,zv,zu,zq,zp,zj,zk,leT,zg,rvC,zZ,zY,zX,zW,↓zV,↓zU,reduceCtorEq,zQ,yz,yY,yy,yx,yw,yv,yu,yq,yX,yj,yk,yg,yW,yV,yU,yZ,yQ,xz]; exact hS)
   ·have hl:=dsW_len _ _ _ _ ho
    have g1:=last_get (l:=z :: l) (by simp)
    simp only [List.length_cons,Nat.add_sub_cancel] at g1
    simp only [Option.getD_some] at hS
    obtain ⟨ys,hys⟩ : ∃ ys,(z :: l).getLastD 0 = ys:=⟨_,rfl⟩
    rw [hys] at hS g1
    have w1 : IntKind.i64.wrap (((l.length + 1 : Nat) : Int) - 1) = (l.length : Int):=by
     rw [wrap64] <;> (simp only [List.length_cons,List.length_nil] at hl; omega)
    have w2 : (((l.length + 1 : Nat) : Int) == 0) = false:=by simpa using (by omega : ¬ ((l.length + 1 : Nat) : Int) = 0)
    have w3 : (0 : Int) ≤ (l.length : Int):=by omega
    have w4 : (l.length : Int) < ((l.length + 1 : Nat) : Int):=by omega
    have w5 : ∀ c,(setM h a b m2 ++ [⟨.rw,intsB (z :: l),c⟩])[(setM h a b m2).length]? = some (⟨.rw,intsB (z :: l),c⟩ : Blk):=fun c => by simp
    simp (maxSteps:=9999999) only [EV0,zy,zx,zw,zv,zu,zq,zp,zj,zk,leT,zg,rvC,zZ,zY,zX,zW,↓zV,↓zU,reduceCtorEq,zQ,yz,yY,yy,yx,yw,yv,yu,yq,yX,yj,yk,yg,yW,yV,yU,yZ,yQ,xz,df46,TBe,dscG,memF_eq H,memF_set H,dscM,dscR,hf,ho,w1,w2,w3,w4,w5,g1,Int.toNat_natCast]
    intro c hc'
    refine fin_of (v:=.s (.i .i64 ys)) (ls:=[]) (h:=setM h a b m2) rfl ?_ ?_
    ·exact drop_i (by simp (maxSteps:=9999999) only [EV0,zy,zx,zw,zv,zu,zq,zp,zj,zk,leT,zg,rvC,zZ,zY,zX,zW,↓zV,↓zU,reduceCtorEq,zQ,yz,yY,yy,yx,yw,yv,yu,yq,yX,yj,yk,yg,yW,yV,yU,yZ,yQ,xz]) (hcm m2) (Nat.le_of_eq (hlm m2).symm)
    ·simp (maxSteps:=9999999) only [EV0,zy,zx,zw,zv,zu,zq,zp,zj,zk,leT,zg,rvC,zZ,zY,zX,zW,↓zV,↓zU,reduceCtorEq,zQ,yz,yY,yy,yx,yw,yv,yu,yq,yX,yj,yk,yg,yW,yV,yU,yZ,yQ,xz]
     exact hS
  ·have hO : m.dsO x = (none,m.gX x):=by unfold M.dsO; rw [if_neg hf]
   have hL : m.dsL x = []:=by unfold M.dsL; rw [hO]; rfl
   rw [hL,hO] at hS
   simp (maxSteps:=9999999) only [EV0,zy,zx,zw,zv,zu,zq,zp,zj,zk,leT,zg,rvC,zZ,zY,zX,zW,↓zV,↓zU,reduceCtorEq,zQ,yz,yY,yy,yx,yw,yv,yu,yq,yX,yj,yk,yg,yW,yV,yU,yZ,yQ,xz,df46,TBe,dscG,memF_eq H,memF_set H,dscM,dscR,hf]
   exact fin_of (v:=.s (.i .i64 0)) (ls:=[]) (h:=setM h a b (m.gX x)) rfl (Wk.keep 0 rfl rfl (by simp (maxSteps:=9999999) only [EV0,zy,zx,zw,zv,zu,zq,zp,zj,zk,leT,zg,rvC,zZ,zY,zX,zW,↓zV,↓zU,reduceCtorEq,zQ,yz,yY,yy,yx,yw,yv,yu,yq,yX,yj,yk,yg,yW,yV,yU,yZ,yQ,xz]) (by rfl) (by rfl)) (by simp (maxSteps:=9999999) only [EV0,zy,zx,zw,zv,zu,zq,zp,zj,zk,leT,zg,rvC,zZ,zY,zX,zW,↓zV,↓zU,reduceCtorEq,zQ,yz,yY,yy,yx,yw,yv,yu,yq,yX,yj,yk,yg,yW,yV,yU,yZ,yQ,xz]; exact hS)
 ·exact hS.elim
end Go.Proofs.YtcdfofeolgbnbaaGreat

