/- Law 11: played: a script over both memories. -/
import Derived.Test.YtcdfofeolgbnbaaZ13
import Derived.Test.YtcdfofeolgbnbaaZ31
import Derived.Test.YtcdfofeolgbnbaaZ32
/- Law 11: played: a script over both memories. -/
namespace Go.Proofs.Ytcdfofeolgbnbaa
open Go.D
open Nat (reduceAdd reducePow reduceMul reduceSub reduceLeDiff reduceLT reduceEqDiff)
open Int (reduceNeg reduceLE reduceEq reduceNe reduceToNat)
open Go.D renaming istep → zy,pickR → zx,bin1R → zw,un1R → zv,eqS → zu,eq1 → zq,cmpS → zp,cmp1 → zj,isNil → zk,shows → zg,result → zZ,q_cond_t → zV,q_cond_f → zU
open List renaming set → zY,replicate → zX
open Option renaming map → zW
open Nat renaming reduceAdd → zQ,reducePow → yz,reduceMul → yy,reduceSub → yx,reduceLeDiff → yv,reduceLT → yu,reduceEqDiff → yq
open Int renaming reduceNeg → yp,reduceLE → yj,reduceEq → yk,reduceNe → yg,reduceToNat → yZ,reducePow → yY,reduceLT → yX,reduceAdd → yW,reduceSub → yV,reduceMul → yU,reduceBEq → yQ,reduceBNe → xz
set_option linter.all false
set_option maxRecDepth 100000
set_option maxHeartbeats 1000000

def Op.u (x : Op) : Prop:=i64b x.n
def opZ : Op:=⟨0,0,0,0⟩
def M.act11 (m : M) (x : Op) : Int × M:=if x.wh = 1 then m.ins x.b x.a else if x.wh = 2 then m.mov x.a x.b else if x.wh = 3 then m.swp x.a x.b else if x.wh = 4 then m.rem x.a else (0,m)
def layW (m r : M) (x : Op) : M × M:=if x.wh = 1 then laysX m r x.a x.n else (m,r)
noncomputable def plyX (m r : M) (x : Op) : M × M :=
 if promV (layW m r x).2 x = true then (((layW m r x).1.act11 x).2,ofW ((layW m r x).1.act11 x).2.w) else ((layW m r x).1,promX (layW m r x).2 x)
theorem ofW_m (m : M) : (ofW m.w).w = m.w:=(ofW_w m.u m.l).1
section
variable {m r : M} {L : List Int}
theorem W11.layW (W : W11 m L) (hw : r.w = m.w) (x : Op) : (layW m r x).2.w = (layW m r x).1.w ∧ W11 (layW m r x).1 L:=by
 unfold _root_.Go.Proofs.Ytcdfofeolgbnbaa.layW
 split
 ·obtain ⟨_,h2,h3,_⟩:=W.lays hw x.a x.n
  exact ⟨h2,h3⟩
 ·exact ⟨hw,W⟩
theorem W11.act (W : W11 m L) {x : Op} (h1 : x.wh = 1 ∨ okS m L x.a) (h2 : (x.wh = 1 ∧ x.b = 0) ∨ okS m L x.b) : ∃ L',St11 m L x (m.act11 x).1 (m.act11 x).2 L':=by
 unfold M.act11
 by_cases c1 : x.wh = 1
 ·rw [if_pos c1]
  exact (step_ins W rfl c1 (h2.imp And.right id)).1
 ·rw [if_neg c1]
  have h1:=h1.resolve_left c1
  have h2:=h2.resolve_left fun h => c1 h.1
  by_cases c2 : x.wh = 2
  ·rw [if_pos c2]; exact (step_mov W rfl c2 h1 h2).1
  ·rw [if_neg c2]
   by_cases c3 : x.wh = 3
   ·rw [if_pos c3]; exact (step_swp W rfl c3 h1 h2).1
   ·rw [if_neg c3]
    by_cases c4 : x.wh = 4
    ·rw [if_pos c4]; exact (step_rem W rfl c4 h1).1
    ·rw [if_neg c4]; exact ⟨L, .non ⟨c1,c2,c3,c4⟩ rfl⟩
theorem W11.ply (W : W11 m L) (hw : r.w = m.w) (x : Op) : (plyX m r x).2.w = (plyX m r x).1.w ∧ ∃ L',W11 (plyX m r x).1 L':=by
 obtain ⟨hw1,W1⟩:=W.layW hw x
 unfold plyX
 obtain ⟨p1,p2⟩:=W1.prom hw1 (x:=x)
 split
 ·rename_i h
  obtain ⟨h1,h2⟩:=p2 h
  obtain ⟨L',S⟩:=W1.act h1 h2
  exact ⟨ofW_m _,L',W1.step S⟩
 ·exact ⟨p1.trans hw1,L,W1⟩
end
noncomputable def plyL (m r : M) : List Op → M × M
 | [] => (m,r)
 | x :: l => plyL (plyX m r x).1 (plyX m r x).2 l
theorem plyL_w : ∀ (l : List Op) {m r : M} {L : List Int},W11 m L → r.w = m.w → (plyL m r l).2.w = (plyL m r l).1.w ∧ ∃ L',W11 (plyL m r l).1 L'
 | [],m,r,L,W,hw => ⟨hw,L,W⟩
 | x :: l,m,r,L,W,hw => by
  obtain ⟨h1,L1,W1⟩:=W.ply hw x
  exact plyL_w l W1 h1
theorem plyL_drop {m r : M} {l : List Op} {i : Nat} (h : i < l.length) : plyL m r (l.drop i) = plyL (plyX m r (nth opZ l i)).1 (plyX m r (nth opZ l i)).2 (l.drop (i + 1)):=by
 rw [← List.getElem_cons_drop h,nth_eq h]; rfl
theorem z11_len : z11.w.length = 2048:=by unfold z11; rw [M.zero_len]; decide
theorem z11_at (j : Int) : z11.at j = 0:=M.at_zero 11 j
theorem z11_slot {x : Int} (h : P11 x) : z11.gE x = 0 ∧ z11.gV x = slotZ:=by
 have ht : thereB z11 x = true:=there_iff.2 ⟨h.1,h.2.1,by rw [z11_len]; exact h.2.2⟩
 have hb : z11.slotB x = true:=by simp only [M.slotB,z11_at]; decide
 refine ⟨gE_zero ht hb, ?_⟩
 unfold M.gV
 rw [if_pos ⟨ht,hb⟩]
 simp only [M.slotC,z11_at]; rfl
theorem W11.zero : W11 z11 []:=by
 have hf : z11.fst = 0:=by
  have hh : z11.has 2 1 = true:=M.has_iff.2 (by rw [z11_len]; omega)
  have hw0 : IntKind.i64.wrap 0 = 0:=rfl
  simp only [M.fst,z11_at,hh,if_true,keptV,keptB,hw0]
  split <;> rfl
 refine ⟨z11_len,⟨⟨by rw [z11_len]; omega,by rw [z11_len]⟩, ?_,List.nodup_nil,fun x h => (by cases h),trivial,hf,fun x hP => ?_⟩,trivial⟩
 ·rw [hf]; exact z11_at 2
 ·obtain ⟨h1,h2⟩:=z11_slot hP
  exact ⟨h1,fun _ => by rw [h2]; exact ⟨rfl,rfl,rfl⟩⟩

noncomputable def playedG : List V → List Blk → Res
 | [.s s],h => match arrOf Op.cl h s with
  | some L => .ob (L.length ≤ 9223372036854775807 ∧ ∀ x,x ∈ L → x.u) (.ok (.s (.p (.g (h.length + 4)) 0)) [] (bH h (plyL z11 z11 L).1 (plyL z11 z11 L).2 []))
  | none => .bad
 | _,_ => .bad
theorem val_pickG {n : Nat} {is : List Nat} {s : S} (h : s.val n 0 = true) : s.ren (R.pickG n is) = s:=by
 have hr : ∀ r : R,r.val n 0 = true → R.pickG n is r = r:=fun r hr => by
  cases r with
  | g k => simp only [R.val,decide_eq_true_eq] at hr; simp only [R.pickG,if_pos hr]
  | l k => rfl
 cases s with
 | p r o => simp only [S.ren]; rw [hr r h]
 | sl r o a c => simp only [S.ren]; rw [hr r h]
 | fn f cs =>
  simp only [S.ren,S.fn.injEq,true_and]
  simp only [S.val,List.all_eq_true] at h
  refine (List.map_congr_left fun x hx => ?_).trans (List.map_id _)
  rw [hr x.1 (h x hx)]; rfl
 | _ => rfl
theorem pickG_0 {n i : Nat} {is : List Nat} : R.pickG n (i :: is) (.g n) = .g (n + i):=by
 simp only [R.pickG,Nat.lt_irrefl,if_false,Nat.sub_self,List.getD_cons_zero]
theorem pickG_n {n k : Nat} {is : List Nat} : R.pickG n is (.g (n + k)) = .g (n + is.getD k 0):=by
 have h : ¬ n + k < n:=by omega
 simp only [R.pickG,if_neg h,Nat.add_sub_cancel_left]
theorem bH_set1 (h : List Blk) (m r : M) (X : List Blk) (k : Nat) : (bH h m r X).set (h.length + 4) ⟨.rw,[.p (.g h.length) 0, .p (.g k) 0],2⟩ = h ++ (MB (h.length + 1) m :: MW m :: MB (h.length + 3) r :: MW r :: ⟨.rw,[.p (.g h.length) 0, .p (.g k) 0],2⟩ :: X):=bH_setc h m r X _
theorem bH_of (h : List Blk) (m r R : M) (B : Blk) : memH (bH h m r [B]) R = bH h m r [B,MB (h.length + 7) R,MW R]:=by
 simp [memH,bH]
theorem ply_end {h : List Blk} (hc : clean h.length h = true) {t t' : List V} {ls : List Blk} (m r R2 : M) (c : Nat) (ht : leT (t'.map (V.ren (R.pickG h.length [0,1,6,7,4]))) t) (hv : t'.all (V.val (h.length + 5) 0) = true) :
  Wk h.length ⟨t,ls,h ++ (MB (h.length + 1) m :: MW m :: MB (h.length + 3) r :: MW r :: ⟨.rw,[.p (.g h.length) 0, .p (.g (h.length + 6)) 0],2⟩ :: [⟨.rw,wc m.w,c⟩,MB (h.length + 7) R2,MW R2])⟩ ⟨t',[],bH h m R2 []⟩:=by
 have hcl:=bH_clean hc m R2 (X:=[]) rfl
 unfold bH at hcl ⊢
 refine Wk.selG [0,1,6,7,4] (by decide) (Nat.le_refl _) hc ?_ ht ?_ hcl
 ·simp only [List.map_cons,List.map_nil,List.getElem?_cons_zero,List.getElem?_cons_succ,Blk.ren,MB,MW,bothB,S.ren,wc_ren,pickG_0,pickG_n,List.getD_cons_zero,List.getD_cons_succ,Nat.add_zero]
 ·simpa only [List.length_append,List.length_cons,List.length_nil,Nat.zero_add,reduceAdd] using hv
noncomputable def TPd : Tab:=addT 31 madeG (addT 23 laysG (addT 24 promG (addT 17 insG (addT 18 movG (addT 19 swpG (addT 20 remG (addT 26 dumpG (addT 48 ofG (noT)))))))))
theorem TPd_snd : TPd.Snd Try.prog:=addT_snd ok31 made_snd (addT_snd ok23 lays_snd (addT_snd ok24 prom_snd (addT_snd ok17 ins_snd (addT_snd ok18 mov_snd (addT_snd ok19 swp_snd (addT_snd ok20 rem_snd (addT_snd ok26 mdump_snd (addT_snd ok48 of_snd ((noT_snd _))))))))))
theorem played_snd : Snd Try.prog 21 (FSpec.of playedG):=(fwp_sound (Tab.snd_Γ TPd_snd) mixed Try.func21 dc21).weaken fun args h K hc hS => by
 refine fwp_runW (Tab.ok_Γ _) 300 ?_
 have hS : (playedG args h).spec K:=hS
 unfold playedG at hS
 split at hS
 ·rename_i s
  split at hS
  ·rename_i L eL
   have Hs:=arrOf_some eL
   obtain ⟨⟨l1,hu⟩,hS⟩:=hS
   simp only [spec_ok] at hS
   have hlen:=fun ls h' => Hs.sl.len (ls:=ls) (h:=h')
   have hkn:=Hs.sl.known
   have hnl:=Hs.sl.noL
   obtain ⟨F,hF⟩ : ∃ F,plyL z11 z11 L = F:=⟨_,rfl⟩
   rw [hF] at hS
   simp (maxSteps:=9999999) only [EV0,zy,zx,zw,zv,zu,zq,zp,zj,zk,leT,zg,rvC,zZ,zY,zX,zW,↓zV,↓zU,reduceCtorEq,zQ,yz,yY,yy,yx,yv,yu,yq,yp,yX,yj,yk,yg,yW,yV,yU,yZ,yQ,xz,df21,TPd,madeG,↓hlen,↓hkn,↓hnl]
   refine loop_rule (α:=Nat × M × M) [2,4,5,6,7,8,10,11,12,13,14,15,16,17,18,19,20,21,22,23,24,25,26,27,28,29,30,31,32,33,34,35,36,37,38,39,40,41,42,43,44,45,46,47,48,49,50,51,52,53,54,55,56,57,58,59,60,61,62,63,64,65,66,67,68,69,70,71,72,73,74,75,76,77,78,79,80,81,82,83,84,85,86,87,88,89,90,91,92,93,94,95,96] (fun z => [(4, .s (.i .i64 (z.1 : Int)))]) (fun _ => []) (fun z => bH h z.2.1 z.2.2 []) (fun z => z.1 ≤ L.length ∧ z.2.2.w = z.2.1.w ∧ (∃ Q,W11 z.2.1 Q) ∧ plyL z.2.1 z.2.2 (L.drop z.1) = F) (fun z => L.length - z.1) (0,z11,z11) ⟨Nat.zero_le _,rfl,⟨_,W11.zero⟩,hF⟩ ?_ ?_
   ·refine Wk.same rfl rfl ?_
    simp (maxSteps:=9999999) only [EV0,zy,zx,zw,zv,zu,zq,zp,zj,zk,leT,zg,rvC,zZ,zY,zX,zW,↓zV,↓zU,reduceCtorEq,zQ,yz,yY,yy,yx,yv,yu,yq,yp,yX,yj,yk,yg,yW,yV,yU,yZ,yQ,xz,Int.natCast_zero]
   ·rintro X ⟨i,m,r⟩ ⟨hi,hw,⟨Q,W⟩,hP⟩ IH
    simp only at hi hw W hP ⊢
    have hcc : ∀ m r X,(bH h m r X)[h.length + 4]? = _:=fun m r X => bH_c h m r X
    rcases Nat.lt_or_ge i L.length with h1 | h1
    ·obtain ⟨d1,d2,d3,d4⟩:=idx h1 l1
     rw [plyL_drop h1] at hP
     obtain ⟨j,cc,st,room,hse,hj,hd⟩:=Hs.at h1
     obtain ⟨x,hx⟩ : ∃ x,nth opZ L i = x:=⟨_,rfl⟩
     have hxu : x.u:=by rw [← hx]; exact hu _ (nth_mem h1)
     rw [hx] at hP
     have hs : sub (arr Op.cl L) (i * 4) 4 = x.cl:=by rw [← hx,nth_eq h1]; exact arr_sub Op.cl_len h1
     have hle : i * 4 + 4 ≤ (arr Op.cl L).length:=by rw [arr_length Op.cl_len]; omega
     simp only [Op.cl] at hs
     obtain ⟨g1,g2⟩:=W.ply hw x
     obtain ⟨hw1,W1⟩:=W.layW hw x
     have hob : ∀ m r X,(bH h m r X)[j]? = _:=fun m r X => bH_old hj m r X
     subst hse
     obtain ⟨xw,xa,xb,xn⟩:=x
     simp only at hs hw1 W1
     have hpe : plyX m r ⟨xw,xa,xb,xn⟩ = if promV (layW m r ⟨xw,xa,xb,xn⟩).2 ⟨xw,xa,xb,xn⟩ = true then (((layW m r ⟨xw,xa,xb,xn⟩).1.act11 ⟨xw,xa,xb,xn⟩).2,ofW ((layW m r ⟨xw,xa,xb,xn⟩).1.act11 ⟨xw,xa,xb,xn⟩).2.w) else ((layW m r ⟨xw,xa,xb,xn⟩).1,promX (layW m r ⟨xw,xa,xb,xn⟩).2 ⟨xw,xa,xb,xn⟩):=rfl
     rw [hpe] at hP g1 g2
     clear hpe
     have hi2 : i + 1 ≤ L.length:=by omega
     have hmu : L.length - (i + 1) < L.length - i:=by omega
     have hsv : (S.sl (.g j) 0 L.length cc).val h.length 0 = true:=by
      have:=(List.getElem?_eq_some_iff.1 hj).1
      simp only [S.val,R.val,decide_eq_true_eq]; exact this
     have hjl : j < h.length:=(List.getElem?_eq_some_iff.1 hj).1
     have hjl : j < h.length:=(List.getElem?_eq_some_iff.1 hj).1
     by_cases c1 : xw = 1
     ·subst c1
      have hl1 : layW m r ⟨1,xa,xb,xn⟩ = laysX m r xa xn:=rfl
      rw [hl1] at hP g1 g2 hw1 W1
      obtain ⟨⟨m1,r1⟩,e1⟩ : ∃ z,laysX m r xa xn = z:=⟨_,rfl⟩
      rw [e1] at hP g1 g2 hw1 W1
      have hlv:=(W.lays hw xa xn).1
      have hnb:=hxu
      unfold Op.u i64b at hnb
      simp only at hP g1 g2 hw1 W1 hnb
      cases hp : promV r1 ⟨1,xa,xb,xn⟩
      ·simp only [hp,Bool.false_eq_true,if_false] at hP g1 g2
       refine run_sound (Tab.ok_Γ _) 300 _ _ _ _ ?_
       simp (maxSteps:=9999999) only [EV0,zy,zx,zw,zv,zu,zq,zp,zj,zk,leT,zg,rvC,zZ,zY,zX,zW,↓zV,↓zU,reduceCtorEq,zQ,yz,yY,yy,yx,yv,yu,yq,yp,yX,yj,yk,yg,yW,yV,yU,yZ,yQ,xz,TPd,laysG,laysM,promG,promM,opF,bH_fb,bH_fm,↓hlen,↓hkn,↓hnl,d1,d2,d3,d4,hob,hd,hs,hle,hcc,Int.toNat_natCast,put,fillP,hlv,hnb,e1,hp]
       refine IH (i + 1,m1,promX r1 ⟨1,xa,xb,xn⟩) _ hmu ⟨hi2,g1,g2,hP⟩ ?_
       refine Wk.keep 0 rfl rfl ?_ ?_ rfl
       ·simp (maxSteps:=9999999) only [EV0,zy,zx,zw,zv,zu,zq,zp,zj,zk,leT,zg,rvC,zZ,zY,zX,zW,↓zV,↓zU,reduceCtorEq,zQ,yz,yY,yy,yx,yv,yu,yq,yp,yX,yj,yk,yg,yW,yV,yU,yZ,yQ,xz]
       ·simp (maxSteps:=9999999) only [EV0,zy,zx,zw,zv,zu,zq,zp,zj,zk,leT,zg,rvC,zZ,zY,zX,zW,↓zV,↓zU,reduceCtorEq,zQ,yz,yY,yy,yx,yv,yu,yq,yp,yX,yj,yk,yg,yW,yV,yU,yZ,yQ,xz,S_below]
      ·simp only [hp,if_true] at hP g1 g2
       have ha : m1.act11 ⟨1,xa,xb,xn⟩ = m1.ins xb xa:=rfl
       rw [ha] at hP g1 g2
       obtain ⟨⟨e2,m2⟩,he2⟩ : ∃ z,m1.ins xb xa = z:=⟨_,rfl⟩
       rw [he2] at hP g1 g2
       simp only at hP g1 g2
       have hml : m2.w.length = 2048:=by obtain ⟨_,W2⟩:=g2; exact W2.len
       have hhas : m2.has 0 2048 = true:=M.has_of (by omega)
       have htk : m2.w.take 2048 = m2.w:=by rw [← hml]; exact List.take_length
       have hLo : ∀ c : Nat,listOf (bH h m2 (promX r1 ⟨1,xa,xb,xn⟩) [⟨BK.rw,wc m2.w,c⟩]) (.sl (.g (h.length + 5)) 0 2048 c) = some m2.w:=fun c => listOf_at (st:=.rw) (room:=c) (bH_x _ _ _ _ _) (fun x => BK.noConfusion x) hml
       have hu1 : (∀ y,y ∈ m2.w → u64 y) = True:=eq_true m2.u
       have hu2 : m2.w.length ≤ 65536:=m2.l
       have h56 : h.length + 5 + 1 = h.length + 6:=rfl
       have h58 : h.length + 6 < h.length + 5 + 3:=by omega
       refine run_sound (Tab.ok_Γ _) 300 _ _ _ _ ?_
       simp (maxSteps:=9999999) only [EV0,zy,zx,zw,zv,zu,zq,zp,zj,zk,leT,zg,rvC,zZ,zY,zX,zW,↓zV,↓zU,reduceCtorEq,zQ,yz,yY,yy,yx,yv,yu,yq,yp,yX,yj,yk,yg,yW,yV,yU,yZ,yQ,xz,TPd,laysG,laysM,promG,promM,opF,insG,insM,he2,bH_fb,bH_fm,↓hlen,↓hkn,↓hnl,d1,d2,d3,d4,hob,hd,hs,hle,hcc,Int.toNat_natCast,put,fillP,hlv,hnb,e1,hp,dumpG,dumpM,hhas,htk,ofG,hLo,bH_len,bH_app,bH_of,bH_set1,hu1,hu2,h56,h58,reduceToNat,List.drop_zero,List.length_nil,Nat.add_zero,List.nil_append]
       intro c _
       refine IH (i + 1,m2,ofW m2.w) _ hmu ⟨hi2,g1,g2,hP⟩ ?_
       refine ply_end hc m2 (promX r1 ⟨1,xa,xb,xn⟩) (ofW m2.w) c ?_ ?_
       ·simp (maxSteps:=9999999) only [EV0,zy,zx,zw,zv,zu,zq,zp,zj,zk,leT,zg,rvC,zZ,zY,zX,zW,↓zV,↓zU,reduceCtorEq,zQ,yz,yY,yy,yx,yv,yu,yq,yp,yX,yj,yk,yg,yW,yV,yU,yZ,yQ,xz,V.ren,C.ren,val_pickG hsv,S_ren,pickG_n,pickG_0,List.getD_cons_zero,List.getD_cons_succ]
       ·simp (maxSteps:=9999999) only [EV0,zy,zx,zw,zv,zu,zq,zp,zj,zk,leT,zg,rvC,zZ,zY,zX,zW,↓zV,↓zU,reduceCtorEq,zQ,yz,yY,yy,yx,yv,yu,yq,yp,yX,yj,yk,yg,yW,yV,yU,yZ,yQ,xz,S_val,hjl,Nat.add_lt_add_left,Nat.lt_add_right]
     ·have hl1 : layW m r ⟨xw,xa,xb,xn⟩ = (m,r):=if_neg c1
      rw [hl1] at hP g1 g2 hw1 W1
      have k1 : (xw == 1) = false:=by simpa using c1
      simp only at hP g1 g2 hw1 W1
      cases hp : promV r ⟨xw,xa,xb,xn⟩
      ·simp only [hp,Bool.false_eq_true,if_false] at hP g1 g2
       refine run_sound (Tab.ok_Γ _) 300 _ _ _ _ ?_
       simp (maxSteps:=9999999) only [EV0,zy,zx,zw,zv,zu,zq,zp,zj,zk,leT,zg,rvC,zZ,zY,zX,zW,↓zV,↓zU,reduceCtorEq,zQ,yz,yY,yy,yx,yv,yu,yq,yp,yX,yj,yk,yg,yW,yV,yU,yZ,yQ,xz,TPd,laysG,laysM,promG,promM,opF,bH_fb,bH_fm,↓hlen,↓hkn,↓hnl,d1,d2,d3,d4,hob,hd,hs,hle,hcc,Int.toNat_natCast,put,fillP,hp,c1,k1]
       refine IH (i + 1,m,promX r ⟨xw,xa,xb,xn⟩) _ hmu ⟨hi2,g1,g2,hP⟩ ?_
       refine Wk.keep 0 rfl rfl ?_ ?_ rfl
       ·simp (maxSteps:=9999999) only [EV0,zy,zx,zw,zv,zu,zq,zp,zj,zk,leT,zg,rvC,zZ,zY,zX,zW,↓zV,↓zU,reduceCtorEq,zQ,yz,yY,yy,yx,yv,yu,yq,yp,yX,yj,yk,yg,yW,yV,yU,yZ,yQ,xz]
       ·simp (maxSteps:=9999999) only [EV0,zy,zx,zw,zv,zu,zq,zp,zj,zk,leT,zg,rvC,zZ,zY,zX,zW,↓zV,↓zU,reduceCtorEq,zQ,yz,yY,yy,yx,yv,yu,yq,yp,yX,yj,yk,yg,yW,yV,yU,yZ,yQ,xz,S_below]
      ·simp only [hp,if_true] at hP g1 g2
       by_cases c2 : xw = 2
       ·subst c2
        have ha : m.act11 ⟨2,xa,xb,xn⟩ = m.mov xa xb:=rfl
        rw [ha] at hP g1 g2
        obtain ⟨⟨e2,m2⟩,he2⟩ : ∃ z,m.mov xa xb = z:=⟨_,rfl⟩
        rw [he2] at hP g1 g2
        simp only at hP g1 g2
        have hml : m2.w.length = 2048:=by obtain ⟨_,W2⟩:=g2; exact W2.len
        have hhas : m2.has 0 2048 = true:=M.has_of (by omega)
        have htk : m2.w.take 2048 = m2.w:=by rw [← hml]; exact List.take_length
        have hLo : ∀ c : Nat,listOf (bH h m2 (promX r ⟨2,xa,xb,xn⟩) [⟨BK.rw,wc m2.w,c⟩]) (.sl (.g (h.length + 5)) 0 2048 c) = some m2.w:=fun c => listOf_at (st:=.rw) (room:=c) (bH_x _ _ _ _ _) (fun x => BK.noConfusion x) hml
        have hu1 : (∀ y,y ∈ m2.w → u64 y) = True:=eq_true m2.u
        have hu2 : m2.w.length ≤ 65536:=m2.l
        have h56 : h.length + 5 + 1 = h.length + 6:=rfl
        have h58 : h.length + 6 < h.length + 5 + 3:=by omega
        refine run_sound (Tab.ok_Γ _) 300 _ _ _ _ ?_
        simp (maxSteps:=9999999) only [EV0,zy,zx,zw,zv,zu,zq,zp,zj,zk,leT,zg,rvC,zZ,zY,zX,zW,↓zV,↓zU,reduceCtorEq,zQ,yz,yY,yy,yx,yv,yu,yq,yp,yX,yj,yk,yg,yW,yV,yU,yZ,yQ,xz,TPd,promG,promM,opF,movG,movM,he2,bH_fb,bH_fm,↓hlen,↓hkn,↓hnl,d1,d2,d3,d4,hob,hd,hs,hle,hcc,Int.toNat_natCast,put,fillP,hp,dumpG,dumpM,hhas,htk,ofG,hLo,bH_len,bH_app,bH_of,bH_set1,hu1,hu2,h56,h58,reduceToNat,List.drop_zero,List.length_nil,Nat.add_zero,List.nil_append]
        intro c _
        refine IH (i + 1,m2,ofW m2.w) _ hmu ⟨hi2,g1,g2,hP⟩ ?_
        refine ply_end hc m2 (promX r ⟨2,xa,xb,xn⟩) (ofW m2.w) c ?_ ?_
        ·simp (maxSteps:=9999999) only [EV0,zy,zx,zw,zv,zu,zq,zp,zj,zk,leT,zg,rvC,zZ,zY,zX,zW,↓zV,↓zU,reduceCtorEq,zQ,yz,yY,yy,yx,yv,yu,yq,yp,yX,yj,yk,yg,yW,yV,yU,yZ,yQ,xz,V.ren,C.ren,val_pickG hsv,S_ren,pickG_n,pickG_0,List.getD_cons_zero,List.getD_cons_succ]
        ·simp (maxSteps:=9999999) only [EV0,zy,zx,zw,zv,zu,zq,zp,zj,zk,leT,zg,rvC,zZ,zY,zX,zW,↓zV,↓zU,reduceCtorEq,zQ,yz,yY,yy,yx,yv,yu,yq,yp,yX,yj,yk,yg,yW,yV,yU,yZ,yQ,xz,S_val,hjl,Nat.add_lt_add_left,Nat.lt_add_right]
       have k2 : (xw == 2) = false:=by simpa using c2
       by_cases c3 : xw = 3
       ·subst c3
        have ha : m.act11 ⟨3,xa,xb,xn⟩ = m.swp xa xb:=rfl
        rw [ha] at hP g1 g2
        obtain ⟨⟨e2,m2⟩,he2⟩ : ∃ z,m.swp xa xb = z:=⟨_,rfl⟩
        rw [he2] at hP g1 g2
        simp only at hP g1 g2
        have hml : m2.w.length = 2048:=by obtain ⟨_,W2⟩:=g2; exact W2.len
        have hhas : m2.has 0 2048 = true:=M.has_of (by omega)
        have htk : m2.w.take 2048 = m2.w:=by rw [← hml]; exact List.take_length
        have hLo : ∀ c : Nat,listOf (bH h m2 (promX r ⟨3,xa,xb,xn⟩) [⟨BK.rw,wc m2.w,c⟩]) (.sl (.g (h.length + 5)) 0 2048 c) = some m2.w:=fun c => listOf_at (st:=.rw) (room:=c) (bH_x _ _ _ _ _) (fun x => BK.noConfusion x) hml
        have hu1 : (∀ y,y ∈ m2.w → u64 y) = True:=eq_true m2.u
        have hu2 : m2.w.length ≤ 65536:=m2.l
        have h56 : h.length + 5 + 1 = h.length + 6:=rfl
        have h58 : h.length + 6 < h.length + 5 + 3:=by omega
        refine run_sound (Tab.ok_Γ _) 300 _ _ _ _ ?_
        simp (maxSteps:=9999999) only [EV0,zy,zx,zw,zv,zu,zq,zp,zj,zk,leT,zg,rvC,zZ,zY,zX,zW,↓zV,↓zU,reduceCtorEq,zQ,yz,yY,yy,yx,yv,yu,yq,yp,yX,yj,yk,yg,yW,yV,yU,yZ,yQ,xz,TPd,promG,promM,opF,swpG,swpM,he2,bH_fb,bH_fm,↓hlen,↓hkn,↓hnl,d1,d2,d3,d4,hob,hd,hs,hle,hcc,Int.toNat_natCast,put,fillP,hp,dumpG,dumpM,hhas,htk,ofG,hLo,bH_len,bH_app,bH_of,bH_set1,hu1,hu2,h56,h58,reduceToNat,List.drop_zero,List.length_nil,Nat.add_zero,List.nil_append]
        intro c _
        refine IH (i + 1,m2,ofW m2.w) _ hmu ⟨hi2,g1,g2,hP⟩ ?_
        refine ply_end hc m2 (promX r ⟨3,xa,xb,xn⟩) (ofW m2.w) c ?_ ?_
        ·simp (maxSteps:=9999999) only [EV0,zy,zx,zw,zv,zu,zq,zp,zj,zk,leT,zg,rvC,zZ,zY,zX,zW,↓zV,↓zU,reduceCtorEq,zQ,yz,yY,yy,yx,yv,yu,yq,yp,yX,yj,yk,yg,yW,yV,yU,yZ,yQ,xz,V.ren,C.ren,val_pickG hsv,S_ren,pickG_n,pickG_0,List.getD_cons_zero,List.getD_cons_succ]
        ·simp (maxSteps:=9999999) only [EV0,zy,zx,zw,zv,zu,zq,zp,zj,zk,leT,zg,rvC,zZ,zY,zX,zW,↓zV,↓zU,reduceCtorEq,zQ,yz,yY,yy,yx,yv,yu,yq,yp,yX,yj,yk,yg,yW,yV,yU,yZ,yQ,xz,S_val,hjl,Nat.add_lt_add_left,Nat.lt_add_right]
       have k3 : (xw == 3) = false:=by simpa using c3
       by_cases c4 : xw = 4
       ·subst c4
        have ha : m.act11 ⟨4,xa,xb,xn⟩ = m.rem xa:=rfl
        rw [ha] at hP g1 g2
        obtain ⟨⟨e2,m2⟩,he2⟩ : ∃ z,m.rem xa = z:=⟨_,rfl⟩
        rw [he2] at hP g1 g2
        simp only at hP g1 g2
        have hml : m2.w.length = 2048:=by obtain ⟨_,W2⟩:=g2; exact W2.len
        have hhas : m2.has 0 2048 = true:=M.has_of (by omega)
        have htk : m2.w.take 2048 = m2.w:=by rw [← hml]; exact List.take_length
        have hLo : ∀ c : Nat,listOf (bH h m2 (promX r ⟨4,xa,xb,xn⟩) [⟨BK.rw,wc m2.w,c⟩]) (.sl (.g (h.length + 5)) 0 2048 c) = some m2.w:=fun c => listOf_at (st:=.rw) (room:=c) (bH_x _ _ _ _ _) (fun x => BK.noConfusion x) hml
        have hu1 : (∀ y,y ∈ m2.w → u64 y) = True:=eq_true m2.u
        have hu2 : m2.w.length ≤ 65536:=m2.l
        have h56 : h.length + 5 + 1 = h.length + 6:=rfl
        have h58 : h.length + 6 < h.length + 5 + 3:=by omega
        refine run_sound (Tab.ok_Γ _) 300 _ _ _ _ ?_
        simp (maxSteps:=9999999) only [EV0,zy,zx,zw,zv,zu,zq,zp,zj,zk,leT,zg,rvC,zZ,zY,zX,zW,↓zV,↓zU,reduceCtorEq,zQ,yz,yY,yy,yx,yv,yu,yq,yp,yX,yj,yk,yg,yW,yV,yU,yZ,yQ,xz,TPd,promG,promM,opF,remG,remM,he2,bH_fb,bH_fm,↓hlen,↓hkn,↓hnl,d1,d2,d3,d4,hob,hd,hs,hle,hcc,Int.toNat_natCast,put,fillP,hp,dumpG,dumpM,hhas,htk,ofG,hLo,bH_len,bH_app,bH_of,bH_set1,hu1,hu2,h56,h58,reduceToNat,List.drop_zero,List.length_nil,Nat.add_zero,List.nil_append]
        intro c _
        refine IH (i + 1,m2,ofW m2.w) _ hmu ⟨hi2,g1,g2,hP⟩ ?_
        refine ply_end hc m2 (promX r ⟨4,xa,xb,xn⟩) (ofW m2.w) c ?_ ?_
        ·simp (maxSteps:=9999999) only [EV0,zy,zx,zw,zv,zu,zq,zp,zj,zk,leT,zg,rvC,zZ,zY,zX,zW,↓zV,↓zU,reduceCtorEq,zQ,yz,yY,yy,yx,yv,yu,yq,yp,yX,yj,yk,yg,yW,yV,yU,yZ,yQ,xz,V.ren,C.ren,val_pickG hsv,S_ren,pickG_n,pickG_0,List.getD_cons_zero,List.getD_cons_succ]
        ·simp (maxSteps:=9999999) only [EV0,zy,zx,zw,zv,zu,zq,zp,zj,zk,leT,zg,rvC,zZ,zY,zX,zW,↓zV,↓zU,reduceCtorEq,zQ,yz,yY,yy,yx,yv,yu,yq,yp,yX,yj,yk,yg,yW,yV,yU,yZ,yQ,xz,S_val,hjl,Nat.add_lt_add_left,Nat.lt_add_right]
       have k4 : (xw == 4) = false:=by simpa using c4
       have ha : m.act11 ⟨xw,xa,xb,xn⟩ = (0,m):=by unfold M.act11; simp only [c1,c2,c3,c4,if_false]
       rw [ha] at hP g1 g2
       simp only at hP g1 g2
       have hml : m.w.length = 2048:=by obtain ⟨_,W2⟩:=g2; exact W2.len
       have hhas : m.has 0 2048 = true:=M.has_of (by omega)
       have htk : m.w.take 2048 = m.w:=by rw [← hml]; exact List.take_length
       have hLo : ∀ c : Nat,listOf (bH h m (promX r ⟨xw,xa,xb,xn⟩) [⟨BK.rw,wc m.w,c⟩]) (.sl (.g (h.length + 5)) 0 2048 c) = some m.w:=fun c => listOf_at (st:=.rw) (room:=c) (bH_x _ _ _ _ _) (fun x => BK.noConfusion x) hml
       have hu1 : (∀ y,y ∈ m.w → u64 y) = True:=eq_true m.u
       have hu2 : m.w.length ≤ 65536:=m.l
       have h56 : h.length + 5 + 1 = h.length + 6:=rfl
       have h58 : h.length + 6 < h.length + 5 + 3:=by omega
       refine run_sound (Tab.ok_Γ _) 300 _ _ _ _ ?_
       simp (maxSteps:=9999999) only [EV0,zy,zx,zw,zv,zu,zq,zp,zj,zk,leT,zg,rvC,zZ,zY,zX,zW,↓zV,↓zU,reduceCtorEq,zQ,yz,yY,yy,yx,yv,yu,yq,yp,yX,yj,yk,yg,yW,yV,yU,yZ,yQ,xz,TPd,promG,promM,opF,bH_fb,bH_fm,↓hlen,↓hkn,↓hnl,d1,d2,d3,d4,hob,hd,hs,hle,hcc,Int.toNat_natCast,put,fillP,hp,c1,k1,c2,k2,c3,k3,c4,k4,dumpG,dumpM,hhas,htk,ofG,hLo,bH_len,bH_app,bH_of,bH_set1,hu1,hu2,h56,h58,reduceToNat,List.drop_zero,List.length_nil,Nat.add_zero,List.nil_append]
       intro c _
       refine IH (i + 1,m,ofW m.w) _ hmu ⟨hi2,g1,g2,hP⟩ ?_
       refine ply_end hc m (promX r ⟨xw,xa,xb,xn⟩) (ofW m.w) c ?_ ?_
       ·simp (maxSteps:=9999999) only [EV0,zy,zx,zw,zv,zu,zq,zp,zj,zk,leT,zg,rvC,zZ,zY,zX,zW,↓zV,↓zU,reduceCtorEq,zQ,yz,yY,yy,yx,yv,yu,yq,yp,yX,yj,yk,yg,yW,yV,yU,yZ,yQ,xz,V.ren,C.ren,val_pickG hsv,S_ren,pickG_n,pickG_0,List.getD_cons_zero,List.getD_cons_succ]
       ·simp (maxSteps:=9999999) only [EV0,zy,zx,zw,zv,zu,zq,zp,zj,zk,leT,zg,rvC,zZ,zY,zX,zW,↓zV,↓zU,reduceCtorEq,zQ,yz,yY,yy,yx,yv,yu,yq,yp,yX,yj,yk,yg,yW,yV,yU,yZ,yQ,xz,S_val,hjl,Nat.add_lt_add_left,Nat.lt_add_right]
    ·have e0 : i = L.length:=by omega
     subst e0
     rw [List.drop_length] at hP
     simp only [plyL] at hP
     subst hP
     clear IH
     refine run_sound (Tab.ok_Γ _) 300 _ _ _ _ ?_
     simp (maxSteps:=9999999) only [EV0,zy,zx,zw,zv,zu,zq,zp,zj,zk,leT,zg,rvC,zZ,zY,zX,zW,↓zV,↓zU,reduceCtorEq,zQ,yz,yY,yy,yx,yv,yu,yq,yp,yX,yj,yk,yg,yW,yV,yU,yZ,yQ,xz,TPd,↓hlen,↓hkn,↓hnl,Int.lt_irrefl]
     refine fin_of (v:=.s (.p (.g (h.length + 4)) 0)) (ls:=[]) (h:=bH h m r []) rfl (Wk.keep 0 rfl rfl (by simp (maxSteps:=9999999) only [EV0,zy,zx,zw,zv,zu,zq,zp,zj,zk,leT,zg,rvC,zZ,zY,zX,zW,↓zV,↓zU,reduceCtorEq,zQ,yz,yY,yy,yx,yv,yu,yq,yp,yX,yj,yk,yg,yW,yV,yU,yZ,yQ,xz]) (by rfl) (by rfl)) ?_
     simp (maxSteps:=9999999) only [EV0,zy,zx,zw,zv,zu,zq,zp,zj,zk,leT,zg,rvC,zZ,zY,zX,zW,↓zV,↓zU,reduceCtorEq,zQ,yz,yY,yy,yx,yv,yu,yq,yp,yX,yj,yk,yg,yW,yV,yU,yZ,yQ,xz]
     exact hS
  ·exact hS.elim
 ·exact hS.elim
end Go.Proofs.Ytcdfofeolgbnbaa

