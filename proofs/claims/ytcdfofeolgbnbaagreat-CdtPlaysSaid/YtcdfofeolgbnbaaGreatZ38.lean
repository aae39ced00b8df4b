/- CdtPlays: for every input the law's Go function answers true,and its arguments read behind the call as before. No conditions. -/
import Derived.Test.YtcdfofeolgbnbaaGreatZ13
import Derived.Test.YtcdfofeolgbnbaaGreatZ37
import Derived.Test.YtcdfofeolgbnbaaGreatZ32
import Derived.Test.YtcdfofeolgbnbaaGreatZ36
/- Law 11: CdtPlays: the walk. -/
namespace Go.Proofs.YtcdfofeolgbnbaaGreat
open Go.D
open Nat (reduceAdd reducePow reduceMul reduceSub reduceLeDiff reduceLT reduceEqDiff)
open Int (reduceNeg reduceLE reduceEq reduceNe reduceToNat)
open Go.D renaming istep → zy,pickR → zx,bin1R → zw,un1R → zv,eqS → zu,eq1 → zq,cmpS → zp,cmp1 → zj,isNil → zk,shows → zg,result → zZ,q_cond_t → zV,q_cond_f → zU
open List renaming set → zY,replicate → zX
open Option renaming map → zW
open Nat renaming reduceAdd → zQ,reducePow → yz,reduceMul → yy,reduceSub → yx,reduceLeDiff → yw,reduceLT → yv,reduceEqDiff → yu
open Int renaming reduceNeg → yq,reduceLE → yj,reduceEq → yk,reduceNe → yg,reduceToNat → yZ,reducePow → yY,reduceLT → yX,reduceAdd → yW,reduceSub → yV,reduceMul → yU,reduceBEq → yQ,reduceBNe → xz
set_option linter.all false
set_option maxRecDepth 100000
set_option maxHeartbeats 4000000

def M.ract11 (m : M) (x : Op) : Int × M:=if x.wh = 1 then m.rins x.b x.a else if x.wh = 2 then m.rmov x.a x.b else if x.wh = 3 then m.rswp x.a x.b else if x.wh = 4 then m.rrem x.a else (0,m)
def plaX (m r : M) (x : Op) : M × M :=
 if promV (layW m r x).2 x = true then (asX ((layW m r x).1.act11 x).2 x,raX ((promX (layW m r x).2 x).ract11 x).2 x) else ((layW m r x).1,promX (layW m r x).2 x)
def playsM (m r : M) (st : M → M → List Blk) : List V → Res:=opF fun x => .ob (r.w = m.w ∧ x.u ∧ ∃ L,W11 m L) (.ok (.s (.b true)) [] (st (plaX m r x).1 (plaX m r x).2))
noncomputable def playsG:=bothF playsM
section
variable {m r : M} {L : List Int}
theorem W11.both (W : W11 m L) (hw : r.w = m.w) {x : Op} (h1 : x.wh = 1 ∨ okS m L x.a) (h2 : (x.wh = 1 ∧ x.b = 0) ∨ okS m L x.b) : (∃ L',St11 m L x (m.act11 x).1 (m.act11 x).2 L') ∧ (r.ract11 x).1 = (m.act11 x).1 ∧ (r.ract11 x).2.w = (m.act11 x).2.w:=by
 unfold M.act11 M.ract11
 by_cases c1 : x.wh = 1
 ·rw [if_pos c1,if_pos c1]
  exact step_ins W hw c1 (h2.imp And.right id)
 ·rw [if_neg c1,if_neg c1]
  have h1:=h1.resolve_left c1
  have h2:=h2.resolve_left fun h => c1 h.1
  by_cases c2 : x.wh = 2
  ·rw [if_pos c2,if_pos c2]; exact step_mov W hw c2 h1 h2
  ·rw [if_neg c2,if_neg c2]
   by_cases c3 : x.wh = 3
   ·rw [if_pos c3,if_pos c3]; exact step_swp W hw c3 h1 h2
   ·rw [if_neg c3,if_neg c3]
    by_cases c4 : x.wh = 4
    ·rw [if_pos c4,if_pos c4]; exact step_rem W hw c4 h1
    ·rw [if_neg c4,if_neg c4]; exact ⟨⟨L, .non ⟨c1,c2,c3,c4⟩ rfl⟩,rfl,hw⟩
theorem W11.pla (W : W11 m L) (hw : r.w = m.w) (x : Op) : (plaX m r x).2.w = (plaX m r x).1.w ∧ ∃ L',W11 (plaX m r x).1 L':=by
 obtain ⟨hw1,W1⟩:=W.layW hw x
 unfold plaX
 obtain ⟨p1,p2⟩:=W1.prom hw1 (x:=x)
 split
 ·rename_i h
  obtain ⟨h1,h2⟩:=p2 h
  obtain ⟨⟨L',S⟩,_,s2⟩:=W1.both (p1.trans hw1) h1 h2
  have W2:=W1.step S
  have e1:=asX_w W2 x
  have e2:=raX_w (W2.of_w s2) x
  exact ⟨e2.trans (s2.trans e1.symm),L',W2.of_w e1⟩
 ·exact ⟨p1.trans hw1,L,W1⟩
end
noncomputable def TPy : Tab:=addT 44 laysG (addT 51 promG (addT 45 insG (addT 52 rinsG (addT 53 movG (addT 54 rmovG (addT 55 swpG (addT 56 rswpG (addT 23 remG (addT 57 rremG (addT 58 asksG (addT 28 dumpG (addT 59 sameWG (noT)))))))))))))
theorem TPy_snd : TPy.Snd Tryz.prog:=addT_snd ok44 lays_snd (addT_snd ok51 prom_snd (addT_snd ok45 ins_snd (addT_snd ok52 rins_snd (addT_snd ok53 mov_snd (addT_snd ok54 rmov_snd (addT_snd ok55 swp_snd (addT_snd ok56 rswp_snd (addT_snd ok23 rem_snd (addT_snd ok57 rrem_snd (addT_snd ok58 asks_snd (addT_snd ok28 mdump_snd (addT_snd ok59 sameW_snd ((noT_snd _))))))))))))))
theorem bothF_two {f : M → M → (M → M → List Blk) → List V → Res} {H X : List Blk} {c a b p q : Nat} {m r m' r' : M} {rest : List V} (I : IsB H c a b p q m r) : bothF f (.s (.p (.g c) 0) :: rest) (twoH H a b p q m' r' X) = f m' r' (fun m r => twoH H a b p q m r X) rest:=bothF_eq I
theorem plays_snd : Snd Tryz.prog 13 (FSpec.of playsG):=(fwp_sound (Tab.snd_Γ TPy_snd) mixed Tryz.func13 dc13).weaken fun args H K hc hS => by
 refine fwp_runW (Tab.ok_Γ _) 400 ?_
 obtain ⟨H0,c,a,b,p,q,m,r,rest,rfl,rfl,I,hS1⟩:=bothF_spec (f:=playsM) hS
 clear hS
 obtain ⟨⟨xw,xa,xb,xn⟩,rfl,hS⟩:=opF_spec hS1
 clear hS1
 obtain ⟨⟨hw,hxu,L,W⟩,hS⟩:=hS
 unfold Op.u i64b at hxu
 simp only at hxu
 simp only [spec_ok] at hS
 have hcl:=I.clean hc
 obtain ⟨hw1,W1⟩:=W.layW hw ⟨xw,xa,xb,xn⟩
 have hpe : plaX m r ⟨xw,xa,xb,xn⟩ = if promV (layW m r ⟨xw,xa,xb,xn⟩).2 ⟨xw,xa,xb,xn⟩ = true then (asX ((layW m r ⟨xw,xa,xb,xn⟩).1.act11 ⟨xw,xa,xb,xn⟩).2 ⟨xw,xa,xb,xn⟩,raX ((promX (layW m r ⟨xw,xa,xb,xn⟩).2 ⟨xw,xa,xb,xn⟩).ract11 ⟨xw,xa,xb,xn⟩).2 ⟨xw,xa,xb,xn⟩) else ((layW m r ⟨xw,xa,xb,xn⟩).1,promX (layW m r ⟨xw,xa,xb,xn⟩).2 ⟨xw,xa,xb,xn⟩):=rfl
 rw [hpe] at hS
 clear hpe
 have hcp : ∀ m' r' X,(twoH H0 a b p q m' r' X)[p]? = some (MB q r'):=fun m' r' X => I.at_p m' r' X
 have hbB : ∀ m' r' X,(twoH H0 a b p q m' r' X)[q]? = some (MW r'):=fun m' r' X => (I.two m' r' X).hr.hb
 have hl0 : ∀ m' r',(twoH H0 a b p q m' r' []).length = H0.length:=fun m' r' => by rw [twoH_len]; rfl
 by_cases c1 : xw = 1
 ·subst c1
  have hl1 : layW m r ⟨1,xa,xb,xn⟩ = laysX m r xa xn:=rfl
  rw [hl1] at hS hw1 W1
  obtain ⟨⟨m1,r1⟩,e1⟩ : ∃ z,laysX m r xa xn = z:=⟨_,rfl⟩
  rw [e1] at hS hw1 W1
  have hlv:=(W.lays hw xa xn).1
  simp only at hS hw1 W1
  cases hp : promV r1 ⟨1,xa,xb,xn⟩
  ·simp only [hp,Bool.false_eq_true,if_false] at hS
   simp (maxSteps:=9999999) only [EV0,zy,zx,zw,zv,zu,zq,zp,zj,zk,leT,zg,rvC,zZ,zY,zX,zW,↓zV,↓zU,reduceCtorEq,zQ,yz,yY,yy,yx,yw,yv,yu,yq,yX,yj,yk,yg,yW,yV,yU,yZ,yQ,xz,df13,TPy,promG,promM,opF,bothF_two I,I.at_c,I.fm,I.fr,Op.cl,bne,put,fillP,laysG,laysM,e1,hlv,hxu,hp]
   exact fin_of (v:=.s (.b true)) (ls:=[]) (h:=twoH H0 a b p q m1 (promX r1 ⟨1,xa,xb,xn⟩) []) rfl (Wk.keep 0 rfl rfl (by simp (maxSteps:=9999999) only [EV0,zy,zx,zw,zv,zu,zq,zp,zj,zk,leT,zg,rvC,zZ,zY,zX,zW,↓zV,↓zU,reduceCtorEq,zQ,yz,yY,yy,yx,yw,yv,yu,yq,yX,yj,yk,yg,yW,yV,yU,yZ,yQ,xz]) (by rfl) (by rfl)) (by simp (maxSteps:=9999999) only [EV0,zy,zx,zw,zv,zu,zq,zp,zj,zk,leT,zg,rvC,zZ,zY,zX,zW,↓zV,↓zU,reduceCtorEq,zQ,yz,yY,yy,yx,yw,yv,yu,yq,yX,yj,yk,yg,yW,yV,yU,yZ,yQ,xz]; exact hS)
  ·simp only [hp,if_true] at hS
   obtain ⟨p1,p2⟩:=(W1.prom hw1 (x:=⟨1,xa,xb,xn⟩)).2 hp
   have hpw:=(W1.prom hw1 (x:=⟨1,xa,xb,xn⟩)).1
   obtain ⟨r2,hr2⟩ : ∃ r2,promX r1 ⟨1,xa,xb,xn⟩ = r2:=⟨_,rfl⟩
   rw [hr2] at hpw hS
   obtain ⟨⟨L2,S⟩,s1,s2⟩:=W1.both (hpw.trans hw1) p1 p2
   have W2:=W1.step S
   have ha : m1.act11 ⟨1,xa,xb,xn⟩ = m1.ins xb xa:=rfl
   have hra : r2.ract11 ⟨1,xa,xb,xn⟩ = r2.rins xb xa:=rfl
   rw [ha] at s1 s2 W2 hS
   rw [hra] at s1 s2 hS
   obtain ⟨⟨e2,m2⟩,he2⟩ : ∃ z,m1.ins xb xa = z:=⟨_,rfl⟩
   obtain ⟨⟨e3,r3⟩,he3⟩ : ∃ z,r2.rins xb xa = z:=⟨_,rfl⟩
   rw [he2] at s1 s2 W2 hS
   rw [he3] at s1 s2 hS
   simp only at s1 s2 W2 hS
   subst s1
   have hwe : (r3.w = m2.w ∧ ∃ L,W11 m2 L) = True:=eq_true ⟨s2,_,W2⟩
   have hx1:=asX_w W2 ⟨1,xa,xb,xn⟩
   have hx2:=raX_w (W2.of_w s2) ⟨1,xa,xb,xn⟩
   obtain ⟨m4,hm4⟩ : ∃ m4,asX m2 ⟨1,xa,xb,xn⟩ = m4:=⟨_,rfl⟩
   obtain ⟨r4,hr4⟩ : ∃ r4,raX r3 ⟨1,xa,xb,xn⟩ = r4:=⟨_,rfl⟩
   rw [hm4] at hx1 hS
   rw [hr4] at hx2 hS
   have hww : r4.w = m4.w:=hx2.trans (s2.trans hx1.symm)
   have hml : m4.w.length = 2048:=by rw [hx1]; exact W2.len
   have hrl : r4.w.length = 2048:=by rw [hww]; exact hml
   have hhas : m4.has 0 2048 = true:=M.has_of (by omega)
   have htk : m4.w.take 2048 = m4.w:=by rw [← hml]; exact List.take_length
   have hb2 : m4.w.length ≤ 8796093022208:=by omega
   obtain ⟨B,hB⟩ : ∃ B : Nat → Blk,B = fun c => ⟨.rw,wc m4.w,c⟩:=⟨_,rfl⟩
   have hBe : ∀ c : Nat,(⟨.rw,wc m4.w,c⟩ : Blk) = B c:=fun c => by rw [hB]
   have hL1 : ∀ c : Nat,listOf (twoH H0 a b p q m4 r4 [B c]) (.sl (.g H0.length) 0 2048 c) = some m4.w:=fun c => listOf_at (st:=.rw) (room:=c) (by rw [hB]; exact IsB.at_x _ _ _ _) (fun x => BK.noConfusion x) hml
   have hL2 : ∀ c : Nat,listOf (twoH H0 a b p q m4 r4 [B c]) (.sl (.g q) 0 2048 2048) = some m4.w:=fun c => by
    have:=listOf_at (c:=2048) (n:=2048) (hbB m4 r4 [B c]) (fun x => BK.noConfusion x) hrl
    rw [this,hww]
   simp (maxSteps:=9999999) only [EV0,zy,zx,zw,zv,zu,zq,zp,zj,zk,leT,zg,rvC,zZ,zY,zX,zW,↓zV,↓zU,reduceCtorEq,zQ,yz,yY,yy,yx,yw,yv,yu,yq,yX,yj,yk,yg,yW,yV,yU,yZ,yQ,xz,df13,TPy,promG,promM,opF,asksG,asksM,dumpG,dumpM,sameWG,he2,he3,insG,insM,rinsG,rinsM,bothF_two I,I.at_c,I.fm,I.fr,Op.cl,bne,put,fillP,laysG,laysM,e1,hlv,hxu,hr2,hp,hwe,hm4,hr4,hcp,MB,hrl,hhas,htk,hBe,hL1,hL2,hb2,twoH_app,twoH_len,hl0,beq_self_eq_true,reduceToNat,List.drop_zero,List.length_nil,Nat.add_zero,List.nil_append]
   intro c1 _
   refine fin_of (v:=.s (.b true)) (ls:=[]) (h:=twoH H0 a b p q m4 r4 []) rfl ?_ ?_
   ·rw [twoH_x m4 r4]
    exact drop_b (by simp (maxSteps:=9999999) only [EV0,zy,zx,zw,zv,zu,zq,zp,zj,zk,leT,zg,rvC,zZ,zY,zX,zW,↓zV,↓zU,reduceCtorEq,zQ,yz,yY,yy,yx,yw,yv,yu,yq,yX,yj,yk,yg,yW,yV,yU,yZ,yQ,xz]) (hcl _ _) (Nat.le_of_eq (by first | (rw [twoH_len]; rfl) | rw [twoH_len,twoH_len]))
   ·simp (maxSteps:=9999999) only [EV0,zy,zx,zw,zv,zu,zq,zp,zj,zk,leT,zg,rvC,zZ,zY,zX,zW,↓zV,↓zU,reduceCtorEq,zQ,yz,yY,yy,yx,yw,yv,yu,yq,yX,yj,yk,yg,yW,yV,yU,yZ,yQ,xz]
    exact hS
 have hl1 : layW m r ⟨xw,xa,xb,xn⟩ = (m,r):=if_neg c1
 rw [hl1] at hS hw1 W1
 have k1 : (xw == 1) = false:=by simpa using c1
 simp only at hS hw1 W1
 cases hp : promV r ⟨xw,xa,xb,xn⟩
 ·simp only [hp,Bool.false_eq_true,if_false] at hS
  simp (maxSteps:=9999999) only [EV0,zy,zx,zw,zv,zu,zq,zp,zj,zk,leT,zg,rvC,zZ,zY,zX,zW,↓zV,↓zU,reduceCtorEq,zQ,yz,yY,yy,yx,yw,yv,yu,yq,yX,yj,yk,yg,yW,yV,yU,yZ,yQ,xz,df13,TPy,promG,promM,opF,bothF_two I,I.at_c,I.fm,I.fr,Op.cl,bne,put,fillP,c1,k1,hp]
  exact fin_of (v:=.s (.b true)) (ls:=[]) (h:=twoH H0 a b p q m (promX r ⟨xw,xa,xb,xn⟩) []) rfl (Wk.keep 0 rfl rfl (by simp (maxSteps:=9999999) only [EV0,zy,zx,zw,zv,zu,zq,zp,zj,zk,leT,zg,rvC,zZ,zY,zX,zW,↓zV,↓zU,reduceCtorEq,zQ,yz,yY,yy,yx,yw,yv,yu,yq,yX,yj,yk,yg,yW,yV,yU,yZ,yQ,xz]) (by rfl) (by rfl)) (by simp (maxSteps:=9999999) only [EV0,zy,zx,zw,zv,zu,zq,zp,zj,zk,leT,zg,rvC,zZ,zY,zX,zW,↓zV,↓zU,reduceCtorEq,zQ,yz,yY,yy,yx,yw,yv,yu,yq,yX,yj,yk,yg,yW,yV,yU,yZ,yQ,xz]; exact hS)
 simp only [hp,if_true] at hS
 by_cases c2 : xw = 2
 ·subst c2
  obtain ⟨p1,p2⟩:=(W1.prom hw1 (x:=⟨2,xa,xb,xn⟩)).2 hp
  have hpw:=(W1.prom hw1 (x:=⟨2,xa,xb,xn⟩)).1
  obtain ⟨r2,hr2⟩ : ∃ r2,promX r ⟨2,xa,xb,xn⟩ = r2:=⟨_,rfl⟩
  rw [hr2] at hpw hS
  obtain ⟨⟨L2,S⟩,s1,s2⟩:=W1.both (hpw.trans hw1) p1 p2
  have W2:=W1.step S
  have ha : m.act11 ⟨2,xa,xb,xn⟩ = m.mov xa xb:=rfl
  have hra : r2.ract11 ⟨2,xa,xb,xn⟩ = r2.rmov xa xb:=rfl
  rw [ha] at s1 s2 W2 hS
  rw [hra] at s1 s2 hS
  obtain ⟨⟨e2,m2⟩,he2⟩ : ∃ z,m.mov xa xb = z:=⟨_,rfl⟩
  obtain ⟨⟨e3,r3⟩,he3⟩ : ∃ z,r2.rmov xa xb = z:=⟨_,rfl⟩
  rw [he2] at s1 s2 W2 hS
  rw [he3] at s1 s2 hS
  simp only at s1 s2 W2 hS
  subst s1
  have hwe : (r3.w = m2.w ∧ ∃ L,W11 m2 L) = True:=eq_true ⟨s2,_,W2⟩
  have hx1:=asX_w W2 ⟨2,xa,xb,xn⟩
  have hx2:=raX_w (W2.of_w s2) ⟨2,xa,xb,xn⟩
  obtain ⟨m4,hm4⟩ : ∃ m4,asX m2 ⟨2,xa,xb,xn⟩ = m4:=⟨_,rfl⟩
  obtain ⟨r4,hr4⟩ : ∃ r4,raX r3 ⟨2,xa,xb,xn⟩ = r4:=⟨_,rfl⟩
  rw [hm4] at hx1 hS
  rw [hr4] at hx2 hS
  have hww : r4.w = m4.w:=hx2.trans (s2.trans hx1.symm)
  have hml : m4.w.length = 2048:=by rw [hx1]; exact W2.len
  have hrl : r4.w.length = 2048:=by rw [hww]; exact hml
  have hhas : m4.has 0 2048 = true:=M.has_of (by omega)
  have htk : m4.w.take 2048 = m4.w:=by rw [← hml]; exact List.take_length
  have hb2 : m4.w.length ≤ 8796093022208:=by omega
  obtain ⟨B,hB⟩ : ∃ B : Nat → Blk,B = fun c => ⟨.rw,wc m4.w,c⟩:=⟨_,rfl⟩
  have hBe : ∀ c : Nat,(⟨.rw,wc m4.w,c⟩ : Blk) = B c:=fun c => by rw [hB]
  have hL1 : ∀ c : Nat,listOf (twoH H0 a b p q m4 r4 [B c]) (.sl (.g H0.length) 0 2048 c) = some m4.w:=fun c => listOf_at (st:=.rw) (room:=c) (by rw [hB]; exact IsB.at_x _ _ _ _) (fun x => BK.noConfusion x) hml
  have hL2 : ∀ c : Nat,listOf (twoH H0 a b p q m4 r4 [B c]) (.sl (.g q) 0 2048 2048) = some m4.w:=fun c => by
   have:=listOf_at (c:=2048) (n:=2048) (hbB m4 r4 [B c]) (fun x => BK.noConfusion x) hrl
   rw [this,hww]
  simp (maxSteps:=9999999) only [EV0,zy,zx,zw,zv,zu,zq,zp,zj,zk,leT,zg,rvC,zZ,zY,zX,zW,↓zV,↓zU,reduceCtorEq,zQ,yz,yY,yy,yx,yw,yv,yu,yq,yX,yj,yk,yg,yW,yV,yU,yZ,yQ,xz,df13,TPy,promG,promM,opF,asksG,asksM,dumpG,dumpM,sameWG,he2,he3,movG,movM,rmovG,rmovM,bothF_two I,I.at_c,I.fm,I.fr,Op.cl,bne,put,fillP,hr2,hp,hwe,hm4,hr4,hcp,MB,hrl,hhas,htk,hBe,hL1,hL2,hb2,twoH_app,twoH_len,hl0,beq_self_eq_true,reduceToNat,List.drop_zero,List.length_nil,Nat.add_zero,List.nil_append]
  intro c1 _
  refine fin_of (v:=.s (.b true)) (ls:=[]) (h:=twoH H0 a b p q m4 r4 []) rfl ?_ ?_
  ·rw [twoH_x m4 r4]
   exact drop_b (by simp (maxSteps:=9999999) only [EV0,zy,zx,zw,zv,zu,zq,zp,zj,zk,leT,zg,rvC,zZ,zY,zX,zW,↓zV,↓zU,reduceCtorEq,zQ,yz,yY,yy,yx,yw,yv,yu,yq,yX,yj,yk,yg,yW,yV,yU,yZ,yQ,xz]) (hcl _ _) (Nat.le_of_eq (by first | (rw [twoH_len]; rfl) | rw [twoH_len,twoH_len]))
  ·simp (maxSteps:=9999999) only [EV0,zy,zx,zw,zv,zu,zq,zp,zj,zk,leT,zg,rvC,zZ,zY,zX,zW,↓zV,↓zU,reduceCtorEq,zQ,yz,yY,yy,yx,yw,yv,yu,yq,yX,yj,yk,yg,yW,yV,yU,yZ,yQ,xz]
   exact hS
 have k2 : (xw == 2) = false:=by simpa using c2
 by_cases c3 : xw = 3
 ·subst c3
  obtain ⟨p1,p2⟩:=(W1.prom hw1 (x:=⟨3,xa,xb,xn⟩)).2 hp
  have hpw:=(W1.prom hw1 (x:=⟨3,xa,xb,xn⟩)).1
  obtain ⟨r2,hr2⟩ : ∃ r2,promX r ⟨3,xa,xb,xn⟩ = r2:=⟨_,rfl⟩
  rw [hr2] at hpw hS
  obtain ⟨⟨L2,S⟩,s1,s2⟩:=W1.both (hpw.trans hw1) p1 p2
  have W2:=W1.step S
  have ha : m.act11 ⟨3,xa,xb,xn⟩ = m.swp xa xb:=rfl
  have hra : r2.ract11 ⟨3,xa,xb,xn⟩ = r2.rswp xa xb:=rfl
  rw [ha] at s1 s2 W2 hS
  rw [hra] at s1 s2 hS
  obtain ⟨⟨e2,m2⟩,he2⟩ : ∃ z,m.swp xa xb = z:=⟨_,rfl⟩
  obtain ⟨⟨e3,r3⟩,he3⟩ : ∃ z,r2.rswp xa xb = z:=⟨_,rfl⟩
  rw [he2] at s1 s2 W2 hS
  rw [he3] at s1 s2 hS
  simp only at s1 s2 W2 hS
  subst s1
  have hwe : (r3.w = m2.w ∧ ∃ L,W11 m2 L) = True:=eq_true ⟨s2,_,W2⟩
  have hx1:=asX_w W2 ⟨3,xa,xb,xn⟩
  have hx2:=raX_w (W2.of_w s2) ⟨3,xa,xb,xn⟩
  obtain ⟨m4,hm4⟩ : ∃ m4,asX m2 ⟨3,xa,xb,xn⟩ = m4:=⟨_,rfl⟩
  obtain ⟨r4,hr4⟩ : ∃ r4,raX r3 ⟨3,xa,xb,xn⟩ = r4:=⟨_,rfl⟩
  rw [hm4] at hx1 hS
  rw [hr4] at hx2 hS
  have hww : r4.w = m4.w:=hx2.trans (s2.trans hx1.symm)
  have hml : m4.w.length = 2048:=by rw [hx1]; exact W2.len
  have hrl : r4.w.length = 2048:=by rw [hww]; exact hml
  have hhas : m4.has 0 2048 = true:=M.has_of (by omega)
  have htk : m4.w.take 2048 = m4.w:=by rw [← hml]; exact List.take_length
  have hb2 : m4.w.length ≤ 8796093022208:=by omega
  obtain ⟨B,hB⟩ : ∃ B : Nat → Blk,B = fun c => ⟨.rw,wc m4.w,c⟩:=⟨_,rfl⟩
  have hBe : ∀ c : Nat,(⟨.rw,wc m4.w,c⟩ : Blk) = B c:=fun c => by rw [hB]
  have hL1 : ∀ c : Nat,listOf (twoH H0 a b p q m4 r4 [B c]) (.sl (.g H0.length) 0 2048 c) = some m4.w:=fun c => listOf_at (st:=.rw) (room:=c) (by rw [hB]; exact IsB.at_x _ _ _ _) (fun x => BK.noConfusion x) hml
  have hL2 : ∀ c : Nat,listOf (twoH H0 a b p q m4 r4 [B c]) (.sl (.g q) 0 2048 2048) = some m4.w:=fun c => by
   have:=listOf_at (c:=2048) (n:=2048) (hbB m4 r4 [B c]) (fun x => BK.noConfusion x) hrl
   rw [this,hww]
  simp (maxSteps:=9999999) only [EV0,zy,zx,zw,zv,zu,zq,zp,zj,zk,leT,zg,rvC,zZ,zY,zX,zW,↓zV,↓zU,reduceCtorEq,zQ,yz,yY,yy,yx,yw,yv,yu,yq,yX,yj,yk,yg,yW,yV,yU,yZ,yQ,xz,df13,TPy,promG,promM,opF,asksG,asksM,dumpG,dumpM,sameWG,he2,he3,swpG,swpM,rswpG,rswpM,bothF_two I,I.at_c,I.fm,I.fr,Op.cl,bne,put,fillP,hr2,hp,hwe,hm4,hr4,hcp,MB,hrl,hhas,htk,hBe,hL1,hL2,hb2,twoH_app,twoH_len,hl0,beq_self_eq_true,reduceToNat,List.drop_zero,List.length_nil,Nat.add_zero,List.nil_append]
  intro c1 _
  refine fin_of (v:=.s (.b true)) (ls:=[]) (h:=twoH H0 a b p q m4 r4 []) rfl ?_ ?_
  ·rw [twoH_x m4 r4]
   exact drop_b (by simp (maxSteps:=9999999) only [EV0,zy,zx,zw,zv,zu,zq,zp,zj,zk,leT,zg,rvC,zZ,zY,zX,zW,↓zV,↓zU,reduceCtorEq,zQ,yz,yY,yy,yx,yw,yv,yu,yq,yX,yj,yk,yg,yW,yV,yU,yZ,yQ,xz]) (hcl _ _) (Nat.le_of_eq (by first | (rw [twoH_len]; rfl) | rw [twoH_len,twoH_len]))
  ·simp (maxSteps:=9999999) only [EV0,zy,zx,zw,zv,zu,zq,zp,zj,zk,leT,zg,rvC,zZ,zY,zX,zW,↓zV,↓zU,reduceCtorEq,zQ,yz,yY,yy,yx,yw,yv,yu,yq,yX,yj,yk,yg,yW,yV,yU,yZ,yQ,xz]
   exact hS
 have k3 : (xw == 3) = false:=by simpa using c3
 by_cases c4 : xw = 4
 ·subst c4
  obtain ⟨p1,p2⟩:=(W1.prom hw1 (x:=⟨4,xa,xb,xn⟩)).2 hp
  have hpw:=(W1.prom hw1 (x:=⟨4,xa,xb,xn⟩)).1
  obtain ⟨r2,hr2⟩ : ∃ r2,promX r ⟨4,xa,xb,xn⟩ = r2:=⟨_,rfl⟩
  rw [hr2] at hpw hS
  obtain ⟨⟨L2,S⟩,s1,s2⟩:=W1.both (hpw.trans hw1) p1 p2
  have W2:=W1.step S
  have ha : m.act11 ⟨4,xa,xb,xn⟩ = m.rem xa:=rfl
  have hra : r2.ract11 ⟨4,xa,xb,xn⟩ = r2.rrem xa:=rfl
  rw [ha] at s1 s2 W2 hS
  rw [hra] at s1 s2 hS
  obtain ⟨⟨e2,m2⟩,he2⟩ : ∃ z,m.rem xa = z:=⟨_,rfl⟩
  obtain ⟨⟨e3,r3⟩,he3⟩ : ∃ z,r2.rrem xa = z:=⟨_,rfl⟩
  rw [he2] at s1 s2 W2 hS
  rw [he3] at s1 s2 hS
  simp only at s1 s2 W2 hS
  subst s1
  have hwe : (r3.w = m2.w ∧ ∃ L,W11 m2 L) = True:=eq_true ⟨s2,_,W2⟩
  have hx1:=asX_w W2 ⟨4,xa,xb,xn⟩
  have hx2:=raX_w (W2.of_w s2) ⟨4,xa,xb,xn⟩
  obtain ⟨m4,hm4⟩ : ∃ m4,asX m2 ⟨4,xa,xb,xn⟩ = m4:=⟨_,rfl⟩
  obtain ⟨r4,hr4⟩ : ∃ r4,raX r3 ⟨4,xa,xb,xn⟩ = r4:=⟨_,rfl⟩
  rw [hm4] at hx1 hS
  rw [hr4] at hx2 hS
  have hww : r4.w = m4.w:=hx2.trans (s2.trans hx1.symm)
  have hml : m4.w.length = 2048:=by rw [hx1]; exact W2.len
  have hrl : r4.w.length = 2048:=by rw [hww]; exact hml
  have hhas : m4.has 0 2048 = true:=M.has_of (by omega)
  have htk : m4.w.take 2048 = m4.w:=by rw [← hml]; exact List.take_length
  have hb2 : m4.w.length ≤ 8796093022208:=by omega
  obtain ⟨B,hB⟩ : ∃ B : Nat → Blk,B = fun c => ⟨.rw,wc m4.w,c⟩:=⟨_,rfl⟩
  have hBe : ∀ c : Nat,(⟨.rw,wc m4.w,c⟩ : Blk) = B c:=fun c => by rw [hB]
  have hL1 : ∀ c : Nat,listOf (twoH H0 a b p q m4 r4 [B c]) (.sl (.g H0.length) 0 2048 c) = some m4.w:=fun c => listOf_at (st:=.rw) (room:=c) (by rw [hB]; exact IsB.at_x _ _ _ _) (fun x => BK.noConfusion x) hml
  have hL2 : ∀ c : Nat,listOf (twoH H0 a b p q m4 r4 [B c]) (.sl (.g q) 0 2048 2048) = some m4.w:=fun c => by
   have:=listOf_at (c:=2048) (n:=2048) (hbB m4 r4 [B c]) (fun x => BK.noConfusion x) hrl
   rw [this,hww]
  simp (maxSteps:=9999999) only [EV0,zy,zx,zw,zv,zu,zq,zp,zj,zk,leT,zg,rvC,zZ,zY,zX,zW,↓zV,↓zU,reduceCtorEq,zQ,yz,yY,yy,yx,yw,yv,yu,yq,yX,yj,yk,yg,yW,yV,yU,yZ,yQ,xz,df13,TPy,promG,promM,opF,asksG,asksM,dumpG,dumpM,sameWG,he2,he3,remG,remM,rremG,rremM,bothF_two I,I.at_c,I.fm,I.fr,Op.cl,bne,put,fillP,hr2,hp,hwe,hm4,hr4,hcp,MB,hrl,hhas,htk,hBe,hL1,hL2,hb2,twoH_app,twoH_len,hl0,beq_self_eq_true,reduceToNat,List.drop_zero,List.length_nil,Nat.add_zero,List.nil_append]
  intro c1 _
  refine fin_of (v:=.s (.b true)) (ls:=[]) (h:=twoH H0 a b p q m4 r4 []) rfl ?_ ?_
  ·rw [twoH_x m4 r4]
   exact drop_b (by simp (maxSteps:=9999999) only [EV0,zy,zx,zw,zv,zu,zq,zp,zj,zk,leT,zg,rvC,zZ,zY,zX,zW,↓zV,↓zU,reduceCtorEq,zQ,yz,yY,yy,yx,yw,yv,yu,yq,yX,yj,yk,yg,yW,yV,yU,yZ,yQ,xz]) (hcl _ _) (Nat.le_of_eq (by first | (rw [twoH_len]; rfl) | rw [twoH_len,twoH_len]))
  ·simp (maxSteps:=9999999) only [EV0,zy,zx,zw,zv,zu,zq,zp,zj,zk,leT,zg,rvC,zZ,zY,zX,zW,↓zV,↓zU,reduceCtorEq,zQ,yz,yY,yy,yx,yw,yv,yu,yq,yX,yj,yk,yg,yW,yV,yU,yZ,yQ,xz]
   exact hS
 have k4 : (xw == 4) = false:=by simpa using c4
 obtain ⟨p1,p2⟩:=(W1.prom hw1 (x:=⟨xw,xa,xb,xn⟩)).2 hp
 have hpw:=(W1.prom hw1 (x:=⟨xw,xa,xb,xn⟩)).1
 obtain ⟨r2,hr2⟩ : ∃ r2,promX r ⟨xw,xa,xb,xn⟩ = r2:=⟨_,rfl⟩
 rw [hr2] at hpw hS
 obtain ⟨⟨L2,S⟩,s1,s2⟩:=W1.both (hpw.trans hw1) p1 p2
 have W2:=W1.step S
 have ha : m.act11 ⟨xw,xa,xb,xn⟩ = (0,m):=by unfold M.act11; simp only [c1,c2,c3,c4,if_false]
 have hra : r2.ract11 ⟨xw,xa,xb,xn⟩ = (0,r2):=by unfold M.ract11; simp only [c1,c2,c3,c4,if_false]
 rw [ha] at s2 W2 hS
 rw [hra] at s2 hS
 simp only at s2 W2 hS
 have hwe : (r2.w = m.w ∧ ∃ L,W11 m L) = True:=eq_true ⟨s2,_,W2⟩
 have hx1:=asX_w W2 ⟨xw,xa,xb,xn⟩
 have hx2:=raX_w (W2.of_w s2) ⟨xw,xa,xb,xn⟩
 obtain ⟨m4,hm4⟩ : ∃ m4,asX m ⟨xw,xa,xb,xn⟩ = m4:=⟨_,rfl⟩
 obtain ⟨r4,hr4⟩ : ∃ r4,raX r2 ⟨xw,xa,xb,xn⟩ = r4:=⟨_,rfl⟩
 rw [hm4] at hx1 hS
 rw [hr4] at hx2 hS
 have hww : r4.w = m4.w:=hx2.trans (s2.trans hx1.symm)
 have hml : m4.w.length = 2048:=by rw [hx1]; exact W2.len
 have hrl : r4.w.length = 2048:=by rw [hww]; exact hml
 have hhas : m4.has 0 2048 = true:=M.has_of (by omega)
 have htk : m4.w.take 2048 = m4.w:=by rw [← hml]; exact List.take_length
 have hb2 : m4.w.length ≤ 8796093022208:=by omega
 obtain ⟨B,hB⟩ : ∃ B : Nat → Blk,B = fun c => ⟨.rw,wc m4.w,c⟩:=⟨_,rfl⟩
 have hBe : ∀ c : Nat,(⟨.rw,wc m4.w,c⟩ : Blk) = B c:=fun c => by rw [hB]
 have hL1 : ∀ c : Nat,listOf (twoH H0 a b p q m4 r4 [B c]) (.sl (.g H0.length) 0 2048 c) = some m4.w:=fun c => listOf_at (st:=.rw) (room:=c) (by rw [hB]; exact IsB.at_x _ _ _ _) (fun x => BK.noConfusion x) hml
 have hL2 : ∀ c : Nat,listOf (twoH H0 a b p q m4 r4 [B c]) (.sl (.g q) 0 2048 2048) = some m4.w:=fun c => by
  have:=listOf_at (c:=2048) (n:=2048) (hbB m4 r4 [B c]) (fun x => BK.noConfusion x) hrl
  rw [this,hww]
 simp (maxSteps:=9999999) only [EV0,zy,zx,zw,zv,zu,zq,zp,zj,zk,leT,zg,rvC,zZ,zY,zX,zW,↓zV,↓zU,reduceCtorEq,zQ,yz,yY,yy,yx,yw,yv,yu,yq,yX,yj,yk,yg,yW,yV,yU,yZ,yQ,xz,df13,TPy,promG,promM,opF,asksG,asksM,dumpG,dumpM,sameWG,bothF_two I,I.at_c,I.fm,I.fr,Op.cl,bne,put,fillP,c1,k1,c2,k2,c3,k3,c4,k4,hr2,hp,hwe,hm4,hr4,hcp,MB,hrl,hhas,htk,hBe,hL1,hL2,hb2,twoH_app,twoH_len,hl0,beq_self_eq_true,reduceToNat,List.drop_zero,List.length_nil,Nat.add_zero,List.nil_append]
 intro c1 _
 refine fin_of (v:=.s (.b true)) (ls:=[]) (h:=twoH H0 a b p q m4 r4 []) rfl ?_ ?_
 ·rw [twoH_x m4 r4]
  exact drop_b (by simp (maxSteps:=9999999) only [EV0,zy,zx,zw,zv,zu,zq,zp,zj,zk,leT,zg,rvC,zZ,zY,zX,zW,↓zV,↓zU,reduceCtorEq,zQ,yz,yY,yy,yx,yw,yv,yu,yq,yX,yj,yk,yg,yW,yV,yU,yZ,yQ,xz]) (hcl _ _) (Nat.le_of_eq (by first | (rw [twoH_len]; rfl) | rw [twoH_len,twoH_len]))
 ·simp (maxSteps:=9999999) only [EV0,zy,zx,zw,zv,zu,zq,zp,zj,zk,leT,zg,rvC,zZ,zY,zX,zW,↓zV,↓zU,reduceCtorEq,zQ,yz,yY,yy,yx,yw,yv,yu,yq,yX,yj,yk,yg,yW,yV,yU,yZ,yQ,xz]
  exact hS
def cdtPlaysS : FSpec:=fun args h K => ∃ (s : S) (L : List Op),args = [.s s] ∧ IsArr Op.cl h s L ∧ (∀ x,x ∈ L → x.u) ∧ L.length ≤ 9223372036854775807 ∧ ∀ h',K (.s (.b true)) h'
noncomputable def TPz : Tab:=addT 11 awake11G (addT 12 madeG (addT 13 playsG (noT)))
theorem TPz_snd : TPz.Snd Tryz.prog:=addT_snd ok11 awake11_snd (addT_snd ok12 made_snd (addT_snd ok13 plays_snd ((noT_snd _))))
theorem cdtPlays_snd : Snd Tryz.prog 3 cdtPlaysS:=(fwp_sound (Tab.snd_Γ TPz_snd) mixed Tryz.func3 dc3).weaken fun args h K hc hS => by
 obtain ⟨s,L,rfl,Hs,hu,l1,hK⟩:=hS
 refine fwp_run (Tab.ok_Γ _) 400 ?_
 have hlen:=fun ls h' => Hs.sl.len (ls:=ls) (h:=h')
 have hkn:=Hs.sl.known
 have hnl:=Hs.sl.noL
 by_cases c1 : (2147483647 : Int) < (L.length : Int)
 ·simp (maxSteps:=9999999) only [EV0,zy,zx,zw,zv,zu,zq,zp,zj,zk,leT,zg,rvC,zZ,zY,zX,zW,↓zV,↓zU,reduceCtorEq,zQ,yz,yY,yy,yx,yw,yv,yu,yq,yX,yj,yk,yg,yW,yV,yU,yZ,yQ,xz,df3,TPz,↓hlen,↓hkn,↓hnl,c1]
  exact hK _
 ·simp (maxSteps:=9999999) only [EV0,zy,zx,zw,zv,zu,zq,zp,zj,zk,leT,zg,rvC,zZ,zY,zX,zW,↓zV,↓zU,reduceCtorEq,zQ,yz,yY,yy,yx,yw,yv,yu,yq,yX,yj,yk,yg,yW,yV,yU,yZ,yQ,xz,df3,TPz,awake11G,madeG,↓hlen,↓hkn,↓hnl,c1]
  refine loop_rule (α:=Nat × M × M) [2,5,6,14,15,16,17,18,19,20,21,22,23,24,25,26,27] (fun z => [(5, .s (.i .i64 (z.1 : Int)))]) (fun _ => []) (fun z => bH h z.2.1 z.2.2 []) (fun z => z.1 ≤ L.length ∧ z.2.2.w = z.2.1.w ∧ ∃ Q,W11 z.2.1 Q) (fun z => L.length - z.1) (0,z11,z11) ⟨Nat.zero_le _,rfl,⟨_,W11.zero⟩⟩ ?_ ?_
  ·refine Wk.same rfl rfl ?_
   simp (maxSteps:=9999999) only [EV0,zy,zx,zw,zv,zu,zq,zp,zj,zk,leT,zg,rvC,zZ,zY,zX,zW,↓zV,↓zU,reduceCtorEq,zQ,yz,yY,yy,yx,yw,yv,yu,yq,yX,yj,yk,yg,yW,yV,yU,yZ,yQ,xz,Int.natCast_zero]
  ·rintro X ⟨i,m,r⟩ ⟨hi,hw,⟨Q,W⟩⟩ IH
   simp only at hi hw W ⊢
   rcases Nat.lt_or_ge i L.length with h1 | h1
   ·obtain ⟨d1,d2,d3,d4⟩:=idx h1 l1
    obtain ⟨j,cc,st,room,hse,hj,hd⟩:=Hs.at h1
    obtain ⟨x,hx⟩ : ∃ x,nth opZ L i = x:=⟨_,rfl⟩
    have hxu : x.u:=by rw [← hx]; exact hu _ (nth_mem h1)
    have hs : sub (arr Op.cl L) (i * 4) 4 = x.cl:=by rw [← hx,nth_eq h1]; exact arr_sub Op.cl_len h1
    have hle : i * 4 + 4 ≤ (arr Op.cl L).length:=by rw [arr_length Op.cl_len]; omega
    simp only [Op.cl] at hs
    obtain ⟨g1,g2⟩:=W.pla hw x
    have hob : ∀ m r X,(bH h m r X)[j]? = _:=fun m r X => bH_old hj m r X
    have hpe : (r.w = m.w ∧ x.u ∧ ∃ L,W11 m L) = True:=eq_true ⟨hw,hxu,Q,W⟩
    have heta : (⟨x.wh,x.a,x.b,x.n⟩ : Op) = x:=rfl
    subst hse
    refine run_sound (Tab.ok_Γ _) 300 _ _ _ _ ?_
    simp (maxSteps:=9999999) only [EV0,zy,zx,zw,zv,zu,zq,zp,zj,zk,leT,zg,rvC,zZ,zY,zX,zW,↓zV,↓zU,reduceCtorEq,zQ,yz,yY,yy,yx,yw,yv,yu,yq,yX,yj,yk,yg,yW,yV,yU,yZ,yQ,xz,TPz,playsG,playsM,opF,heta,bH_fb,↓hlen,↓hkn,↓hnl,d1,d2,d3,d4,hob,hd,hs,hle,hpe,Int.toNat_natCast,put,fillP]
    refine IH (i + 1,(plaX m r x).1,(plaX m r x).2) _ (by simp only; omega) ⟨by simp only; omega,g1,g2⟩ ?_
    exact Wk.same rfl rfl (by simp (maxSteps:=9999999) only [EV0,zy,zx,zw,zv,zu,zq,zp,zj,zk,leT,zg,rvC,zZ,zY,zX,zW,↓zV,↓zU,reduceCtorEq,zQ,yz,yY,yy,yx,yw,yv,yu,yq,yX,yj,yk,yg,yW,yV,yU,yZ,yQ,xz])
   ·have e0 : i = L.length:=by omega
    subst e0
    clear IH
    refine run_sound (Tab.ok_Γ _) 300 _ _ _ _ ?_
    simp (maxSteps:=9999999) only [EV0,zy,zx,zw,zv,zu,zq,zp,zj,zk,leT,zg,rvC,zZ,zY,zX,zW,↓zV,↓zU,reduceCtorEq,zQ,yz,yY,yy,yx,yw,yv,yu,yq,yX,yj,yk,yg,yW,yV,yU,yZ,yQ,xz,TPz,↓hlen,↓hkn,↓hnl,Int.lt_irrefl]
    exact hK _
end Go.Proofs.YtcdfofeolgbnbaaGreat

/- CdtPlays: for every input the law's Go function answers true,and its arguments read behind the call as before. No conditions. -/
namespace Go.Proofs.YtcdfofeolgbnbaaGreat
open Go.D
set_option linter.all false
set_option maxRecDepth 100000

theorem cdtPlays_law : Law cdtPlaysS [(false,[.slice OpT])]:=by
 intro h us H hc
 obtain ⟨_,_,rfl,H1,H⟩:=lawC H
 obtain rfl:=lawN H
 obtain ⟨s,L,rfl,e1,e2,e3⟩:=hasV_slice (c:=Op.cl) (p:=Op.u) (fun ss h => hasTs_op11 h) H1
 exact ⟨s,L,rfl,e1,e2,by omega,fun _ => rfl⟩
theorem cdtPlays_row : RowOk Tryz.prog 3 Tryz.f3 Rows.cdtPlaysSpec [(false,[.slice OpT])] where
 own:=own
 noTabs:=rfl
 noInit:=by kernel_rfl
 isf:=Tryz.func3
 laid:=laid
 rowed:=rowed
 full:=full
 params:=by kernel_rfl
 vars:=rfl
 ret:=⟨_,rfl,by kernel_rfl⟩
 spec:=fun H ds e => by
  match ds,e with
  | [_],_ => rfl
 tys:=⟨20,by kernel_rfl⟩
theorem cdtPlays_holds : Rows.CdtPlaysSaid :=
 OpenClaim.holds_of_wide 3 Tryz.f3 rfl rfl rfl rfl rfl rfl rfl ⟨rfl,rfl,rfl,rfl,rfl⟩ rfl rfl rfl rfl rfl (by kernel_rfl) Tryz.func3 (by kernel_rfl)
  (of_decide_eq_true (by kernel_rfl)) (by unfold Func.isWrapper; first | (rw [if_pos (by decide +kernel)]; kernel_rfl) | (rw [if_neg (by decide +kernel)]; exact ⟨rfl,rfl⟩))
  (fun os started H enc _ => cdtPlays_row.lifted (C:=Tryz.checked) cdtPlays_snd cdtPlays_law started (ChangeSpec.witness6 (enc:=enc) (C:=Tryz.checked) false ⟨#[], #[.slice none 0 0],[]⟩ 8 (by kernel_rfl) (by kernel_rfl) (by kernel_rfl) (by kernel_rfl)))
end Go.Proofs.YtcdfofeolgbnbaaGreat

