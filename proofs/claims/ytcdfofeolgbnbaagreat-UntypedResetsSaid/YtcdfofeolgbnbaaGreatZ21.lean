/- Package objs: registers,entries,roots,in code and document. -/
import Derived.Test.YtcdfofeolgbnbaaGreatZ20
import Derived.Test.YtcdfofeolgbnbaaGreatZ11
import Derived.Test.YtcdfofeolgbnbaaGreatZ18
import Derived.Test.YtcdfofeolgbnbaaGreatZ16
import Derived.Test.YtcdfofeolgbnbaaGreatZ19
import Derived.Test.YtcdfofeolgbnbaaGreatZ15
import Derived.Test.YtcdfofeolgbnbaaGreatZ14
/- Lists that are in order: how long they are; those behind one that lie deeper. -/
namespace Go.Proofs.YtcdfofeolgbnbaaGreat
open Go.D
set_option linter.all false
set_option maxRecDepth 100000
set_option maxHeartbeats 4000000

def i64b (n:Int):Prop:=-9223372036854775808<=n/\n<9223372036854775808
theorem len_sub:∀ {L Q:List Int},L.Nodup->(∀ x,x∈L->x∈Q)->L.length<=Q.length
 | [],_,_,_=>Nat.zero_le _
 | x::L,Q,hn,h=>by
  obtain ⟨h1,h2⟩:=List.nodup_cons.1 hn
  have hx:=h x List.mem_cons_self
  have h3:=len_sub (L:=L) (Q:=Q.erase x) h2 fun y hy=>by
   have hne:y≠x:=fun e=>h1 (e ▸ hy)
   exact (List.mem_erase_of_ne hne).2 (h y (List.mem_cons_of_mem _ hy))
  have h4:=List.length_erase_of_mem hx
  have h5:=List.length_pos_of_mem hx
  simp only [List.length_cons]
  omega
theorem gV_fun {m m':M} (e:m'.w=m.w):m'.gV=m.gV:=funext fun x=>gV_w e x
theorem M.Inv.of_w {m m':M} {P:Int->Prop} {L:List Int} (I:m.Inv P L) (e:m'.w=m.w):m'.Inv P L:=by
 refine ⟨by rw [e]; exact I.len,by rw [at_w e,fst_w e]; exact I.two,I.nd,fun x hx=>by rw [fE_w e]; exact I.full x hx,by rw [gV_fun e]; exact I.ch,by rw [fst_w e]; exact I.fst,fun x hx=>?_⟩
 rw [gE_w e,gV_w e]
 exact I.out x hx
def deep (V:Int->Slot) (d:Int) (L:List Int):List Int:=L.takeWhile fun y=>decide (d<(V y).depth)
def allS (n:Nat):List Int:=(List.range (n/4)).map fun (i:Nat)=>(4*i:Int)
theorem allS_len (n:Nat):(allS n).length=n/4:=by simp [allS]
theorem there_all {m:M} {x:Int} (h:thereB m x=true):x∈allS m.w.length:=by
 have hb:=there_iff.1 h
 rw [Int.tmod_eq_emod_of_nonneg (by omega)] at hb
 refine List.mem_map.2 ⟨(x/4).toNat,List.mem_range.2 (by omega),by omega⟩
theorem M.Inv.llen {m:M} {P:Int->Prop} {L:List Int} (I:m.Inv P L):L.length<m.w.length/4:=by
 have h0:(0:Int)∉L:=I.no0
 have hl:=I.len
 have h1:=len_sub (L:=0::L) (Q:=allS m.w.length) (List.nodup_cons.2 ⟨h0,I.nd⟩) fun x hx=>by
  rcases List.mem_cons.1 hx with rfl|hx
  ·exact List.mem_map.2 ⟨0,List.mem_range.2 (by omega),by simp⟩
  ·exact there_all (fE_there (I.full x hx))
 rw [allS_len] at h1
 simp only [List.length_cons] at h1
 omega

/-! ### Mask -/
/-! ### slots,caps -/
def slot9M (b:Nat) (m:M) (st:M->List Blk):List V->Res
 | [.s (.i .i64 a)]=>.ok (.agg (m.gV a).cl) [] (st (m.gX a))
 | _=>.bad
noncomputable def slot9G:=memF slot9M
def cap9M (b:Nat) (m:M) (st:M->List Blk):List V->Res
 | [.s (.i .i64 a)]=>.ok (.agg (m.gV a).cap.cl) [] (st (m.gX a))
 | _=>.bad
noncomputable def cap9G:=memF cap9M
def M.scX (m:M) (a:Int) (c:Cap):M:=(m.gX a).pX a ⟨c,(m.gV a).prev,(m.gV a).next,(m.gV a).depth⟩
def setCap9M (b:Nat) (m:M) (st:M->List Blk):List V->Res
 | [.s (.i .i64 a),x]=>capF (fun c=>.ok (.tup []) [] (st (m.scX a c))) [x]
 | _=>.bad
noncomputable def setCap9G:=memF setCap9M
noncomputable def T9a:Tab:=addT 26 get2G (addT 126 get2G (addT 79 put2G (addT 118 put2G (noT))))
theorem T9a_snd:T9a.Snd Tryz.prog:=addT_snd ok26 get2_snd (addT_snd ok126 rget2_snd (addT_snd ok79 put2_snd (addT_snd ok118 rput2_snd ((noT_snd _)))))
theorem slot9_snd:Snd Tryz.prog 136 (FSpec.of slot9G):=snd_run T9a_snd mixed Tryz.func136 dc136 200 fun args h K hc hS=>by
 obtain ⟨a,b,m,rest,rfl,H,hS1⟩:=memF_spec hS
 clear hS
 have hS:=hS1
 clear hS1
 unfold slot9M at hS
 split at hS
 ·rename_i x
  simp only [spec_ok,Slot.cl] at hS
  simp (maxSteps:=999999) only [go_sem,simprocAttr,↓qT,↓qF,df136,T9a,get2G,memF_eq H,get2M,Slot.cl,sub,put,fillP,EVt]
  exact hS
 ·exact hS.elim
noncomputable def T9b:Tab:=addT 136 slot9G (T9a)
theorem T9b_snd:T9b.Snd Tryz.prog:=addT_snd ok136 slot9_snd (T9a_snd)
theorem cap9_snd:Snd Tryz.prog 67 (FSpec.of cap9G):=snd_run T9b_snd mixed Tryz.func67 dc67 200 fun args h K hc hS=>by
 obtain ⟨a,b,m,rest,rfl,H,hS1⟩:=memF_spec hS
 clear hS
 have hS:=hS1
 clear hS1
 unfold cap9M at hS
 split at hS
 ·rename_i x
  simp only [spec_ok,Cap.cl] at hS
  simp (maxSteps:=999999) only [go_sem,simprocAttr,↓qT,↓qF,df67,T9b,T9a,get2G,slot9G,memF_eq H,get2M,slot9M,Slot.cl,sub,put,fillP,EVt]
  exact hS
 ·exact hS.elim
theorem rcap9_snd:Snd Tryz.prog 66 (FSpec.of cap9G):=snd_run T9b_snd mixed Tryz.func66 dc66 200 fun args h K hc hS=>by
 obtain ⟨a,b,m,rest,rfl,H,hS1⟩:=memF_spec hS
 clear hS
 have hS:=hS1
 clear hS1
 unfold cap9M at hS
 split at hS
 ·rename_i x
  simp only [spec_ok,Cap.cl] at hS
  simp (maxSteps:=999999) only [go_sem,simprocAttr,↓qT,↓qF,df66,T9b,T9a,get2G,slot9G,memF_eq H,get2M,slot9M,Slot.cl,sub,put,fillP,EVt]
  exact hS
 ·exact hS.elim
theorem setCap9_snd:Snd Tryz.prog 71 (FSpec.of setCap9G):=snd_run T9b_snd mixed Tryz.func71 dc71 200 fun args h K hc hS=>by
 obtain ⟨a,b,m,rest,rfl,H,hS1⟩:=memF_spec hS
 clear hS
 have hS:=hS1
 clear hS1
 unfold setCap9M at hS
 split at hS
 ·rename_i x y
  obtain ⟨c,e,hS2⟩:=capF_spec hS
  simp only [List.cons.injEq,and_true] at e
  subst e
  clear hS
  simp only [spec_ok,M.scX] at hS2
  simp (maxSteps:=999999) only [go_sem,simprocAttr,↓qT,↓qF,df71,T9b,T9a,get2G,slot9G,put2G,put2M,slotF,slot_eta,cap_eta,memF_eq H,memF_set H,setM_fun H,get2M,slot9M,Slot.cl,Cap.cl,sub,put,fillP,EVt]
  exact hS2
 ·exact hS.elim
/-! ### what fits -/
def fitB (c:Cap) (a:Int):Bool:=if (c.ty==2)=true then decide (a<c.obj) else if (c.ty==3)=true then decide (a<c.obj) else if (c.ty==10)=true then decide (a<c.obj) else true
def fitG:List V->List Blk->Res
 | [x, .s (.i .i64 a)],h=>capF (fun c=>.ok (.s (.b (fitB c a))) [] h) [x]
 | _,_=>.bad
theorem fit_snd:Snd Tryz.prog 69 (FSpec.of fitG):=snd_run (noT_snd _) mixed Tryz.func69 dc69 200 fun args h K hc hS=>by
 unfold fitG at hS
 split at hS
 ·rename_i x a
  obtain ⟨c,e,hS2⟩:=capF_spec hS
  simp only [List.cons.injEq,and_true] at e
  subst e
  clear hS
  simp only [spec_ok,fitB] at hS2
  cases h1:c.ty==2
  all_goals cases h2:c.ty==3
  all_goals cases h3:c.ty==10
  all_goals simp only [h1,h2,h3,Bool.false_eq_true,if_true,if_false] at hS2
  all_goals (simp (maxSteps:=999999) only [go_sem,simprocAttr,↓qT,↓qF,df69,Cap.cl,h1,h2,h3,sub,put,fillP,EVt])
  all_goals exact hS2
 ·exact hS.elim
/-! ### a cap as a copy would have it -/
end Go.Proofs.YtcdfofeolgbnbaaGreat

/- Package derive,and the document's: lay,empty,ends,copied,moves. -/
namespace Go.Proofs.YtcdfofeolgbnbaaGreat
open Go.D
open Nat (reduceAdd reducePow reduceMul reduceSub reduceLeDiff reduceLT reduceEqDiff)
open Int (reduceNeg reduceLE reduceEq reduceNe reduceToNat)
open Go.D renaming istep → zy,pickR → zx,bin1R → zw,un1R → zv,eqS → zu,eq1 → zq,cmpS → zp,cmp1 → zj,isNil → zk,shows → zg,result → zZ,qT → zV,qF → zU
open List renaming set → zY,replicate → zX
open Option renaming map → zW
open Nat renaming reduceAdd → zQ,reducePow → yz,reduceMul → yy,reduceSub → yx,reduceLeDiff → yw,reduceLT → yv,reduceEqDiff → yu
open Int renaming reduceNeg → yq,reduceLE → yp,reduceEq → yj,reduceNe → yk,reduceToNat → yg,reducePow → yZ,reduceLT → yY,reduceAdd → yX,reduceSub → yW,reduceMul → yV,reduceBEq → yU,reduceBNe → yQ
set_option linter.all false
set_option maxRecDepth 100000
set_option maxHeartbeats 4000000

/-! ### a guard -/
/-! ### laid as a child; empty -/
def M.layX (m:M) (p a:Int) (c:Cap):M:=((m.pX a ⟨c,0,0,0⟩).ins p a).2
def M.rlayX (m:M) (p a:Int) (c:Cap):M:=((m.pX a ⟨c,0,0,0⟩).rins p a).2
def lay9M (f:M->Int->Int->Cap->M) (b:Nat) (m:M) (st:M->List Blk):List V->Res
 | [.s (.i .i64 p), .s (.i .i64 a),x]=>capF (fun c=>.ok (.tup []) [] (st (f m p a c))) [x]
 | _=>.bad
noncomputable def lay9G:=memF (lay9M M.layX)
noncomputable def rlay9G:=memF (lay9M M.rlayX)
noncomputable def T9c:Tab:=addT 79 put2G (addT 118 put2G (addT 45 insG (addT 52 rinsG (noT))))
theorem T9c_snd:T9c.Snd Tryz.prog:=addT_snd ok79 put2_snd (addT_snd ok118 rput2_snd (addT_snd ok45 ins_snd (addT_snd ok52 rins_snd ((noT_snd _)))))
theorem lay9_snd:Snd Tryz.prog 73 (FSpec.of lay9G):=snd_run T9c_snd mixed Tryz.func73 dc73 200 fun args h K hc hS=>by
 obtain ⟨a,b,m,rest,rfl,H,hS1⟩:=memF_spec hS
 clear hS
 have hS:=hS1
 clear hS1
 unfold lay9M at hS
 split at hS
 ·rename_i p a' x
  obtain ⟨c,e,hS2⟩:=capF_spec hS
  simp only [List.cons.injEq,and_true] at e
  subst e
  clear hS
  simp only [spec_ok,M.layX] at hS2
  simp (maxSteps:=999999) only [EV0,zy,zx,zw,zv,zu,zq,zp,zj,zk,leT,zg,rvC,zZ,zY,zX,zW,↓zV,↓zU,reduceCtorEq,zQ,yz,yZ,yy,yx,yw,yv,yu,yq,yY,yp,yj,yk,yX,yW,yV,yg,yU,yQ,df73,T9c,put2G,put2M,insG,insM,memF_eq H,memF_set H,setM_fun H,setM_self H,slotF,capF,slot_eta,cap_eta,Slot.cl,Cap.cl,sub,put,fillP,EVt]
  exact hS2
 ·exact hS.elim
theorem rlay9_snd:Snd Tryz.prog 133 (FSpec.of rlay9G):=snd_run T9c_snd mixed Tryz.func133 dc133 200 fun args h K hc hS=>by
 obtain ⟨a,b,m,rest,rfl,H,hS1⟩:=memF_spec hS
 clear hS
 have hS:=hS1
 clear hS1
 unfold lay9M at hS
 split at hS
 ·rename_i p a' x
  obtain ⟨c,e,hS2⟩:=capF_spec hS
  simp only [List.cons.injEq,and_true] at e
  subst e
  clear hS
  simp only [spec_ok,M.rlayX] at hS2
  simp (maxSteps:=999999) only [EV0,zy,zx,zw,zv,zu,zq,zp,zj,zk,leT,zg,rvC,zZ,zY,zX,zW,↓zV,↓zU,reduceCtorEq,zQ,yz,yZ,yy,yx,yw,yv,yu,yq,yY,yp,yj,yk,yX,yW,yV,yg,yU,yQ,df133,T9c,put2G,put2M,rinsG,rinsM,memF_eq H,memF_set H,setM_fun H,setM_self H,slotF,capF,slot_eta,cap_eta,Slot.cl,Cap.cl,sub,put,fillP,EVt]
  exact hS2
 ·exact hS.elim
/-! ### two slots -/
/-! ### what a copy lays down -/
end Go.Proofs.YtcdfofeolgbnbaaGreat

/- Package derive,and the document's: Copy,Mint,Move,Mutate,Rotate. -/
namespace Go.Proofs.YtcdfofeolgbnbaaGreat
open Go.D
set_option linter.all false
set_option maxRecDepth 100000
set_option maxHeartbeats 8000000

/-! ### Mint -/
/-! ### Move,Mutate -/
/-! ### Rotate -/

def pickV (c n:Int):Int:=(if c<0 then IntKind.i64.wrap (0-IntKind.i64.wrap (c+1)) else c).tmod n
def pickG:List V->List Blk->Res
 | [.s (.i .i64 c), .s (.i .i64 n)],h=>.ob (n≠0) (.ok (.s (.i .i64 (pickV c n))) [] h)
 | _,_=>.bad
theorem pick_snd:Snd Tryz.prog 18 (FSpec.of pickG):=snd_run (noT_snd _) mixed Tryz.func18 dc18 100 fun args h K hc hS=>by
 unfold pickG at hS
 split at hS
 ·rename_i c n
  obtain ⟨hn,hS⟩:=hS
  have hn:¬ n=0:=hn
  simp only [spec_ok,pickV] at hS
  by_cases c1:c<0
  ·simp only [c1,if_true] at hS
   simp (maxSteps:=999999) only [go_sem,simprocAttr,↓qT,↓qF,df18,c1,hn]
   exact hS
  ·simp only [c1,if_false] at hS
   simp (maxSteps:=999999) only [go_sem,simprocAttr,↓qT,↓qF,df18,c1,hn]
   exact hS
 ·exact hS.elim
def plcV (n:Int):Int:=if pickV n 44<32 then IntKind.i64.wrap (2048+IntKind.i64.wrap (4*pickV n 44)) else if pickV n 44<40 then IntKind.i64.wrap (3072+IntKind.i64.wrap (4*IntKind.i64.wrap (pickV n 44-32)))
 else IntKind.i64.wrap (3104+IntKind.i64.wrap (4*IntKind.i64.wrap (pickV n 44-40)))
def plcG:List V->List Blk->Res
 | [.s (.i .i64 n)],h=>.ok (.s (.i .i64 (plcV n))) [] h
 | _,_=>.bad
noncomputable def TPk:Tab:=addT 18 pickG (noT)
theorem TPk_snd:TPk.Snd Tryz.prog:=addT_snd ok18 pick_snd ((noT_snd _))
theorem plc_snd:Snd Tryz.prog 39 (FSpec.of plcG):=snd_run TPk_snd mixed Tryz.func39 dc39 100 fun args h K hc hS=>by
 unfold plcG at hS
 split at hS
 ·rename_i n
  simp only [spec_ok,plcV] at hS
  by_cases c1:pickV n 44<32
  ·simp only [c1,if_true] at hS
   simp (maxSteps:=999999) only [go_sem,simprocAttr,↓qT,↓qF,df39,TPk,pickG,c1]
   exact hS
  ·by_cases c2:pickV n 44<40
   ·simp only [c1,c2,if_true,if_false] at hS
    simp (maxSteps:=999999) only [go_sem,simprocAttr,↓qT,↓qF,df39,TPk,pickG,c1,c2]
    exact hS
   ·simp only [c1,c2,if_false] at hS
    simp (maxSteps:=999999) only [go_sem,simprocAttr,↓qT,↓qF,df39,TPk,pickG,c1,c2]
    exact hS
 ·exact hS.elim

/-! ### a world -/
def wB (n:Nat):Blk:=⟨.rw,[.p (.g (n+2)) 0, .p (.g n) 0],2⟩
def wH (h:List Blk) (m r:M) (X:List Blk):List Blk:=memH (memH h r) m++(wB h.length::X)
theorem wH_len (h:List Blk) (m r:M) (X:List Blk):(wH h m r X).length=h.length+5+X.length:=by
 simp only [wH,List.length_append,memH_len,List.length_cons]; omega
theorem wH_at (h:List Blk) (m r:M) (X:List Blk):(wH h m r X)[h.length+4]?=some (wB h.length):=by
 unfold wH
 rw [List.getElem?_append_right (by simp only [memH_len]; omega)]
 simp only [memH_len,show h.length+4-(h.length+2+2)=0 by omega,List.getElem?_cons_zero]
theorem wH_app (h:List Blk) (m r:M) (X Y:List Blk):wH h m r X++Y=wH h m r (X++Y):=by simp [wH]
theorem wH_m {f:Nat->M->(M->List Blk)->List V->Res} {h X:List Blk} {m r:M} {rest:List V}:memF f (.s (.p (.g (h.length+2)) 0)::rest) (wH h m r X)=f (h.length+3) m (fun m=>wH h m r X) rest:=memF_new2A
theorem wH_r {f:Nat->M->(M->List Blk)->List V->Res} {h X:List Blk} {m r:M} {rest:List V}:memF f (.s (.p (.g h.length) 0)::rest) (wH h m r X)=f (h.length+1) r (fun r=>wH h m r X) rest:=memF_new1A
open Classical in
noncomputable def wldOf (H:List Blk) (w:Nat):Option (List Blk×M×M×List Blk):=if hx:∃ x:List Blk×M×M×List Blk,H=wH x.1 x.2.1 x.2.2.1 x.2.2.2/\w=x.1.length+4 then some (Classical.choose hx) else none
/-! ### an act -/
structure Act where
 wh:Int
 a:Int
 b:Int
 c:Int
 rg:Int
 bd:Int
 g:Int
 n:Int
end Go.Proofs.YtcdfofeolgbnbaaGreat

/- Law 12: the memories that acts make of the plan's: in order,whatever is done; code and document make the same words. -/
namespace Go.Proofs.YtcdfofeolgbnbaaGreat
open Go.D
set_option linter.all false
set_option maxRecDepth 100000
set_option maxHeartbeats 4000000

/-! ### the places -/
/-! ### what stays -/

theorem insL_mem {p a x:Int}:∀ {L:List Int},x∈insL p a L->x=a\/x∈L
 | [],h=>by simp [insL] at h
 | y::L,h=>by
  unfold insL at h
  split at h
  ·rcases List.mem_cons.1 h with e|h
   ·exact .inr (by rw [e]; exact List.mem_cons_self)
   ·rcases List.mem_cons.1 h with e|h
    ·exact .inl e
    ·exact .inr (List.mem_cons_of_mem _ h)
  ·rcases List.mem_cons.1 h with e|h
   ·exact .inr (by rw [e]; exact List.mem_cons_self)
   ·exact (insL_mem h).imp id fun h=>List.mem_cons_of_mem _ h
theorem mem_insL {p a x:Int}:∀ {L:List Int},x∈L->x∈insL p a L
 | y::L,h=>by
  unfold insL
  split
  ·rcases List.mem_cons.1 h with e|h
   ·rw [e]; exact List.mem_cons_self
   ·exact List.mem_cons_of_mem _ (List.mem_cons_of_mem _ h)
  ·rcases List.mem_cons.1 h with e|h
   ·rw [e]; exact List.mem_cons_self
   ·exact List.mem_cons_of_mem _ (mem_insL h)
theorem a_insL {p a:Int}:∀ {L:List Int},p∈L->a∈insL p a L
 | y::L,h=>by
  unfold insL
  split
  ·simp
  ·rename_i e
   rcases List.mem_cons.1 h with h|h
   ·exact absurd h.symm e
   ·exact List.mem_cons_of_mem _ (a_insL h)


section
variable {m r:M} {L:List Int}
end

section
variable {m r:M} {L:List Int}
end
end Go.Proofs.YtcdfofeolgbnbaaGreat

/- Package objs: fields of a word. -/
namespace Go.Proofs.YtcdfofeolgbnbaaGreat
open Go.D
set_option linter.all false
set_option maxRecDepth 100000
set_option maxHeartbeats 8000000

structure Fi where
 b:Int
 n:Int
def Fi.c (f:Fi):List S:=[.i .i64 f.b, .i .i64 f.n]
theorem Fi.c_len (f:Fi):f.c.length=2:=rfl
instance:Cells Fi.c:=⟨⟨2,Fi.c_len⟩,fun x y e=>by
 obtain ⟨a,b⟩:=x
 obtain ⟨c,d⟩:=y
 simp only [Fi.c,List.cons.injEq,S.i.injEq,true_and,and_true] at e
 rw [e.1,e.2]⟩
def Fi.z:Fi:=⟨0,0⟩
def Fi.fd (f:Fi):Fd:=⟨f.b,IntKind.u64.wrap f.n⟩
theorem fd_u (f:Fi):u64 f.fd.v:=by
 show u64 (IntKind.u64.wrap f.n)
 rw [IntKind.wrap_u64]; simp only [u64]; omega
def posB (L:List Fi):Bool:=L.all fun f=>decide (0<=f.n)
def opB (L:List Fi):Bool:=posB L&&packB (L.map Fi.fd) 0
def opV (L:List Fi):Int:=if opB L then packV (L.map Fi.fd) 0 else 0
noncomputable def opackG:List V->List Blk->Res
 | [.s s],h=>match arrOf Fi.c h s with
  | some L=>.ob (L.length<=64) (.ok (.tup [.s (.i .u64 (opV L)), .s (.b (opB L))]) [] h)
  | none=>.bad
 | _,_=>.bad
def slF:List Fd->Nat->S
 | [],_=>.ns
 | _::M,c=>.sl (.l 0) 0 (M.length+1) c
def lsF:List Fd->Nat->List Blk
 | [],_=>[]
 | x::M,c=>[⟨.rw,arr Fd.c (x::M),c*2⟩]
section
variable (L:List Fd)
theorem fd_all {p:S->Bool} (hp:∀ k x,p (.i k x)=true):(arr Fd.c L).all p=true:=by
 rw [arr_all,List.all_eq_true]
 intro x _
 simp [Fd.c,hp]
theorem fd_known:known (arr Fd.c L)=true:=by unfold known; exact fd_all L fun _ _=>rfl
theorem fd_names (n:Nat):(arr Fd.c L).all (fun s=>!s.names n)=true:=fd_all L fun _ _=>rfl
theorem fd_below (n:Nat):(arr Fd.c L).all (S.below n)=true:=fd_all L fun _ _=>rfl
theorem fd_ren (ρ:R->R):(arr Fd.c L).map (S.ren ρ)=arr Fd.c L:=by
 induction L with
 | nil=>rfl
 | cons x L ih=>simp only [arr,List.map_append,ih]; rfl
theorem fd_len:(arr Fd.c L).length=L.length*2:=arr_length Fd.c_len L
end
theorem fd_snoc (L:List Fd) (x:Fd):arr Fd.c (L++[x])=arr Fd.c L++x.c:=by rw [arr_append]; simp [arr]
noncomputable def To1:Tab:=addT 140 packG (addT 88 unpackG (noT))
theorem To1_snd:To1.Snd Tryz.prog:=addT_snd ok140 pack_snd (addT_snd ok88 unpack_snd ((noT_snd _)))
theorem opack_snd:Snd Tryz.prog 198 (FSpec.of opackG):=snd_run To1_snd mixed Tryz.func198 dc198 200 fun args h K hc hS=>by
 unfold opackG at hS
 split at hS
 ·split at hS
  ·rename_i s _ L e
   obtain ⟨hl,hS⟩:=hS
   simp only [spec_ok] at hS
   have H1:=arrOf_some e
   have hlen:=fun ls h'=>H1.sl.len (ls:=ls) (h:=h')
   have hb1:∀ k,S.below k s=true:=H1.sl.below
   have hnm:=fun k=>H1.sl.names k
   have hp1:=fun l=>H1.sl.pick l
   have hv1:=fun k=>H1.sl.val (k:=h.length) (m:=k) (Nat.le_refl _)
   have hcq:=hc
   have hnq:h.length<=h.length:=Nat.le_refl _
   simp (maxSteps:=999999) only [go_sem,simprocAttr,↓qT,↓qF,df198,hlen]
   refine loop_rule (α:=Nat×Nat) [2,3,4,6,11,12,13,14,15,16,17,18,19,20,21,22,23,24,25,26,27] (fun x=>[(4, .s (slF ((L.take x.1).map Fi.fd) x.2)),(11, .s (.i .i64 x.1))]) (fun x=>lsF ((L.take x.1).map Fi.fd) x.2) (fun _=>h)
    (fun x=>x.1<=L.length/\posB (L.take x.1)=true/\x.1<=x.2) (fun x=>L.length-x.1) (0,0) ⟨Nat.zero_le _,rfl,Nat.le_refl _⟩ ?_ ?_
   ·refine Wk.same rfl rfl ?_
    simp (maxSteps:=999999) only [go_sem,simprocAttr,↓qT,↓qF,slF,Int.natCast_zero,List.map_nil,List.take_zero]
   ·rintro X ⟨i,cp⟩ ⟨hi,hp,hcp⟩ IH
    simp only at hi hp hcp IH ⊢
    rcases Nat.lt_or_ge i L.length with g1|g1
    ·obtain ⟨d1,d2,d3,d4⟩:=idx g1 (by omega)
     obtain ⟨j,c',st,room,hse,hj,hd⟩:=H1.at g1
     obtain ⟨y,hy⟩:∃ y,nth Fi.z L i=y:=⟨_,rfl⟩
     have hs:sub (arr Fi.c L) (i*2) 2=y.c:=by rw [<-hy,nth_eq g1]; exact arr_sub Fi.c_len g1
     have hle:i*2+2<=(arr Fi.c L).length:=by
      rw [arr_length Fi.c_len]
      have:(i+1)*2<=L.length*2:=Nat.mul_le_mul_right _ g1
      omega
     have hjl:j<h.length:=(List.getElem?_eq_some_iff.1 hj).1
     have hyL:L[i]=y:=by rw [<-hy,nth_eq g1]
     simp only [Fi.c] at hs
     have z2:L.length-(i+1)<L.length-i:=by omega
     by_cases c2:y.n<0
     ·have hB:opB L=false:=by
       have:posB L=false:=by
        rw [Bool.eq_false_iff]
        intro e
        simp only [posB,List.all_eq_true,decide_eq_true_eq] at e
        have:=e y (by rw [<-hyL]; exact List.getElem_mem _)
        omega
       simp [opB,this]
      have hV:opV L=0:=by simp [opV,hB]
      rw [hB,hV] at hS
      refine run_sound (Tab.ok_Γ _) 200 _ _ _ _ ?_
      simp (maxSteps:=999999) only [go_sem,simprocAttr,↓qT,↓qF,hse,d1,d2,d3,d4,hj,hd,hs,hle,c2,Int.toNat_natCast,put,fillP]
      exact hS
     ·have hpo:posB (L.take (i+1))=true:=by
       rw [List.take_succ_eq_append_getElem g1]
       simp only [posB,List.all_append,Bool.and_eq_true,List.all_cons,List.all_nil,Bool.and_true,decide_eq_true_eq] at hp ⊢
       exact ⟨hp,by rw [hyL]; omega⟩
      have hms:(L.take (i+1)).map Fi.fd=(L.take i).map Fi.fd++[y.fd]:=by
       rw [List.take_succ_eq_append_getElem g1,List.map_append,hyL]; rfl
      obtain ⟨M,hM⟩:∃ M,(L.take i).map Fi.fd=M:=⟨_,rfl⟩
      have hMl:M.length=i:=by rw [<-hM,List.length_map,List.length_take]; omega
      rw [hM] at hms ⊢
      cases M with
      | nil =>
       refine run_sound (Tab.ok_Γ _) 300 _ _ _ _ ?_
       simp (maxSteps:=999999) only [go_sem,simprocAttr,↓qT,↓qF,To1,hse,d1,d2,d3,d4,hj,hd,hs,hle,c2,slF,lsF,Int.toNat_natCast,put,fillP]
       intro c3 hc3
       refine IH (i+1,c3) _ z2 ⟨g1,hpo,by show i+1<=c3; simp only [List.length_nil] at hMl; omega⟩ ?_
       simp only
       rw [hms]
       simp only [List.nil_append]
       refine Wk.sel [2] (by decide) hnq ?_ ?_ ?_ ?_ hcq (clean_pick hcq _)
       ·simp (maxSteps:=999999) only [go_sem,simprocAttr,↓qT,↓qF,List.nil_append,Blk.ren,V.ren,C.ren,S_ren,wc_ren,R.pick_g,R.pick_0,R.pick_s,List.map_append,wc_cons,wc_snoc,wc_nil,slF,lsF,hjl,hse,hp1,hv1,arr,Fd.c,Fi.fd]
       ·simp (maxSteps:=999999) only [go_sem,simprocAttr,↓qT,↓qF,List.nil_append,Blk.ren,V.ren,C.ren,S_ren,wc_ren,R.pick_g,R.pick_0,R.pick_s,slF,lsF,hjl,hse,hp1,hv1,arr,Fd.c,Fi.fd]
       ·simp (maxSteps:=999999) only [go_sem,simprocAttr,↓qT,↓qF,List.nil_append,app_len,nlt0,nltn,Nat.reduceLT,Nat.le_add_right,slF,lsF,hjl,hse,hp1,hv1,arr,Fd.c,Fi.fd]
       ·simp (maxSteps:=999999) only [go_sem,simprocAttr,↓qT,↓qF,List.nil_append,app_len,nlt0,nltn,Nat.reduceLT,Nat.le_add_right,vals_cons,vals_nil,wc_val,wc_vals,slF,lsF,hjl,hse,hp1,hv1,arr,Fd.c,Fi.fd]
      | cons z M =>
       have hk2:=fd_known (z::M)
       have hn2:=fd_names (z::M)
       have hl2:=fd_len (z::M)
       have hsn:=fd_snoc (z::M) y.fd
       simp only [List.length_cons] at hMl hl2
       have hby:(M.length+1+1)*16<=140737488355328:=by omega
       have hcp2:M.length+1<=cp:=by omega
       simp only [Fd.c,Fi.fd,List.cons_append] at hsn
       refine run_sound (Tab.ok_Γ _) 300 _ _ _ _ ?_
       simp (maxSteps:=999999) only [go_sem,simprocAttr,↓qT,↓qF,To1,hse,d1,d2,d3,d4,hj,hd,hs,hle,c2,slF,lsF,hk2,hn2,hl2,hby,hcp2,hnm,Int.toNat_natCast,put,fillP]
       intro c3 hc3
       refine IH (i+1,c3) _ z2 ⟨g1,hpo,by show i+1<=c3; omega⟩ ?_
       simp only
       rw [hms]
       refine Wk.keep 1 ?_ rfl ?_ ?_ ?_
       all_goals simp (maxSteps:=999999) only [go_sem,simprocAttr,↓qT,↓qF,hse,hsn,slF,lsF,hb1,fd_below,List.cons_append,List.all_append,List.length_append,List.take_succ_cons,List.take_zero,Fi.fd,Fd.c]
    ·have hiL:i=L.length:=by omega
     subst hiL
     have g2:¬ ((L.length:Int)<L.length):=Int.lt_irrefl _
     rw [List.take_length] at hp ⊢
     obtain ⟨M,hM⟩:∃ M,L.map Fi.fd=M:=⟨_,rfl⟩
     have hMl:M.length=L.length:=by rw [<-hM,List.length_map]
     have hB:opB L=packB M 0:=by simp only [opB,hp,Bool.true_and,hM]
     have hV:opV L=if packB M 0 then packV M 0 else 0:=by simp only [opV,hB,hM]
     rw [hB,hV] at hS
     rw [hM]
     cases M with
     | nil =>
      simp only [packB,packV,if_true] at hS
      refine run_sound (Tab.ok_Γ _) 300 _ _ _ _ ?_
      simp (maxSteps:=999999) only [go_sem,simprocAttr,↓qT,↓qF,To1,g2,slF,lsF,packG]
      exact hS
     | cons z M =>
      have hu:∀ f,f∈z::M->u64 f.v:=fun f hf=>by
       rw [<-hM] at hf
       obtain ⟨x,_,rfl⟩:=List.mem_map.1 hf
       exact fd_u x
      have hdf:=decF_arr (z::M)
      have hts:List.take M.length M=M:=List.take_length
      have hl9:M.length+1<=9223372036854775807:=by simp only [List.length_cons] at hMl; omega
      have hl8:M.length+1<=(z::M).length:=Nat.le_refl _
      cases hb:packB (z::M) 0 with
      | true =>
       simp only [hb,if_true] at hS
       refine run_sound (Tab.ok_Γ _) 300 _ _ _ _ ?_
       simp (maxSteps:=999999) only [go_sem,simprocAttr,↓qT,↓qF,To1,g2,slF,lsF,packG,R.lend,R.unlend,S_ren,C.ren,V.ren,app_taken,app_dropn,app_take0,app_drop0,List.take_succ_cons,List.take_zero,List.drop_succ_cons,List.drop_zero,Nat.not_lt_zero,Nat.lt_irrefl,Nat.add_sub_cancel_left,Nat.not_lt,Nat.le_add_right,Blk.ren,fd_ren,↓hdf,hts,hl9,hl8,hu,hb]
       exact ⟨hu,hc,hS⟩
      | false =>
       simp only [hb,if_false,Bool.false_eq_true] at hS
       refine run_sound (Tab.ok_Γ _) 300 _ _ _ _ ?_
       simp (maxSteps:=999999) only [go_sem,simprocAttr,↓qT,↓qF,To1,g2,slF,lsF,packG,R.lend,R.unlend,S_ren,C.ren,V.ren,app_taken,app_dropn,app_take0,app_drop0,List.take_succ_cons,List.take_zero,List.drop_succ_cons,List.drop_zero,Nat.not_lt_zero,Nat.lt_irrefl,Nat.add_sub_cancel_left,Nat.not_lt,Nat.le_add_right,Blk.ren,fd_ren,↓hdf,hts,hl9,hl8,hu,hb]
       exact ⟨hu,hc,hS⟩
  ·exact hS.elim
 ·exact hS.elim

def ic (l:List Int):List S:=l.map (S.i .i64)
section
variable (l:List Int)
end
def fI (b:Bool):Int:=if b then 1 else 0
def flagG:List V->List Blk->Res
 | [.s (.b q)],h=>.ok (.agg [.i .i64 1, .i .i64 (fI q)]) [] h
 | _,_=>.bad
theorem flag_snd:Snd Tryz.prog 199 (FSpec.of flagG):=snd_run (noT_snd _) mixed Tryz.func199 dc199 100 fun args h K hc hS=>by
 unfold flagG at hS
 split at hS
 ·rename_i q
  simp only [spec_ok,fI] at hS
  cases q
  ·simp (maxSteps:=999999) only [go_sem,simprocAttr,↓qT,↓qF,df199,put,fillP,sub,EVt]
   exact hS
  ·simp (maxSteps:=999999) only [go_sem,simprocAttr,↓qT,↓qF,df199,put,fillP,sub,EVt]
   exact hS
 ·exact hS.elim
def in3 (n a b:Int):Bool:=decide (a<=n)&&decide (n<=b)
def orinG:List V->List Blk->Res
 | [.s (.i .i64 n), .s (.i .i64 a), .s (.i .i64 b)],h=>.ok (.s (.b (in3 n a b))) [] h
 | _,_=>.bad
theorem orin_snd:Snd Tryz.prog 200 (FSpec.of orinG):=snd_run (noT_snd _) mixed Tryz.func200 dc200 100 fun args h K hc hS=>by
 unfold orinG at hS
 split at hS
 ·simp only [spec_ok,in3] at hS
  simp (maxSteps:=999999) only [go_sem,simprocAttr,↓qT,↓qF,df200]
  exact hS
 ·exact hS.elim
theorem in3_iff {n a b:Int}:in3 n a b=true↔a<=n/\n<=b:=by simp [in3]

def otB (m:M) (a n:Int):Bool:=decide (1024<=a/\a%n=0/\a+n<=m.w.length)
theorem otB_iff {m:M} {a n:Int}:otB m a n=true↔1024<=a/\a%n=0/\a+n<=m.w.length:=by simp [otB]
def otM (b:Nat) (m:M) (st:M->List Blk):List V->Res
 | [.s (.i .i64 a), .s (.i .i64 n)]=>.ob (0<n/\n<=64) (.ok (.s (.b (otB m a n))) [] (st m))
 | _=>.bad
noncomputable def otG:=memF otM
noncomputable def To2:Tab:=addT 150 wordsG (addT 189 thereG (noT))
theorem To2_snd:To2.Snd Tryz.prog:=addT_snd ok150 mwords_snd (addT_snd ok189 rthere_snd ((noT_snd _)))
theorem ot_snd:Snd Tryz.prog 183 (FSpec.of otG):=snd_run To2_snd mixed Tryz.func183 dc183 100 fun args h K hc hS=>by
 obtain ⟨a,b,m,rest,rfl,H,hS1⟩:=memF_spec hS
 clear hS
 have hS:=hS1
 clear hS1
 unfold otM at hS
 split at hS
 ·rename_i a n
  obtain ⟨hn,hS⟩:=hS
  simp only [spec_ok,setM_self H] at hS
  have hl:=m.l
  have w1:IntKind.i64.wrap ((m.w.length:Int)-n)=m.w.length-n:=wrap64 (by omega) (by omega)
  have hn0:n≠0:=by omega
  by_cases c1:1024<=a
  ·have ht:a.tmod n=a%n:=Int.tmod_eq_emod_of_nonneg (by omega)
   by_cases c2:a%n=0
   ·by_cases c3:a<=m.w.length-n
    ·rw [otB_iff.2 ⟨c1,c2,by omega⟩] at hS
     simp (maxSteps:=999999) only [go_sem,simprocAttr,↓qT,↓qF,df183,To2,wordsG,memF_eq H,wordsM,setM_self H,c1,hn0,ht,c2,w1,c3]
     exact hS
    ·have:otB m a n=false:=by simp only [otB,decide_eq_false_iff_not]; omega
     rw [this] at hS
     simp (maxSteps:=999999) only [go_sem,simprocAttr,↓qT,↓qF,df183,To2,wordsG,memF_eq H,wordsM,setM_self H,c1,hn0,ht,c2,w1,c3]
     exact hS
   ·have:otB m a n=false:=by simp only [otB,decide_eq_false_iff_not]; omega
    rw [this] at hS
    have c2':(a%n==0)=false:=by simpa using c2
    simp (maxSteps:=999999) only [go_sem,simprocAttr,↓qT,↓qF,df183,To2,wordsG,memF_eq H,wordsM,setM_self H,c1,hn0,ht,c2',w1]
    exact hS
  ·have:otB m a n=false:=by simp only [otB,decide_eq_false_iff_not]; omega
   rw [this] at hS
   simp (maxSteps:=999999) only [go_sem,simprocAttr,↓qT,↓qF,df183,To2,wordsG,memF_eq H,wordsM,setM_self H,c1,hn0]
   exact hS
 ·exact hS.elim
theorem rot_snd:Snd Tryz.prog 195 (FSpec.of otG):=snd_run To2_snd mixed Tryz.func195 dc195 100 fun args h K hc hS=>by
 obtain ⟨a,b,m,rest,rfl,H,hS1⟩:=memF_spec hS
 clear hS
 have hS:=hS1
 clear hS1
 unfold otM at hS
 split at hS
 ·rename_i a n
  obtain ⟨hn,hS⟩:=hS
  simp only [spec_ok,setM_self H] at hS
  have hl:=m.l
  have hn0:n≠0:=by omega
  cases hh:m.has a n with
  | false =>
   have hh2:=M.has_not hh
   have:otB m a n=false:=by simp only [otB,decide_eq_false_iff_not]; omega
   rw [this] at hS
   simp (maxSteps:=999999) only [go_sem,simprocAttr,↓qT,↓qF,df195,To2,thereG,memF_eq H,thereM,setM_self H,hh]
   exact hS
  | true =>
   have hh2:=M.has_iff.1 hh
   by_cases c1:1024<=a
   ·have ht:a.tmod n=a%n:=Int.tmod_eq_emod_of_nonneg (by omega)
    by_cases c2:a%n=0
    ·rw [otB_iff.2 ⟨c1,c2,by omega⟩] at hS
     simp (maxSteps:=999999) only [go_sem,simprocAttr,↓qT,↓qF,df195,To2,thereG,memF_eq H,thereM,setM_self H,hh,c1,hn0,ht,c2]
     exact hS
    ·have:otB m a n=false:=by simp only [otB,decide_eq_false_iff_not]; omega
     rw [this] at hS
     have c2':(a%n==0)=false:=by simpa using c2
     simp (maxSteps:=999999) only [go_sem,simprocAttr,↓qT,↓qF,df195,To2,thereG,memF_eq H,thereM,setM_self H,hh,c1,hn0,ht,c2']
     exact hS
   ·have:otB m a n=false:=by simp only [otB,decide_eq_false_iff_not]; omega
    rw [this] at hS
    simp (maxSteps:=999999) only [go_sem,simprocAttr,↓qT,↓qF,df195,To2,thereG,memF_eq H,thereM,setM_self H,hh,c1]
    exact hS
 ·exact hS.elim

noncomputable def To3:Tab:=addT 200 orinG (noT)
theorem To3_snd:To3.Snd Tryz.prog:=addT_snd ok200 orin_snd ((noT_snd _))
/-! ### Queue,SetQueue -/
def sml (n:Int):Prop:=n<9223372036854775808

theorem fi_lent {h X:List Blk} {k c room:Nat} {L:List Fi} {cells:List S} (hX:X[k]?=some ⟨.rw,cells,room⟩) (hc:cells=arr Fi.c L) (hn:0<L.length):arrOf Fi.c (h++X) (.sl (.g (h.length+k)) 0 L.length c)=some L :=
 arrOf_eq (.inr ⟨h.length+k,c, .rw,room,rfl,by rw [app_getn,hX,hc],fun _=>by simp⟩)
theorem nl0 {a k:Nat}:(a+k<a)=False:=by simp
/-! ### SetQueue -/
theorem fd_eq {b n:Int} (h:0<=n/\sml n):Fi.fd ⟨b,n⟩=⟨b,n⟩:=by
 have:IntKind.u64.wrap n=n:=wrapu h.1 (by have:=h.2; unfold sml at this; omega)
 simp only [Fi.fd,this]
theorem packB_cons {f:Fd} {L:List Fd} {k:Int}:packB (f::L) k=true↔(0<=k/\k<=63/\1<=f.b/\f.b<=64-k)/\f.v.toNat<2^f.b.toNat/\packB L (k+f.b)=true:=by
 simp only [packB,setB,fieldB,Bool.and_eq_true,decide_eq_true_eq,and_assoc]
theorem packB_nil {k:Int}:(packB [] k=true)=True:=by simp [packB]

/-! ### Signal,SetSignal -/

/-! ### SetSignal -/
end Go.Proofs.YtcdfofeolgbnbaaGreat

/- Package walk: entries,indices. -/
namespace Go.Proofs.YtcdfofeolgbnbaaGreat
open Go.D
set_option linter.all false
set_option maxRecDepth 100000
set_option maxHeartbeats 4000000

def bI (b:Bool):Int:=if b then 1 else 0
/-! ### bits -/
/-! ### package walk -/

/-! ### the document's -/
/-! ### indices -/

/-! ### a walk -/
end Go.Proofs.YtcdfofeolgbnbaaGreat

/- Package objs: registers,entries,roots,in code and document. -/
namespace Go.Proofs.YtcdfofeolgbnbaaGreat
open Go.D
set_option linter.all false
set_option maxRecDepth 100000
set_option maxHeartbeats 8000000

end Go.Proofs.YtcdfofeolgbnbaaGreat

