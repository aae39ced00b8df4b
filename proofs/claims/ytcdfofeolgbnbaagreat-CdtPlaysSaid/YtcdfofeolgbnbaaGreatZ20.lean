/- Slots: what was put is got; the plain facts. -/
import Derived.Test.YtcdfofeolgbnbaaGreatZ13
import Derived.Test.YtcdfofeolgbnbaaGreatZ19
import Derived.Test.YtcdfofeolgbnbaaGreatZ14
import Derived.Test.YtcdfofeolgbnbaaGreatZ12
import Derived.Test.YtcdfofeolgbnbaaGreatZ18
/- Package slots: Put. -/
namespace Go.Proofs.YtcdfofeolgbnbaaGreat
open Go.D
open Nat (reduceAdd reducePow reduceMul reduceSub reduceLeDiff reduceLT reduceEqDiff)
open Int (reduceNeg reduceLE reduceEq reduceNe reduceToNat)
open Go.D renaming istep → zy,pickR → zx,bin1R → zw,un1R → zv,eqS → zu,eq1 → zq,cmpS → zp,cmp1 → zj,isNil → zk,shows → zg,result → zZ,q_cond_t → zV,q_cond_f → zU
open List renaming set → zY,replicate → zX
open Option renaming map → zW
open Nat renaming reduceAdd → zQ,reducePow → yz,reduceMul → yy,reduceSub → yx,reduceLeDiff → yw,reduceLT → yv,reduceEqDiff → yu
open Int renaming reduceNeg → yq,reduceLE → yj,reduceEq → yk,reduceNe → yg,reduceToNat → yZ,reducePow → yY,reduceLT → yX,reduceAdd → yW,reduceSub → yV,reduceMul → yU,reduceBEq → yQ,reduceBNe → xz
set_option linter.all false
set_option maxRecDepth 100000
set_option maxHeartbeats 4000000

theorem M.put_tick (m : M) (k : Int) (i : Nat) (x : Int) : (m.tick k).put i x = (m.put i x).tick k:=rfl
def Slot.links (s : Slot) : Int:=s.prev + 65536 * s.next + 4294967296 * s.depth
def M.putS (m : M) (a : Int) (s : Slot) : M:=((((m.put a.toNat s.cap.w0).put (a + 1).toNat s.cap.num).put (a + 2).toNat s.links).put (a + 3).toNat 0).tick 4
def putSM (b : Nat) (m : M) (st : M → List Blk) : List V → Res
 | [.s (.i .i64 a),x] => slotF (fun s => .br (thereB m a) (.br (slotRB s) (.ok (.s (.i .i64 0)) [] (st (m.putS a s))) (.ok (.s (.i .i64 110)) [] (st m))) (.ok (.s (.i .i64 20)) [] (st m))) [x]
 | _ => .bad
noncomputable def putSG:=memF putSM
theorem putSM_spec {b : Nat} {m : M} {st : M → List Blk} {args : List V} {K : V → List Blk → Prop} (h : (putSM b m st args).spec K) :
  ∃ a s,args = [.s (.i .i64 a), .agg s.cl] ∧ (thereB m a = false → K (.s (.i .i64 20)) (st m)) ∧ (thereB m a = true → slotRB s = false → K (.s (.i .i64 110)) (st m)) ∧ (thereB m a = true → slotRB s = true → K (.s (.i .i64 0)) (st (m.putS a s))):=by
 unfold putSM at h
 split at h
 ·rename_i a x
  obtain ⟨s,e,h⟩:=slotF_spec h
  simp only [List.cons.injEq,and_true] at e
  subst e
  have h : (thereB m a = true → (slotRB s = true → K _ _) ∧ (slotRB s = false → K _ _)) ∧ (thereB m a = false → K _ _):=h
  exact ⟨a,s,rfl,h.2,fun e => (h.1 e).2,fun e => (h.1 e).1⟩
 ·exact h.elim

def pfldG : List V → List Blk → Res
 | [.s (.i .i64 n)],h => .ok (.agg [.i .i64 16, .i .u64 (IntKind.u64.wrap n)]) [] h
 | _,_ => .bad
theorem pfld_snd : Snd Tryz.prog 139 (FSpec.of pfldG):=snd_run (noT_snd _) mixed Tryz.func139 dc139 100 fun args h K _ hS => by
 unfold pfldG at hS
 split at hS
 ·simp only [spec_ok] at hS
  simp (maxSteps:=9999999) only [EV0,zy,zx,zw,zv,zu,zq,zp,zj,zk,leT,zg,rvC,zZ,zY,zX,zW,↓zV,↓zU,reduceCtorEq,zQ,yz,yY,yy,yx,yw,yv,yu,yq,yX,yj,yk,yg,yW,yV,yU,yZ,yQ,xz,df139,put,fillP,sub,EVt]
  exact hS
 ·exact hS.elim
theorem slotRB_iff {s : Slot} (h : slotRB s = true) : rightB s.cap = true ∧ (0 ≤ s.prev ∧ s.prev < 65536 ∧ s.prev % 4 = 0) ∧ (0 ≤ s.next ∧ s.next < 65536 ∧ s.next % 4 = 0) ∧ 0 ≤ s.depth ∧ s.depth < 65536:=by
 simp only [slotRB,linkB,Bool.and_eq_true,decide_eq_true_eq,beq_iff_eq] at h
 obtain ⟨_,h1,⟨p1,p2,p3⟩,⟨n1,n2,n3⟩,d1,d2⟩:=h
 rw [Int.tmod_eq_emod_of_nonneg p1] at p3
 rw [Int.tmod_eq_emod_of_nonneg n1] at n3
 exact ⟨h1,⟨p1,p2,p3⟩,⟨n1,n2,n3⟩,d1,d2⟩
theorem links_B {s : Slot} (h : slotRB s = true) : packB [⟨16,s.prev⟩,⟨16,s.next⟩,⟨16,s.depth⟩] 0 = true:=by
 obtain ⟨_,h1,h2,h3⟩:=slotRB_iff h
 simp only [packB,setB,fieldB,Bool.and_eq_true,decide_eq_true_eq]
 simp only [Int.reduceAdd,Int.reduceSub,reduceLE,reduceToNat,reducePow,true_and,and_true]
 omega
theorem links_V {s : Slot} (h : slotRB s = true) : packV [⟨16,s.prev⟩,⟨16,s.next⟩,⟨16,s.depth⟩] 0 = s.links:=by
 obtain ⟨_,h1,h2,h3⟩:=slotRB_iff h
 simp only [packV,Int.reduceAdd,reduceToNat,reducePow,Slot.links]
 omega
theorem links_u {s : Slot} (h : slotRB s = true) : u64 s.links:=by
 obtain ⟨_,h1,h2,h3⟩:=slotRB_iff h
 simp only [u64,Slot.links]; omega

noncomputable def TPu : Tab:=addT 85 sthereG (addT 89 slotRG (addT 138 encG (addT 139 pfldG (addT 140 packG (addT 141 writeG noT)))))
theorem TPu_snd : TPu.Snd Tryz.prog:=addT_snd ok85 sthere_snd (addT_snd ok89 slotR_snd (addT_snd ok138 enc_snd (addT_snd ok139 pfld_snd (addT_snd ok140 pack_snd (addT_snd ok141 mwrite_snd (noT_snd _))))))
theorem putS_snd : Snd Tryz.prog 79 (FSpec.of putSG):=snd_run TPu_snd mixed Tryz.func79 dc79 300 fun args h K hc hS => by
 obtain ⟨a,b,m,rest,rfl,H,hS1⟩:=memF_spec hS
 clear hS
 have hS:=hS1
 clear hS1
 obtain ⟨x,s,rfl,q1,q2,q3⟩:=putSM_spec hS
 clear hS
 rw [setM_self H] at q1 q2
 have hl:=m.l
 cases ht : thereB m x with
 | false =>
  have hS:=q1 ht
  simp only [Slot.cl]
  simp (maxSteps:=9999999) only [EV0,zy,zx,zw,zv,zu,zq,zp,zj,zk,leT,zg,rvC,zZ,zY,zX,zW,↓zV,↓zU,reduceCtorEq,zQ,yz,yY,yy,yx,yw,yv,yu,yq,yX,yj,yk,yg,yW,yV,yU,yZ,yQ,xz,df79,TPu,sthereG,memF_eq H,sthereM,setM_self H,ht]
  exact hS
 | true =>
  cases hr : slotRB s with
  | false =>
   have hS:=q2 ht hr
   simp only [Slot.cl]
   simp (maxSteps:=9999999) only [EV0,zy,zx,zw,zv,zu,zq,zp,zj,zk,leT,zg,rvC,zZ,zY,zX,zW,↓zV,↓zU,reduceCtorEq,zQ,yz,yY,yy,yx,yw,yv,yu,yq,yX,yj,yk,yg,yW,yV,yU,yZ,yQ,xz,df79,TPu,sthereG,memF_eq H,sthereM,setM_self H,ht,slotRG,slotF,slot_eta,hr,sub,EVt]
   exact hS
  | true =>
   have hS:=q3 ht hr
   have hb:=there_iff.1 ht
   obtain ⟨rc,⟨p1,p2,_⟩,⟨n1,n2,_⟩,d1,d2⟩:=slotRB_iff hr
   obtain ⟨u0,u1,_,_⟩:=enc_back rc
   have u2:=links_u hr
   have eB:=links_B hr
   have eV:=links_V hr
   have h0 : m.has x 1 = true:=M.has_of (by omega)
   have h1 : m.has (x + 1) 1 = true:=M.has_of (by omega)
   have h2 : m.has (x + 2) 1 = true:=M.has_of (by omega)
   have h3 : m.has (x + 3) 1 = true:=M.has_of (by omega)
   have w0 : IntKind.i64.wrap (x + 0) = x:=by rw [wrap64] <;> omega
   have w1 : IntKind.i64.wrap (x + 1) = x + 1:=wrap64 (by omega) (by omega)
   have w2 : IntKind.i64.wrap (x + 2) = x + 2:=wrap64 (by omega) (by omega)
   have w3 : IntKind.i64.wrap (x + 3) = x + 3:=wrap64 (by omega) (by omega)
   have v1 : IntKind.i64.wrap 1 = 1:=by decide
   have v2 : IntKind.i64.wrap 2 = 2:=by decide
   have v3 : IntKind.i64.wrap 3 = 3:=by decide
   have v4 : IntKind.i64.wrap 4 = 4:=by decide
   have x1 : IntKind.u64.wrap s.prev = s.prev:=wrapu p1 (by omega)
   have x2 : IntKind.u64.wrap s.next = s.next:=wrapu n1 (by omega)
   have x3 : IntKind.u64.wrap s.depth = s.depth:=wrapu d1 (by omega)
   have y1 : u64 s.prev:=⟨p1,by omega⟩
   have y2 : u64 s.next:=⟨n1,by omega⟩
   have y3 : u64 s.depth:=⟨d1,by omega⟩
   have u3:=u64_0
   simp only [M.putS] at hS
   simp only [Slot.cl]
   simp (maxSteps:=9999999) only [EV0,zy,zx,zw,zv,zu,zq,zp,zj,zk,leT,zg,rvC,zZ,zY,zX,zW,↓zV,↓zU,reduceCtorEq,zQ,yz,yY,yy,yx,yw,yv,yu,yq,yX,yj,yk,yg,yW,yV,yU,yZ,yQ,xz,df79,TPu,sthereG,memF_eq H,sthereM,setM_self H,ht,slotRG,slotF,slot_eta,cap_eta,hr,rc,encG,capF,pfldG,packG,R.lend,R.unlend,S_ren,C.ren,V.ren,Blk.ren,take_app,drop_app,Nat.not_lt_zero,Nat.lt_irrefl,Nat.add_sub_cancel_left,Nat.not_lt,Nat.le_add_right,decF,arr,Fd.c,List.take,eB,eV,x1,x2,x3,put,fillP,sub,EVt]
   refine ⟨?_,hc, ?_⟩
   ·intro f hf
    simp only [List.mem_cons,List.not_mem_nil,or_false] at hf
    rcases hf with rfl | rfl | rfl <;> assumption
   rw [holds_loop]
   refine swp_loop fun X hX => ?_
   refine hX _ ?_
   refine run_sound (Tab.ok_Γ _) 200 _ _ _ _ ?_
   simp (maxSteps:=9999999) only [EV0,zy,zx,zw,zv,zu,zq,zp,zj,zk,leT,zg,rvC,zZ,zY,zX,zW,↓zV,↓zU,reduceCtorEq,zQ,yz,yY,yy,yx,yw,yv,yu,yq,yX,yj,yk,yg,yW,yV,yU,yZ,yQ,xz,TPu,writeG,memF_eq H,memF_set H,writeM,h0,h1,h2,h3,w0,w1,w2,w3,v1,v2,v3,v4,u0,u1,u2,u3,M.put_has,M.tick_has,M.put_tick,M.tick_tick,put,setM_fun H]
   refine hX _ ?_
   refine run_sound (Tab.ok_Γ _) 200 _ _ _ _ ?_
   simp (maxSteps:=9999999) only [EV0,zy,zx,zw,zv,zu,zq,zp,zj,zk,leT,zg,rvC,zZ,zY,zX,zW,↓zV,↓zU,reduceCtorEq,zQ,yz,yY,yy,yx,yw,yv,yu,yq,yX,yj,yk,yg,yW,yV,yU,yZ,yQ,xz,TPu,writeG,memF_eq H,memF_set H,writeM,h0,h1,h2,h3,w0,w1,w2,w3,v1,v2,v3,v4,u0,u1,u2,u3,M.put_has,M.tick_has,M.put_tick,M.tick_tick,put,setM_fun H]
   refine hX _ ?_
   refine run_sound (Tab.ok_Γ _) 200 _ _ _ _ ?_
   simp (maxSteps:=9999999) only [EV0,zy,zx,zw,zv,zu,zq,zp,zj,zk,leT,zg,rvC,zZ,zY,zX,zW,↓zV,↓zU,reduceCtorEq,zQ,yz,yY,yy,yx,yw,yv,yu,yq,yX,yj,yk,yg,yW,yV,yU,yZ,yQ,xz,TPu,writeG,memF_eq H,memF_set H,writeM,h0,h1,h2,h3,w0,w1,w2,w3,v1,v2,v3,v4,u0,u1,u2,u3,M.put_has,M.tick_has,M.put_tick,M.tick_tick,put,setM_fun H]
   refine hX _ ?_
   refine run_sound (Tab.ok_Γ _) 200 _ _ _ _ ?_
   simp (maxSteps:=9999999) only [EV0,zy,zx,zw,zv,zu,zq,zp,zj,zk,leT,zg,rvC,zZ,zY,zX,zW,↓zV,↓zU,reduceCtorEq,zQ,yz,yY,yy,yx,yw,yv,yu,yq,yX,yj,yk,yg,yW,yV,yU,yZ,yQ,xz,TPu,writeG,memF_eq H,memF_set H,writeM,h0,h1,h2,h3,w0,w1,w2,w3,v1,v2,v3,v4,u0,u1,u2,u3,M.put_has,M.tick_has,M.put_tick,M.tick_tick,put,setM_fun H]
   refine hX _ ?_
   refine run_sound (Tab.ok_Γ _) 200 _ _ _ _ ?_
   simp (maxSteps:=9999999) only [EV0,zy,zx,zw,zv,zu,zq,zp,zj,zk,leT,zg,rvC,zZ,zY,zX,zW,↓zV,↓zU,reduceCtorEq,zQ,yz,yY,yy,yx,yw,yv,yu,yq,yX,yj,yk,yg,yW,yV,yU,yZ,yQ,xz,TPu,writeG,memF_eq H,memF_set H,writeM,h0,h1,h2,h3,w0,w1,w2,w3,v1,v2,v3,v4,u0,u1,u2,u3,M.put_has,M.tick_has,M.put_tick,M.tick_tick,put,setM_fun H]
   exact hS

theorem rputS_snd : Snd Tryz.prog 118 (FSpec.of putSG):=snd_run TGr_snd mixed Tryz.func118 dc118 300 fun args h K hc hS => by
 obtain ⟨a,b,m,rest,rfl,H,hS1⟩:=memF_spec hS
 clear hS
 have hS:=hS1
 clear hS1
 obtain ⟨x,s,rfl,q1,q2,q3⟩:=putSM_spec hS
 clear hS
 rw [setM_self H] at q1 q2
 have hl:=m.l
 cases ht : thereB m x with
 | false =>
  have hS:=q1 ht
  simp only [Slot.cl]
  simp (maxSteps:=9999999) only [EV0,zy,zx,zw,zv,zu,zq,zp,zj,zk,leT,zg,rvC,zZ,zY,zX,zW,↓zV,↓zU,reduceCtorEq,zQ,yz,yY,yy,yx,yw,yv,yu,yq,yX,yj,yk,yg,yW,yV,yU,yZ,yQ,xz,df118,TGr,sthereG,memF_eq H,sthereM,setM_self H,ht]
  exact hS
 | true =>
  cases hr : slotRB s with
  | false =>
   have hS:=q2 ht hr
   simp only [Slot.cl]
   simp (maxSteps:=9999999) only [EV0,zy,zx,zw,zv,zu,zq,zp,zj,zk,leT,zg,rvC,zZ,zY,zX,zW,↓zV,↓zU,reduceCtorEq,zQ,yz,yY,yy,yx,yw,yv,yu,yq,yX,yj,yk,yg,yW,yV,yU,yZ,yQ,xz,df118,TGr,sthereG,memF_eq H,sthereM,setM_self H,ht,slotRG,slotF,slot_eta,hr,sub,EVt]
   exact hS
  | true =>
   have hS:=q3 ht hr
   have hb:=there_iff.1 ht
   obtain ⟨rc,⟨p1,p2,_⟩,⟨n1,n2,_⟩,d1,d2⟩:=slotRB_iff hr
   obtain ⟨u0,u1,_,_⟩:=enc_back rc
   have u2:=links_u hr
   have h0 : m.has x 1 = true:=M.has_of (by omega)
   have h1 : m.has (x + 1) 1 = true:=M.has_of (by omega)
   have h2 : m.has (x + 2) 1 = true:=M.has_of (by omega)
   have h3 : m.has (x + 3) 1 = true:=M.has_of (by omega)
   have w1 : IntKind.i64.wrap (x + 1) = x + 1:=wrap64 (by omega) (by omega)
   have w2 : IntKind.i64.wrap (x + 2) = x + 2:=wrap64 (by omega) (by omega)
   have w3 : IntKind.i64.wrap (x + 3) = x + 3:=wrap64 (by omega) (by omega)
   have x1 : IntKind.u64.wrap s.prev = s.prev:=wrapu p1 (by omega)
   have x2 : IntKind.u64.wrap s.next = s.next:=wrapu n1 (by omega)
   have x3 : IntKind.u64.wrap s.depth = s.depth:=wrapu d1 (by omega)
   have x4 : IntKind.u64.wrap (s.next * 65536) = s.next * 65536:=wrapu (by omega) (by omega)
   have x5 : IntKind.u64.wrap (s.depth * 4294967296) = s.depth * 4294967296:=wrapu (by omega) (by omega)
   have x6 : IntKind.u64.wrap (s.prev + s.next * 65536) = s.prev + s.next * 65536:=wrapu (by omega) (by omega)
   have x7 : IntKind.u64.wrap (s.prev + s.next * 65536 + s.depth * 4294967296) = s.links:=by
    rw [wrapu (by omega) (by omega),Slot.links]; omega
   have u3:=u64_0
   simp only [M.putS] at hS
   simp only [Slot.cl]
   simp (maxSteps:=9999999) only [EV0,zy,zx,zw,zv,zu,zq,zp,zj,zk,leT,zg,rvC,zZ,zY,zX,zW,↓zV,↓zU,reduceCtorEq,zQ,yz,yY,yy,yx,yw,yv,yu,yq,yX,yj,yk,yg,yW,yV,yU,yZ,yQ,xz,df118,TGr,sthereG,memF_eq H,memF_set H,sthereM,setM_self H,setM_fun H,ht,slotRG,slotF,slot_eta,cap_eta,hr,rc,encG,capF,writeG,writeM,h0,h1,h2,h3,w1,w2,w3,u0,u1,u2,u3,M.put_has,M.tick_has,M.put_tick,M.tick_tick,x1,x2,x3,x4,x5,x6,x7,min16,min32,put,fillP,sub,EVt]
   exact hS
end Go.Proofs.YtcdfofeolgbnbaaGreat

/- Slices of elements,as they lie in a block. -/
namespace Go.Proofs.YtcdfofeolgbnbaaGreat
open Go.D
set_option linter.all false
set_option maxRecDepth 100000

def IsArr {α : Type} (c : α → List S) (h : List Blk) (s : S) (L : List α) : Prop :=
 ((s = .ns ∨ ∃ a c',s = .es a c') ∧ L = []) ∨ ∃ j c' st room,s = .sl (.g j) 0 L.length c' ∧ h[j]? = some ⟨st,arr c L,room⟩ ∧ (L.length ≠ 0 → st ≠ .dead)
theorem arr_inj {α : Type} {c : α → List S} {k : Nat} (hk : ∀ x,(c x).length = k) (hc : ∀ x y,c x = c y → x = y) : ∀ (L M : List α),L.length = M.length → arr c L = arr c M → L = M
 | [],[],_,_ => rfl
 | x :: L,y :: M,hl,e => by
  simp only [arr] at e
  obtain ⟨e1,e2⟩:=List.append_inj e (by rw [hk,hk])
  rw [hc x y e1,arr_inj hk hc L M (by simpa using hl) e2]
 | [],_ :: _,hl,_ => by simp at hl
 | _ :: _,[],hl,_ => by simp at hl
class Cells {α : Type} (c : α → List S) : Prop where
 len : ∃ k,∀ x,(c x).length = k
 inj : ∀ x y,c x = c y → x = y
theorem IsArr.uniq {α : Type} {c : α → List S} [C : Cells c] {h : List Blk} {s : S} {L M : List α} (H : IsArr c h s L) (H' : IsArr c h s M) : L = M:=by
 rcases H with ⟨e0,rfl⟩ | ⟨j,c1,st,room,rfl,e1,_⟩
 ·rcases H' with ⟨_,rfl⟩ | ⟨_,_,_,_,e,_⟩
  ·rfl
  ·subst e; rcases e0 with e0 | ⟨_,_,e0⟩ <;> cases e0
 ·rcases H' with ⟨e | ⟨_,_,e⟩,_⟩ | ⟨j',c1',st',room',e,e2,_⟩
  ·cases e
  ·cases e
  ·simp only [S.sl.injEq,R.g.injEq,true_and] at e
   obtain ⟨rfl,hl,rfl⟩:=e
   rw [e1,Option.some.injEq,Blk.mk.injEq] at e2
   obtain ⟨k,hk⟩:=C.len
   exact arr_inj hk C.inj L M hl e2.2.1
open Classical in
noncomputable def arrOf {α : Type} (c : α → List S) (h : List Blk) (s : S) : Option (List α):=if hx : ∃ v,IsArr c h s v then some (Classical.choose hx) else none
theorem arrOf_eq {α : Type} {c : α → List S} [Cells c] {h : List Blk} {s : S} {v : List α} (H : IsArr c h s v) : arrOf c h s = some v:=by
 have hx : ∃ v,IsArr c h s v:=⟨v,H⟩
 unfold arrOf
 rw [dif_pos hx,IsArr.uniq (Classical.choose_spec hx) H]
theorem arrOf_some {α : Type} {c : α → List S} {h : List Blk} {s : S} {v : List α} (e : arrOf c h s = some v) : IsArr c h s v:=by
 unfold arrOf at e
 split at e
 ·rename_i hx
  have:=Classical.choose_spec hx
  rw [Option.some.injEq] at e
  rw [e] at this
  exact this
 ·cases e
theorem IsArr.app {α : Type} {c : α → List S} {h X : List Blk} {s : S} {L : List α} (H : IsArr c h s L) : IsArr c (h ++ X) s L:=by
 rcases H with ⟨e0,rfl⟩ | ⟨j,c',st,room,rfl,e1,e2⟩
 ·exact .inl ⟨e0,rfl⟩
 ·exact .inr ⟨j,c',st,room,rfl,by rw [List.getElem?_append_left (List.getElem?_eq_some_iff.1 e1).1]; exact e1,e2⟩
def In.c (n : Int) : List S:=[.i .i64 n]
theorem In.c_len (n : Int) : (In.c n).length = 1:=rfl
instance : Cells In.c:=⟨⟨1,In.c_len⟩,fun x y e => by simpa [In.c] using e⟩

/-! ### a slice whose form is not looked at -/
def IsSl (q : Nat) (s : S) (n : Nat) : Prop:=(s = .ns ∧ n = 0) ∨ (∃ a c,s = .es a c ∧ n = 0) ∨ ∃ j o c,s = .sl (.g j) o n c ∧ j < q
section
variable {q : Nat} {s : S} {n : Nat} (H : IsSl q s n)
include H
theorem IsSl.len {ls h : List Blk} : lenR (.s s) ls h = .ok (.s (.i .i64 n)) ls h:=by
 rcases H with ⟨rfl,rfl⟩ | ⟨a,c,rfl,rfl⟩ | ⟨j,o,c,rfl,_⟩ <;> rfl
theorem IsSl.known : V.known (.s s) = true:=by
 rcases H with ⟨rfl,rfl⟩ | ⟨a,c,rfl,rfl⟩ | ⟨j,o,c,rfl,_⟩ <;> rfl
theorem IsSl.plain : V.plain (.s s) = true:=by
 rcases H with ⟨rfl,rfl⟩ | ⟨a,c,rfl,rfl⟩ | ⟨j,o,c,rfl,_⟩ <;> rfl
theorem IsSl.noL : s.noL = true:=by
 rcases H with ⟨rfl,rfl⟩ | ⟨a,c,rfl,rfl⟩ | ⟨j,o,c,rfl,_⟩ <;> rfl
theorem IsSl.below (m : Nat) : s.below m = true:=by
 rcases H with ⟨rfl,rfl⟩ | ⟨a,c,rfl,rfl⟩ | ⟨j,o,c,rfl,_⟩ <;> rfl
theorem IsSl.names (m : Nat) : s.names m = false:=by
 rcases H with ⟨rfl,rfl⟩ | ⟨a,c,rfl,rfl⟩ | ⟨j,o,c,rfl,_⟩ <;> rfl
theorem IsSl.ren {ρ : R → R} (hρ : ∀ k, ρ (.g k) = .g k) : s.ren ρ = s:=by
 rcases H with ⟨rfl,rfl⟩ | ⟨a,c,rfl,rfl⟩ | ⟨j,o,c,rfl,_⟩ <;> simp [S.ren,hρ]
theorem IsSl.lend (m : Nat) : s.ren (R.lend m) = s:=H.ren fun _ => rfl
theorem IsSl.unlend {k : Nat} (hk : q ≤ k) : s.ren (R.unlend k) = s:=by
 rcases H with ⟨rfl,rfl⟩ | ⟨a,c,rfl,rfl⟩ | ⟨j,o,c,rfl,hj⟩
 ·rfl
 ·rfl
 ·simp only [S.ren,R.unlend]; rw [if_pos (by omega)]
theorem IsSl.pick (l : List Nat) : s.ren (R.pick l) = s:=H.ren fun _ => rfl
theorem IsSl.val {k m : Nat} (hk : q ≤ k) : s.val k m = true:=by
 rcases H with ⟨rfl,rfl⟩ | ⟨a,c,rfl,rfl⟩ | ⟨j,o,c,rfl,hj⟩
 ·rfl
 ·rfl
 ·simp only [S.val,R.val,decide_eq_true_eq]; omega
end
theorem IsArr.sl {α : Type} {c : α → List S} {h : List Blk} {s : S} {L : List α} (H : IsArr c h s L) : IsSl h.length s L.length:=by
 rcases H with ⟨e0 | ⟨a,c',e0⟩,rfl⟩ | ⟨j,c',st,room,rfl,e,_⟩
 ·exact .inl ⟨e0,rfl⟩
 ·exact .inr (.inl ⟨a,c',e0,rfl⟩)
 ·exact .inr (.inr ⟨j,0,c',rfl,(List.getElem?_eq_some_iff.1 e).1⟩)
theorem IsArr.at {α : Type} {c : α → List S} {h : List Blk} {s : S} {L : List α} (H : IsArr c h s L) {i : Nat} (hi : i < L.length) : ∃ j c' st room,s = .sl (.g j) 0 L.length c' ∧ h[j]? = some ⟨st,arr c L,room⟩ ∧ st ≠ .dead:=by
 rcases H with ⟨_,rfl⟩ | ⟨j,c',st,room,e,e1,e2⟩
 ·simp at hi
 ·exact ⟨j,c',st,room,e,e1,e2 (by omega)⟩
end Go.Proofs.YtcdfofeolgbnbaaGreat

/- Lists of words: Dump,Load,Same. -/
namespace Go.Proofs.YtcdfofeolgbnbaaGreat
open Go.D
open Nat (reduceAdd reducePow reduceMul reduceSub reduceLeDiff reduceLT reduceEqDiff)
open Int (reduceNeg reduceLE reduceEq reduceNe reduceToNat)
open Go.D renaming istep → zy,pickR → zx,bin1R → zw,un1R → zv,eqS → zu,eq1 → zq,cmpS → zp,cmp1 → zj,isNil → zk,shows → zg,result → zZ,q_cond_t → zV,q_cond_f → zU
open List renaming set → zY,replicate → zX
open Option renaming map → zW
open Nat renaming reduceAdd → zQ,reducePow → yz,reduceMul → yy,reduceSub → yx,reduceLeDiff → yw,reduceLT → yv,reduceEqDiff → yu
open Int renaming reduceNeg → yq,reduceLE → yj,reduceEq → yk,reduceNe → yg,reduceToNat → yZ,reducePow → yY,reduceLT → yX,reduceAdd → yW,reduceSub → yV,reduceMul → yU,reduceBEq → yQ,reduceBNe → xz
set_option linter.all false
set_option maxRecDepth 100000
set_option maxHeartbeats 4000000

def IsList (h : List Blk) (s : S) (vs : List Int) : Prop :=
 ((s = .ns ∨ ∃ a c,s = .es a c) ∧ vs = []) ∨ (∃ j o c B,s = .sl (.g j) o 0 c ∧ h[j]? = some B ∧ vs = []) ∨ ∃ j o c B,s = .sl (.g j) o vs.length c ∧ h[j]? = some B ∧ B.st ≠ .dead ∧ o + vs.length ≤ B.cells.length ∧ sub B.cells o vs.length = wc vs
theorem IsList.uniq {h : List Blk} {s : S} {v w : List Int} (H : IsList h s v) (H' : IsList h s w) : v = w:=by
 rcases H with ⟨e0,rfl⟩ | ⟨j,o,c,B,rfl,e1,rfl⟩ | ⟨j,o,c,B,rfl,e1,_,_,e2⟩
 ·rcases H' with ⟨_,rfl⟩ | ⟨_,_,_,_,e,_⟩ | ⟨j,o,c,B,e,_⟩
  ·rfl
  ·subst e; rcases e0 with e0 | ⟨_,_,e0⟩ <;> cases e0
  ·subst e; rcases e0 with e0 | ⟨_,_,e0⟩ <;> cases e0
 ·rcases H' with ⟨e | ⟨_,_,e⟩,_⟩ | ⟨_,_,_,_,_,_,rfl⟩ | ⟨j',o',c',B',e,_⟩
  ·cases e
  ·cases e
  ·rfl
  ·simp only [S.sl.injEq] at e
   exact (List.eq_nil_of_length_eq_zero e.2.2.1.symm).symm
 ·rcases H' with ⟨e | ⟨_,_,e⟩,_⟩ | ⟨_,_,_,_,e,_,rfl⟩ | ⟨j',o',c',B',e,e3,_,_,e4⟩
  ·cases e
  ·cases e
  ·simp only [S.sl.injEq] at e
   exact List.eq_nil_of_length_eq_zero e.2.2.1
  ·simp only [S.sl.injEq,R.g.injEq] at e
   obtain ⟨rfl,rfl,e5,rfl⟩:=e
   rw [e1,Option.some.injEq] at e3
   subst e3
   rw [← e5,e2] at e4
   exact wc_inj e4
theorem IsList.sl {h : List Blk} {s : S} {vs : List Int} (H : IsList h s vs) : IsSl h.length s vs.length:=by
 rcases H with ⟨e0 | ⟨a,c',e0⟩,rfl⟩ | ⟨j,o,c,B,rfl,e1,rfl⟩ | ⟨j,o,c,B,rfl,e1,_,_,e2⟩
 ·exact .inl ⟨e0,rfl⟩
 ·exact .inr (.inl ⟨a,c',e0,rfl⟩)
 ·exact .inr (.inr ⟨j,o,c,rfl,(List.getElem?_eq_some_iff.1 e1).1⟩)
 ·exact .inr (.inr ⟨j,o,c,rfl,(List.getElem?_eq_some_iff.1 e1).1⟩)
theorem IsList.shows {h : List Blk} {s : S} {vs : List Int} (H : IsList h s vs) (ls : List Blk) : shows ls h 1 s = some (vs.length,wc vs):=by
 rcases H with ⟨rfl | ⟨a,c',rfl⟩,rfl⟩ | ⟨j,o,c,B,rfl,e1,rfl⟩ | ⟨j,o,c,B,rfl,e1,hd,hl,e2⟩
 ·rfl
 ·rfl
 ·simp only [D.shows,blk,e1]
  split
  ·simp [wc]
  ·simp [sub,wc]
 ·simp only [D.shows,blk,e1,Nat.mul_one]
  rw [if_neg (by rintro (x | x); exact hd x; omega),e2]
theorem IsList.at {h : List Blk} {s : S} {vs : List Int} (H : IsList h s vs) {i : Nat} (hi : i < vs.length) : ∃ j o c B,s = .sl (.g j) o vs.length c ∧ h[j]? = some B ∧ B.st ≠ .dead ∧ o + vs.length ≤ B.cells.length ∧ sub B.cells o vs.length = wc vs:=by
 rcases H with ⟨_,rfl⟩ | ⟨_,_,_,_,_,_,rfl⟩ | h
 ·simp at hi
 ·simp at hi
 ·exact h
open Classical in
noncomputable def listOf (h : List Blk) (s : S) : Option (List Int):=if hx : ∃ v,IsList h s v then some (Classical.choose hx) else none
theorem listOf_eq {h : List Blk} {s : S} {v : List Int} (H : IsList h s v) : listOf h s = some v:=by
 have hx : ∃ v,IsList h s v:=⟨v,H⟩
 unfold listOf
 rw [dif_pos hx,IsList.uniq (Classical.choose_spec hx) H]
theorem listOf_some {h : List Blk} {s : S} {v : List Int} (e : listOf h s = some v) : IsList h s v:=by
 unfold listOf at e
 split at e
 ·rename_i hx
  have:=Classical.choose_spec hx
  rw [Option.some.injEq] at e
  rw [e] at this
  exact this
 ·cases e
theorem IsList.get {o n : Nat} {cells : List S} {vs : List Int} (e : sub cells o n = wc vs) {i : Nat} (h : i < vs.length) (hn : vs.length = n) : cells[o + i]? = some (.i .u64 (nth 0 vs i)):=by
 have h1:=congrArg (fun l => l[i]?) e
 simp only [sub,wc_get h] at h1
 rw [List.getElem?_take,if_pos (by omega),List.getElem?_drop] at h1
 exact h1
theorem IsList.whole {h : List Blk} {j c room : Nat} {st : BK} {vs : List Int} (hj : h[j]? = some ⟨st,wc vs,room⟩) (hs : st ≠ .dead) : IsList h (.sl (.g j) 0 vs.length c) vs:=by
 refine .inr (.inr ⟨j,0,c,_,rfl,hj,hs, ?_, ?_⟩)
 ·simp [wc_len]
 ·rw [wc_sub,List.drop_zero,List.take_length]
theorem IsList.app {h X : List Blk} {s : S} {v : List Int} (H : IsList h s v) : IsList (h ++ X) s v:=by
 rcases H with ⟨e0,rfl⟩ | ⟨j,o,c,B,rfl,e1,e2⟩ | ⟨j,o,c,B,rfl,e1,e2⟩
 ·exact .inl ⟨e0,rfl⟩
 ·exact .inr (.inl ⟨j,o,c,B,rfl,by rw [List.getElem?_append_left (List.getElem?_eq_some_iff.1 e1).1]; exact e1,e2⟩)
 ·exact .inr (.inr ⟨j,o,c,B,rfl,by rw [List.getElem?_append_left (List.getElem?_eq_some_iff.1 e1).1]; exact e1,e2⟩)

theorem wc_val (n k : Nat) (w : List Int) : (wc w).all (S.val n k) = true:=wc_all (fun _ => rfl) w
noncomputable def cloneG : List V → List Blk → Res
 | [.s .ns],h => .ok (.s .ns) [] h
 | [.s (.sl r o n c)],h => match listOf h (.sl r o n c) with
  | some vs => .ob (vs.length ≤ 8796093022208) (.all vs.length fun c => .ok (.s (.sl (.g h.length) 0 vs.length c)) [] (h ++ [⟨.rw,wc vs,c⟩]))
  | none => .bad
 | _,_ => .bad
theorem clone_snd : Snd Tryz.prog 94 (FSpec.of cloneG):=snd_run (noT_snd _) mixed Tryz.func94 dc94 100 fun args h K hc hS => by
 unfold cloneG at hS
 split at hS
 ·simp only [spec_ok] at hS
  simp (maxSteps:=9999999) only [EV0,zy,zx,zw,zv,zu,zq,zp,zj,zk,leT,zg,rvC,zZ,zY,zX,zW,↓zV,↓zU,reduceCtorEq,zQ,yz,yY,yy,yx,yw,yv,yu,yq,yX,yj,yk,yg,yW,yV,yU,yZ,yQ,xz,df94]
  exact hS
 ·rename_i r o n c
  split at hS
  ·rename_i vs hv
   obtain ⟨hl,hS⟩:=hS
   rcases listOf_some hv with ⟨e | ⟨_,_,e⟩,_⟩ | ⟨j,o',c',B,e,hj,rfl⟩ | ⟨j,o',c',B,e,hj,hd,hle,hs⟩
   ·cases e
   ·cases e
   ·simp only [S.sl.injEq] at e
    obtain ⟨rfl,rfl,rfl,rfl⟩:=e
    simp only [spec_all,spec_ok] at hS
    simp (maxSteps:=9999999) only [EV0,zy,zx,zw,zv,zu,zq,zp,zj,zk,leT,zg,rvC,zZ,zY,zX,zW,↓zV,↓zU,reduceCtorEq,zQ,yz,yY,yy,yx,yw,yv,yu,yq,yX,yj,yk,yg,yW,yV,yU,yZ,yQ,xz,df94,fillP,hj,sub,List.take_zero,ite_self]
    intro c hc1
    refine ⟨[0],by simp,rfl, ?_⟩
    simp only [getAll,List.getElem?_cons_zero]
    refine ⟨rfl, ?_⟩
    have:=hS c hc1
    refine cast (congrArg (K _) ?_) this
    simp [Blk.ren,wc]
   ·simp only [S.sl.injEq] at e
    obtain ⟨rfl,rfl,rfl,rfl⟩:=e
    have c1 : ¬ (B.st = .dead ∨ B.cells.length < o + vs.length):=by rintro (x | x); exact hd x; omega
    have c2 : vs.length * 8 ≤ 140737488355328:=by omega
    have c3 : vals h.length 1 (wc vs) = true:=wc_vals _ _ _
    have c4 : (wc vs).all (fun s => !S.names 0 s) = true:=wc_names 0 vs
    have c5 : ¬ B.cells.length < o + vs.length:=by omega
    simp only [spec_all,spec_ok] at hS
    simp (maxSteps:=9999999) only [EV0,zy,zx,zw,zv,zu,zq,zp,zj,zk,leT,zg,rvC,zZ,zY,zX,zW,↓zV,↓zU,reduceCtorEq,zQ,yz,yY,yy,yx,yw,yv,yu,yq,yX,yj,yk,yg,yW,yV,yU,yZ,yQ,xz,df94,fillP,hj,hd,c1,c5,hs,wc_known,c2,wc_val,wc_all]
    intro c hc1
    refine ⟨[0],by simp,rfl, ?_⟩
    simp only [getAll,List.getElem?_cons_zero]
    refine ⟨?_, ?_⟩
    ·simp [wc_kept]
    ·have:=hS c hc1
     refine cast (congrArg (K _) ?_) this
     simp [Blk.ren,wc_ren]
  ·exact hS.elim
 ·exact hS.elim

noncomputable def dumpM (b : Nat) (m : M) (st : M → List Blk) : List V → Res
 | [.s (.i .i64 x), .s (.i .i64 k)] => .br (m.has x k) (.all k.toNat fun c => .ok (.tup [.s (.sl (.g (st m).length) 0 k.toNat c), .s (.i .i64 0)]) [] (st m ++ [⟨.rw,wc ((m.w.drop x.toNat).take k.toNat),c⟩]))
   (.ok (.tup [.s .ns, .s (.i .i64 20)]) [] (st m))
 | _ => .bad
noncomputable def dumpG:=memF dumpM
noncomputable def TDu : Tab:=addT 93 spanG (addT 94 cloneG noT)
theorem TDu_snd : TDu.Snd Tryz.prog:=addT_snd ok93 span_snd (addT_snd ok94 clone_snd (noT_snd _))
theorem mdump_snd : Snd Tryz.prog 28 (FSpec.of dumpG):=snd_run TDu_snd mixed Tryz.func28 dc28 100 fun args h K hc hS => by
 obtain ⟨a,b,m,rest,rfl,H,hS1⟩:=memF_spec hS
 clear hS
 have hS:=hS1
 clear hS1
 unfold dumpM at hS
 split at hS
 ·rename_i x k
  simp only [spec_ok,spec_br,spec_all,setM_self H] at hS
  have hl:=m.l
  cases hh : m.has x k with
  | true =>
   have hS:=hS.1 hh
   obtain ⟨i,j,rfl,rfl,hij⟩:=M.has_nat hh
   simp only [Int.toNat_natCast] at hS
   have hvl : ((m.w.drop i).take j).length = j:=by simp; omega
   have hL : IsList h (.sl (.g b) (if m.w.length = i then 0 else i) j (m.w.length - i)) ((m.w.drop i).take j):=by
    refine .inr (.inr ⟨b,_,_,MW m,by rw [hvl],H.hb,fun x => BK.noConfusion x, ?_, ?_⟩)
    ·rw [hvl]; simp only [MW,wc_len]; split <;> omega
    ·rw [hvl]; simp only [MW]; rw [wc_sub]
     split
     ·have : j = 0:=by omega
      subst this; simp
     ·rfl
   have hB : j ≤ 8796093022208:=by omega
   simp (maxSteps:=9999999) only [EV0,zy,zx,zw,zv,zu,zq,zp,zj,zk,leT,zg,rvC,zZ,zY,zX,zW,↓zV,↓zU,reduceCtorEq,zQ,yz,yY,yy,yx,yw,yv,yu,yq,yX,yj,yk,yg,yW,yV,yU,yZ,yQ,xz,df28,TDu,spanG,memF_eq H,spanM,setM_self H,hh,cloneG,listOf_eq hL,hvl,hB,Int.toNat_natCast]
   exact hS
  | false =>
   have hS:=hS.2 hh
   simp (maxSteps:=9999999) only [EV0,zy,zx,zw,zv,zu,zq,zp,zj,zk,leT,zg,rvC,zZ,zY,zX,zW,↓zV,↓zU,reduceCtorEq,zQ,yz,yY,yy,yx,yw,yv,yu,yq,yX,yj,yk,yg,yW,yV,yU,yZ,yQ,xz,df28,TDu,spanG,memF_eq H,spanM,setM_self H,hh]
   exact hS
 ·exact hS.elim


noncomputable def sameWG : List V → List Blk → Res
 | [.s x, .s y],h => match listOf h x,listOf h y with
  | some v,some w => .ob (v.length ≤ 8796093022208 ∧ w.length ≤ 8796093022208) (.ok (.s (.b (decide (v = w)))) [] h)
  | _,_ => .bad
 | _,_ => .bad
theorem sameWG_spec {args : List V} {h : List Blk} {K : V → List Blk → Prop} (hS : (sameWG args h).spec K) : ∃ x y v w,args = [.s x, .s y] ∧ IsList h x v ∧ IsList h y w ∧ v.length ≤ 8796093022208 ∧ w.length ≤ 8796093022208 ∧ K (.s (.b (decide (v = w)))) h:=by
 unfold sameWG at hS
 split at hS
 ·split at hS
  ·rename_i e1 e2
   exact ⟨_,_,_,_,rfl,listOf_some e1,listOf_some e2,hS.1.1,hS.1.2,hS.2⟩
  ·exact hS.elim
 ·exact hS.elim
theorem take_ne {v w : List Int} {q : Nat} (h : q < v.length) (h' : q < w.length) (e : ¬ nth 0 v q = nth 0 w q) : v ≠ w:=fun x => by subst x; exact e rfl
theorem eq_of_nth {v w : List Int} (hl : v.length = w.length) (h : ∀ i,i < v.length → nth 0 v i = nth 0 w i) : v = w :=
 List.ext_getElem hl fun i h1 h2 => by have:=h i h1; rwa [nth_eq h1,nth_eq h2] at this
theorem sameW_snd : Snd Tryz.prog 59 (FSpec.of sameWG):=snd_run (noT_snd _) mixed Tryz.func59 dc59 100 fun args h K hc hS => by
 obtain ⟨x,y,v,w,rfl,Hx,Hy,lx,ly,hK⟩:=sameWG_spec hS
 clear hS
 have hlx:=fun ls h' => Hx.sl.len (ls:=ls) (h:=h')
 have hly:=fun ls h' => Hy.sl.len (ls:=ls) (h:=h')
 by_cases hn : v.length = w.length
 ·have e2 : ((v.length : Int) != (w.length : Int)) = false:=by rw [hn]; simp
  simp (maxSteps:=9999999) only [EV0,zy,zx,zw,zv,zu,zq,zp,zj,zk,leT,zg,rvC,zZ,zY,zX,zW,↓zV,↓zU,reduceCtorEq,zQ,yz,yY,yy,yx,yw,yv,yu,yq,yX,yj,yk,yg,yW,yV,yU,yZ,yQ,xz,df59,↓hlx,↓hly,e2]
  refine loop_rule (α:=Nat) [4,5,11,12,13,14,15,16,17,18,19,20,21,22,23,24,25] (fun q => [(5, .s (.i .i64 q))]) (fun _ => []) (fun q => h) (fun q => q ≤ v.length ∧ ∀ i,i < q → nth 0 v i = nth 0 w i) (fun q => v.length - q) 0 ⟨by omega,fun i hi => by omega⟩ ?_ ?_
  ·refine Wk.less ?_
   simp (maxSteps:=9999999) only [EV0,zy,zx,zw,zv,zu,zq,zp,zj,zk,leT,zg,rvC,zZ,zY,zX,zW,↓zV,↓zU,reduceCtorEq,zQ,yz,yY,yy,yx,yw,yv,yu,yq,yX,yj,yk,yg,yW,yV,yU,yZ,yQ,xz,q_cast,Int.natCast_zero]
  ·rintro X q ⟨hq,hpre⟩ IH
   rcases Nat.lt_or_ge q v.length with h1 | h1
   ·obtain ⟨j,o,c,B,rfl,hj,hd,hle,hs⟩:=Hx.at h1
    obtain ⟨j2,o2,c2,B2,rfl,hj2,hd2,hle2,hs2⟩:=Hy.at (i:=q) (by omega)
    obtain ⟨d1,d2,d3,d4⟩:=idx h1 (by omega)
    have d5 : (q : Int) < w.length:=by omega
    have g1:=IsList.get hs h1 rfl
    have g2:=IsList.get hs2 (i:=q) (by omega) rfl
    by_cases hx : nth 0 v q = nth 0 w q
    ·have f1 : (nth 0 v q != nth 0 w q) = false:=by simpa using hx
     refine run_sound (Tab.ok_Γ _) 100 _ _ _ _ ?_
     simp (maxSteps:=9999999) only [EV0,zy,zx,zw,zv,zu,zq,zp,zj,zk,leT,zg,rvC,zZ,zY,zX,zW,↓zV,↓zU,reduceCtorEq,zQ,yz,yY,yy,yx,yw,yv,yu,yq,yX,yj,yk,yg,yW,yV,yU,yZ,yQ,xz,d1,d2,d3,d4,d5,g1,g2,hj,hj2,hd,hd2,f1,hx,Int.toNat_natCast]
     exact IH (q + 1) _ (by omega) ⟨by omega,fun i hi => by
      rcases Nat.lt_or_ge i q with h2 | h2
      ·exact hpre i h2
      ·have : i = q:=by omega
       subst this; exact hx⟩ (Wk.same rfl rfl (by simp (maxSteps:=9999999) only [EV0,zy,zx,zw,zv,zu,zq,zp,zj,zk,leT,zg,rvC,zZ,zY,zX,zW,↓zV,↓zU,reduceCtorEq,zQ,yz,yY,yy,yx,yw,yv,yu,yq,yX,yj,yk,yg,yW,yV,yU,yZ,yQ,xz]))
    ·have f1 : (nth 0 v q != nth 0 w q) = true:=by simpa using hx
     have e1:=take_ne h1 (by omega) hx
     simp only [e1,decide_false] at hK
     refine run_sound (Tab.ok_Γ _) 100 _ _ _ _ ?_
     simp (maxSteps:=9999999) only [EV0,zy,zx,zw,zv,zu,zq,zp,zj,zk,leT,zg,rvC,zZ,zY,zX,zW,↓zV,↓zU,reduceCtorEq,zQ,yz,yY,yy,yx,yw,yv,yu,yq,yX,yj,yk,yg,yW,yV,yU,yZ,yQ,xz,d1,d2,d3,d4,d5,g1,g2,hj,hj2,hd,hd2,f1,hx,Int.toNat_natCast]
     exact hK
   ·have : q = v.length:=by omega
    subst this
    have e1:=eq_of_nth hn hpre
    simp only [e1,decide_true] at hK
    refine run_sound (Tab.ok_Γ _) 100 _ _ _ _ ?_
    simp (maxSteps:=9999999) only [EV0,zy,zx,zw,zv,zu,zq,zp,zj,zk,leT,zg,rvC,zZ,zY,zX,zW,↓zV,↓zU,reduceCtorEq,zQ,yz,yY,yy,yx,yw,yv,yu,yq,yX,yj,yk,yg,yW,yV,yU,yZ,yQ,xz,↓hlx,Int.lt_irrefl]
    exact hK
 ·have e1 : ¬ (v = w):=fun e => hn (by rw [e])
  have e2 : ((v.length : Int) != (w.length : Int)) = true:=by rw [bne_iff_ne]; omega
  have e3 : ¬ ((v.length : Int) = (w.length : Int)):=by omega
  simp only [e1,decide_false] at hK
  simp (maxSteps:=9999999) only [EV0,zy,zx,zw,zv,zu,zq,zp,zj,zk,leT,zg,rvC,zZ,zY,zX,zW,↓zV,↓zU,reduceCtorEq,zQ,yz,yY,yy,yx,yw,yv,yu,yq,yX,yj,yk,yg,yW,yV,yU,yZ,yQ,xz,df59,↓hlx,↓hly,e2,e3]
  exact hK
end Go.Proofs.YtcdfofeolgbnbaaGreat

/- Slots: what was put is got; the plain facts. -/
namespace Go.Proofs.YtcdfofeolgbnbaaGreat
open Go.D
set_option linter.all false
set_option maxRecDepth 100000
set_option maxHeartbeats 4000000

theorem M.putS_len (m : M) (a : Int) (s : Slot) : (m.putS a s).w.length = m.w.length:=by simp only [M.putS,M.tick_len,M.put_len]
theorem M.putS_there (m : M) (a b : Int) (s : Slot) : thereB (m.putS a s) b = thereB m b:=by simp only [thereB,M.putS_len]
theorem uw_0 : uw 0 = 0:=rfl
theorem M.at_putS {m : M} {a : Int} {s : Slot} (ht : thereB m a = true) (hr : slotRB s = true) {j : Int} (hj : 0 ≤ j) :
  (m.putS a s).at j = if j = a then s.cap.w0 else if j = a + 1 then s.cap.num else if j = a + 2 then s.links else if j = a + 3 then 0 else m.at j:=by
 have hb:=there_iff.1 ht
 obtain ⟨u0,u1,_,_⟩:=enc_back (slotRB_iff hr).1
 have u2:=links_u hr
 simp only [M.putS,M.at_tick,M.at_put,M.put_len,uw_of u0,uw_of u1,uw_of u2,uw_0]
 by_cases h0 : j = a
 ·subst h0
  rw [if_neg (by omega),if_neg (by omega),if_neg (by omega),if_pos (by omega),if_pos rfl]
 ·rw [if_neg h0]
  by_cases h1 : j = a + 1
  ·subst h1
   rw [if_neg (by omega),if_neg (by omega),if_pos (by omega),if_pos rfl]
  ·rw [if_neg h1]
   by_cases h2 : j = a + 2
   ·subst h2
    rw [if_neg (by omega),if_pos (by omega),if_pos rfl]
   ·rw [if_neg h2]
    by_cases h3 : j = a + 3
    ·subst h3
     rw [if_pos (by omega),if_pos rfl]
    ·rw [if_neg h3,if_neg (by omega),if_neg (by omega),if_neg (by omega),if_neg (by omega)]
theorem slot_back {s : Slot} (hr : slotRB s = true) : slotB s.cap.w0 s.cap.num s.links 0 = true ∧ slotC s.cap.w0 s.cap.num s.links = s:=by
 obtain ⟨rc,h1,h2,h3⟩:=slotRB_iff hr
 obtain ⟨_,_,e1,e2⟩:=enc_back rc
 have e : slotC s.cap.w0 s.cap.num s.links = s:=by
  obtain ⟨c,p,n,d⟩:=s
  simp only at h1 h2 h3 e2
  simp only [slotC,e2,Slot.links,Slot.mk.injEq,true_and]
  omega
 refine ⟨?_,e⟩
 have hl : s.links / 281474976710656 = 0:=by simp only [Slot.links]; omega
 simp only [slotB,e1,e,hr,hl,decide_true,Bool.true_and,beq_self_eq_true,Bool.and_true]
theorem M.putS_slot {m : M} {a : Int} {s : Slot} (ht : thereB m a = true) (hr : slotRB s = true) : (m.putS a s).slotB a = true ∧ (m.putS a s).slotC a = s:=by
 have hb:=there_iff.1 ht
 simp only [M.slotB,M.slotC]
 rw [M.at_putS ht hr (by omega),M.at_putS ht hr (by omega),M.at_putS ht hr (by omega),M.at_putS ht hr (by omega)]
 simp only [if_true]
 rw [if_neg (by omega),if_neg (by omega),if_neg (by omega),if_neg (by omega),if_neg (by omega),if_neg (by omega)]
 exact slot_back hr
theorem M.putS_other {m : M} {a b : Int} {s : Slot} (ht : thereB m a = true) (hr : slotRB s = true) (hb : thereB m b = true) (hn : a ≠ b) : (m.putS a s).slotB b = m.slotB b ∧ (m.putS a s).slotC b = m.slotC b:=by
 have h1:=there_iff.1 ht
 have h2:=there_iff.1 hb
 rw [Int.tmod_eq_emod_of_nonneg (by omega)] at h1 h2
 have e : ∀ k : Int,0 ≤ k → k ≤ 3 → (m.putS a s).at (b + k) = m.at (b + k):=fun k h3 h4 => by
  rw [M.at_putS ht hr (by omega),if_neg (by omega),if_neg (by omega),if_neg (by omega),if_neg (by omega)]
 have e0:=e 0 (by omega) (by omega)
 rw [Int.add_zero] at e0
 simp only [M.slotB,M.slotC,e0,e 1 (by omega) (by omega),e 2 (by omega) (by omega),e 3 (by omega) (by omega),and_self]
end Go.Proofs.YtcdfofeolgbnbaaGreat

