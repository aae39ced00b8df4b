/- Package cdt: full,listed,turn,join,whatever words lie there. -/
import Derived.Test.YtcdfofeolgbnbaaZ8
import Derived.Test.YtcdfofeolgbnbaaZ12
import Derived.Test.YtcdfofeolgbnbaaZ9
/- Package slots: Put. -/
namespace Go.Proofs.Ytcdfofeolgbnbaa
open Go.D
open Nat (reduceAdd reducePow reduceMul reduceSub reduceLeDiff reduceLT reduceEqDiff)
open Int (reduceNeg reduceLE reduceEq reduceNe reduceToNat)
open Go.D renaming istep → zx,pickR → zw,bin1R → zv,un1R → zu,eqS → zq,eq1 → zp,cmpS → zj,cmp1 → zk,isNil → zg,shows → zZ,result → zY,q_cond_t → zU,q_cond_f → zQ
open List renaming set → zX,replicate → zW
open Option renaming map → zV
open Nat renaming reduceAdd → yz,reducePow → yy,reduceMul → yx,reduceSub → yw,reduceLeDiff → yv,reduceLT → yu,reduceEqDiff → yq
open Int renaming reduceNeg → yp,reduceLE → yj,reduceEq → yk,reduceNe → yg,reduceToNat → yZ,reducePow → yY,reduceLT → yX,reduceAdd → yW,reduceSub → yV,reduceMul → yU,reduceBEq → yQ,reduceBNe → xz
set_option linter.all false
set_option maxRecDepth 100000
set_option maxHeartbeats 4000000

theorem M.put_tick (m : M) (k : Int) (i : Nat) (x : Int) : (m.tick k).put i x = (m.put i x).tick k:=rfl
def Slot.links (s : Slot) : Int:=s.prev + 65536 * s.next + 4294967296 * s.depth
def M.putS (m : M) (a : Int) (s : Slot) : M:=((((m.put a.toNat s.cap.w0).put (a + 1).toNat s.cap.num).put (a + 2).toNat s.links).put (a + 3).toNat 0).tick 4
def putSM (b : Nat) (m : M) (st : M → List Blk) : List V → Res
 | [.s (.i .i64 a),x] => slotF (fun s => .br (thereB m a) (.br (slotRB s) (.ok (.s (.i .i64 0)) [] (st (m.putS a s))) (.ok (.s (.i .i64 110)) [] (st m))) (.ok (.s (.i .i64 20)) [] (st m))) [x]
 | _ => .bad
noncomputable def putSG:=memF putSM
theorem putSM_spec {b : Nat} {m : M} {st : M → List Blk} {args : List V} {K : V → List Blk → Prop} (h : (putSM b m st args).spec K) :
  ∃ a s,args = [.s (.i .i64 a), .agg s.cl] ∧ (thereB m a = false → K (.s (.i .i64 20)) (st m)) ∧ (thereB m a = true → slotRB s = false → K (.s (.i .i64 110)) (st m)) ∧ (thereB m a = true → slotRB s = true → K (.s (.i .i64 0)) (st (m.putS a s))):=by
 unfold putSM at h
 split at h
 ·rename_i a x
  obtain ⟨s,e,h⟩:=slotF_spec h
  simp only [List.cons.injEq,and_true] at e
  subst e
  have h : (thereB m a = true → (slotRB s = true → K _ _) ∧ (slotRB s = false → K _ _)) ∧ (thereB m a = false → K _ _):=h
  exact ⟨a,s,rfl,h.2,fun e => (h.1 e).2,fun e => (h.1 e).1⟩
 ·exact h.elim

def pfldG : List V → List Blk → Res
 | [.s (.i .i64 n)],h => .ok (.agg [.i .i64 16, .i .u64 (IntKind.u64.wrap n)]) [] h
 | _,_ => .bad
theorem pfld_snd : Snd Try.prog 67 (FSpec.of pfldG):=snd_run (noT_snd _) mixed Try.func67 dc67 100 fun args h K _ hS => by
 unfold pfldG at hS
 split at hS
 ·simp only [spec_ok] at hS
  simp (maxSteps:=9999999) only [EV0,zx,zw,zv,zu,zq,zp,zj,zk,zg,leT,zZ,rvC,zY,zX,zW,zV,↓zU,↓zQ,reduceCtorEq,yz,yy,yY,yx,yw,yv,yu,yq,yp,yX,yj,yk,yg,yW,yV,yU,yZ,yQ,xz,df67,put,fillP,sub,EVt]
  exact hS
 ·exact hS.elim
theorem slotRB_iff {s : Slot} (h : slotRB s = true) : rightB s.cap = true ∧ (0 ≤ s.prev ∧ s.prev < 65536 ∧ s.prev % 4 = 0) ∧ (0 ≤ s.next ∧ s.next < 65536 ∧ s.next % 4 = 0) ∧ 0 ≤ s.depth ∧ s.depth < 65536:=by
 simp only [slotRB,linkB,Bool.and_eq_true,decide_eq_true_eq,beq_iff_eq] at h
 obtain ⟨_,h1,⟨p1,p2,p3⟩,⟨n1,n2,n3⟩,d1,d2⟩:=h
 rw [Int.tmod_eq_emod_of_nonneg p1] at p3
 rw [Int.tmod_eq_emod_of_nonneg n1] at n3
 exact ⟨h1,⟨p1,p2,p3⟩,⟨n1,n2,n3⟩,d1,d2⟩
theorem links_B {s : Slot} (h : slotRB s = true) : packB [⟨16,s.prev⟩,⟨16,s.next⟩,⟨16,s.depth⟩] 0 = true:=by
 obtain ⟨_,h1,h2,h3⟩:=slotRB_iff h
 simp only [packB,setB,fieldB,Bool.and_eq_true,decide_eq_true_eq]
 simp only [Int.reduceAdd,Int.reduceSub,reduceLE,reduceToNat,reducePow,true_and,and_true]
 omega
theorem links_V {s : Slot} (h : slotRB s = true) : packV [⟨16,s.prev⟩,⟨16,s.next⟩,⟨16,s.depth⟩] 0 = s.links:=by
 obtain ⟨_,h1,h2,h3⟩:=slotRB_iff h
 simp only [packV,Int.reduceAdd,reduceToNat,reducePow,Slot.links]
 omega
theorem links_u {s : Slot} (h : slotRB s = true) : u64 s.links:=by
 obtain ⟨_,h1,h2,h3⟩:=slotRB_iff h
 simp only [u64,Slot.links]; omega

noncomputable def TPu : Tab:=addT 55 sthereG (addT 59 slotRG (addT 66 encG (addT 67 pfldG (addT 68 packG (addT 69 writeG noT)))))
theorem TPu_snd : TPu.Snd Try.prog:=addT_snd ok55 sthere_snd (addT_snd ok59 slotR_snd (addT_snd ok66 enc_snd (addT_snd ok67 pfld_snd (addT_snd ok68 pack_snd (addT_snd ok69 mwrite_snd (noT_snd _))))))
theorem putS_snd : Snd Try.prog 38 (FSpec.of putSG):=snd_run TPu_snd mixed Try.func38 dc38 300 fun args h K hc hS => by
 obtain ⟨a,b,m,rest,rfl,H,hS1⟩:=memF_spec hS
 clear hS
 have hS:=hS1
 clear hS1
 obtain ⟨x,s,rfl,q1,q2,q3⟩:=putSM_spec hS
 clear hS
 rw [setM_self H] at q1 q2
 have hl:=m.l
 cases ht : thereB m x with
 | false =>
  have hS:=q1 ht
  simp only [Slot.cl]
  simp (maxSteps:=9999999) only [EV0,zx,zw,zv,zu,zq,zp,zj,zk,zg,leT,zZ,rvC,zY,zX,zW,zV,↓zU,↓zQ,reduceCtorEq,yz,yy,yY,yx,yw,yv,yu,yq,yp,yX,yj,yk,yg,yW,yV,yU,yZ,yQ,xz,df38,TPu,sthereG,memF_eq H,sthereM,setM_self H,ht]
  exact hS
 | true =>
  cases hr : slotRB s with
  | false =>
   have hS:=q2 ht hr
   simp only [Slot.cl]
   simp (maxSteps:=9999999) only [EV0,zx,zw,zv,zu,zq,zp,zj,zk,zg,leT,zZ,rvC,zY,zX,zW,zV,↓zU,↓zQ,reduceCtorEq,yz,yy,yY,yx,yw,yv,yu,yq,yp,yX,yj,yk,yg,yW,yV,yU,yZ,yQ,xz,df38,TPu,sthereG,memF_eq H,sthereM,setM_self H,ht,slotRG,slotF,slot_eta,hr,sub,EVt]
   exact hS
  | true =>
   have hS:=q3 ht hr
   have hb:=there_iff.1 ht
   obtain ⟨rc,⟨p1,p2,_⟩,⟨n1,n2,_⟩,d1,d2⟩:=slotRB_iff hr
   obtain ⟨u0,u1,_,_⟩:=enc_back rc
   have u2:=links_u hr
   have eB:=links_B hr
   have eV:=links_V hr
   have h0 : m.has x 1 = true:=M.has_of (by omega)
   have h1 : m.has (x + 1) 1 = true:=M.has_of (by omega)
   have h2 : m.has (x + 2) 1 = true:=M.has_of (by omega)
   have h3 : m.has (x + 3) 1 = true:=M.has_of (by omega)
   have w0 : IntKind.i64.wrap (x + 0) = x:=by rw [wrap64] <;> omega
   have w1 : IntKind.i64.wrap (x + 1) = x + 1:=wrap64 (by omega) (by omega)
   have w2 : IntKind.i64.wrap (x + 2) = x + 2:=wrap64 (by omega) (by omega)
   have w3 : IntKind.i64.wrap (x + 3) = x + 3:=wrap64 (by omega) (by omega)
   have v1 : IntKind.i64.wrap 1 = 1:=by decide
   have v2 : IntKind.i64.wrap 2 = 2:=by decide
   have v3 : IntKind.i64.wrap 3 = 3:=by decide
   have v4 : IntKind.i64.wrap 4 = 4:=by decide
   have x1 : IntKind.u64.wrap s.prev = s.prev:=wrapu p1 (by omega)
   have x2 : IntKind.u64.wrap s.next = s.next:=wrapu n1 (by omega)
   have x3 : IntKind.u64.wrap s.depth = s.depth:=wrapu d1 (by omega)
   have y1 : u64 s.prev:=⟨p1,by omega⟩
   have y2 : u64 s.next:=⟨n1,by omega⟩
   have y3 : u64 s.depth:=⟨d1,by omega⟩
   have u3:=u64_0
   simp only [M.putS] at hS
   simp only [Slot.cl]
   simp (maxSteps:=9999999) only [EV0,zx,zw,zv,zu,zq,zp,zj,zk,zg,leT,zZ,rvC,zY,zX,zW,zV,↓zU,↓zQ,reduceCtorEq,yz,yy,yY,yx,yw,yv,yu,yq,yp,yX,yj,yk,yg,yW,yV,yU,yZ,yQ,xz,df38,TPu,sthereG,memF_eq H,sthereM,setM_self H,ht,slotRG,slotF,slot_eta,cap_eta,hr,rc,encG,capF,pfldG,packG,R.lend,R.unlend,S_ren,C.ren,V.ren,Blk.ren,take_app,drop_app,Nat.not_lt_zero,Nat.lt_irrefl,Nat.add_sub_cancel_left,Nat.not_lt,Nat.le_add_right,decF,arr,Fd.c,List.take,eB,eV,x1,x2,x3,put,fillP,sub,EVt]
   refine ⟨?_,hc, ?_⟩
   ·intro f hf
    simp only [List.mem_cons,List.not_mem_nil,or_false] at hf
    rcases hf with rfl | rfl | rfl <;> assumption
   rw [holds_loop]
   refine swp_loop fun X hX => ?_
   refine hX _ ?_
   refine run_sound (Tab.ok_Γ _) 200 _ _ _ _ ?_
   simp (maxSteps:=9999999) only [EV0,zx,zw,zv,zu,zq,zp,zj,zk,zg,leT,zZ,rvC,zY,zX,zW,zV,↓zU,↓zQ,reduceCtorEq,yz,yy,yY,yx,yw,yv,yu,yq,yp,yX,yj,yk,yg,yW,yV,yU,yZ,yQ,xz,TPu,writeG,memF_eq H,memF_set H,writeM,h0,h1,h2,h3,w0,w1,w2,w3,v1,v2,v3,v4,u0,u1,u2,u3,M.put_has,M.tick_has,M.put_tick,M.tick_tick,put,setM_fun H]
   refine hX _ ?_
   refine run_sound (Tab.ok_Γ _) 200 _ _ _ _ ?_
   simp (maxSteps:=9999999) only [EV0,zx,zw,zv,zu,zq,zp,zj,zk,zg,leT,zZ,rvC,zY,zX,zW,zV,↓zU,↓zQ,reduceCtorEq,yz,yy,yY,yx,yw,yv,yu,yq,yp,yX,yj,yk,yg,yW,yV,yU,yZ,yQ,xz,TPu,writeG,memF_eq H,memF_set H,writeM,h0,h1,h2,h3,w0,w1,w2,w3,v1,v2,v3,v4,u0,u1,u2,u3,M.put_has,M.tick_has,M.put_tick,M.tick_tick,put,setM_fun H]
   refine hX _ ?_
   refine run_sound (Tab.ok_Γ _) 200 _ _ _ _ ?_
   simp (maxSteps:=9999999) only [EV0,zx,zw,zv,zu,zq,zp,zj,zk,zg,leT,zZ,rvC,zY,zX,zW,zV,↓zU,↓zQ,reduceCtorEq,yz,yy,yY,yx,yw,yv,yu,yq,yp,yX,yj,yk,yg,yW,yV,yU,yZ,yQ,xz,TPu,writeG,memF_eq H,memF_set H,writeM,h0,h1,h2,h3,w0,w1,w2,w3,v1,v2,v3,v4,u0,u1,u2,u3,M.put_has,M.tick_has,M.put_tick,M.tick_tick,put,setM_fun H]
   refine hX _ ?_
   refine run_sound (Tab.ok_Γ _) 200 _ _ _ _ ?_
   simp (maxSteps:=9999999) only [EV0,zx,zw,zv,zu,zq,zp,zj,zk,zg,leT,zZ,rvC,zY,zX,zW,zV,↓zU,↓zQ,reduceCtorEq,yz,yy,yY,yx,yw,yv,yu,yq,yp,yX,yj,yk,yg,yW,yV,yU,yZ,yQ,xz,TPu,writeG,memF_eq H,memF_set H,writeM,h0,h1,h2,h3,w0,w1,w2,w3,v1,v2,v3,v4,u0,u1,u2,u3,M.put_has,M.tick_has,M.put_tick,M.tick_tick,put,setM_fun H]
   refine hX _ ?_
   refine run_sound (Tab.ok_Γ _) 200 _ _ _ _ ?_
   simp (maxSteps:=9999999) only [EV0,zx,zw,zv,zu,zq,zp,zj,zk,zg,leT,zZ,rvC,zY,zX,zW,zV,↓zU,↓zQ,reduceCtorEq,yz,yy,yY,yx,yw,yv,yu,yq,yp,yX,yj,yk,yg,yW,yV,yU,yZ,yQ,xz,TPu,writeG,memF_eq H,memF_set H,writeM,h0,h1,h2,h3,w0,w1,w2,w3,v1,v2,v3,v4,u0,u1,u2,u3,M.put_has,M.tick_has,M.put_tick,M.tick_tick,put,setM_fun H]
   exact hS

theorem rputS_snd : Snd Try.prog 53 (FSpec.of putSG):=snd_run TGr_snd mixed Try.func53 dc53 300 fun args h K hc hS => by
 obtain ⟨a,b,m,rest,rfl,H,hS1⟩:=memF_spec hS
 clear hS
 have hS:=hS1
 clear hS1
 obtain ⟨x,s,rfl,q1,q2,q3⟩:=putSM_spec hS
 clear hS
 rw [setM_self H] at q1 q2
 have hl:=m.l
 cases ht : thereB m x with
 | false =>
  have hS:=q1 ht
  simp only [Slot.cl]
  simp (maxSteps:=9999999) only [EV0,zx,zw,zv,zu,zq,zp,zj,zk,zg,leT,zZ,rvC,zY,zX,zW,zV,↓zU,↓zQ,reduceCtorEq,yz,yy,yY,yx,yw,yv,yu,yq,yp,yX,yj,yk,yg,yW,yV,yU,yZ,yQ,xz,df53,TGr,sthereG,memF_eq H,sthereM,setM_self H,ht]
  exact hS
 | true =>
  cases hr : slotRB s with
  | false =>
   have hS:=q2 ht hr
   simp only [Slot.cl]
   simp (maxSteps:=9999999) only [EV0,zx,zw,zv,zu,zq,zp,zj,zk,zg,leT,zZ,rvC,zY,zX,zW,zV,↓zU,↓zQ,reduceCtorEq,yz,yy,yY,yx,yw,yv,yu,yq,yp,yX,yj,yk,yg,yW,yV,yU,yZ,yQ,xz,df53,TGr,sthereG,memF_eq H,sthereM,setM_self H,ht,slotRG,slotF,slot_eta,hr,sub,EVt]
   exact hS
  | true =>
   have hS:=q3 ht hr
   have hb:=there_iff.1 ht
   obtain ⟨rc,⟨p1,p2,_⟩,⟨n1,n2,_⟩,d1,d2⟩:=slotRB_iff hr
   obtain ⟨u0,u1,_,_⟩:=enc_back rc
   have u2:=links_u hr
   have h0 : m.has x 1 = true:=M.has_of (by omega)
   have h1 : m.has (x + 1) 1 = true:=M.has_of (by omega)
   have h2 : m.has (x + 2) 1 = true:=M.has_of (by omega)
   have h3 : m.has (x + 3) 1 = true:=M.has_of (by omega)
   have w1 : IntKind.i64.wrap (x + 1) = x + 1:=wrap64 (by omega) (by omega)
   have w2 : IntKind.i64.wrap (x + 2) = x + 2:=wrap64 (by omega) (by omega)
   have w3 : IntKind.i64.wrap (x + 3) = x + 3:=wrap64 (by omega) (by omega)
   have x1 : IntKind.u64.wrap s.prev = s.prev:=wrapu p1 (by omega)
   have x2 : IntKind.u64.wrap s.next = s.next:=wrapu n1 (by omega)
   have x3 : IntKind.u64.wrap s.depth = s.depth:=wrapu d1 (by omega)
   have x4 : IntKind.u64.wrap (s.next * 65536) = s.next * 65536:=wrapu (by omega) (by omega)
   have x5 : IntKind.u64.wrap (s.depth * 4294967296) = s.depth * 4294967296:=wrapu (by omega) (by omega)
   have x6 : IntKind.u64.wrap (s.prev + s.next * 65536) = s.prev + s.next * 65536:=wrapu (by omega) (by omega)
   have x7 : IntKind.u64.wrap (s.prev + s.next * 65536 + s.depth * 4294967296) = s.links:=by
    rw [wrapu (by omega) (by omega),Slot.links]; omega
   have u3:=u64_0
   simp only [M.putS] at hS
   simp only [Slot.cl]
   simp (maxSteps:=9999999) only [EV0,zx,zw,zv,zu,zq,zp,zj,zk,zg,leT,zZ,rvC,zY,zX,zW,zV,↓zU,↓zQ,reduceCtorEq,yz,yy,yY,yx,yw,yv,yu,yq,yp,yX,yj,yk,yg,yW,yV,yU,yZ,yQ,xz,df53,TGr,sthereG,memF_eq H,memF_set H,sthereM,setM_self H,setM_fun H,ht,slotRG,slotF,slot_eta,cap_eta,hr,rc,encG,capF,writeG,writeM,h0,h1,h2,h3,w1,w2,w3,u0,u1,u2,u3,M.put_has,M.tick_has,M.put_tick,M.tick_tick,x1,x2,x3,x4,x5,x6,x7,min16,min32,put,fillP,sub,EVt]
   exact hS
end Go.Proofs.Ytcdfofeolgbnbaa

/- Slices of elements,as they lie in a block. -/
namespace Go.Proofs.Ytcdfofeolgbnbaa
open Go.D
set_option linter.all false
set_option maxRecDepth 100000

def IsArr {α : Type} (c : α → List S) (h : List Blk) (s : S) (L : List α) : Prop :=
 ((s = .ns ∨ ∃ a c',s = .es a c') ∧ L = []) ∨ ∃ j c' st room,s = .sl (.g j) 0 L.length c' ∧ h[j]? = some ⟨st,arr c L,room⟩ ∧ (L.length ≠ 0 → st ≠ .dead)
theorem arr_inj {α : Type} {c : α → List S} {k : Nat} (hk : ∀ x,(c x).length = k) (hc : ∀ x y,c x = c y → x = y) : ∀ (L M : List α),L.length = M.length → arr c L = arr c M → L = M
 | [],[],_,_ => rfl
 | x :: L,y :: M,hl,e => by
  simp only [arr] at e
  obtain ⟨e1,e2⟩:=List.append_inj e (by rw [hk,hk])
  rw [hc x y e1,arr_inj hk hc L M (by simpa using hl) e2]
 | [],_ :: _,hl,_ => by simp at hl
 | _ :: _,[],hl,_ => by simp at hl
class Cells {α : Type} (c : α → List S) : Prop where
 len : ∃ k,∀ x,(c x).length = k
 inj : ∀ x y,c x = c y → x = y
theorem IsArr.uniq {α : Type} {c : α → List S} [C : Cells c] {h : List Blk} {s : S} {L M : List α} (H : IsArr c h s L) (H' : IsArr c h s M) : L = M:=by
 rcases H with ⟨e0,rfl⟩ | ⟨j,c1,st,room,rfl,e1,_⟩
 ·rcases H' with ⟨_,rfl⟩ | ⟨_,_,_,_,e,_⟩
  ·rfl
  ·subst e; rcases e0 with e0 | ⟨_,_,e0⟩ <;> cases e0
 ·rcases H' with ⟨e | ⟨_,_,e⟩,_⟩ | ⟨j',c1',st',room',e,e2,_⟩
  ·cases e
  ·cases e
  ·simp only [S.sl.injEq,R.g.injEq,true_and] at e
   obtain ⟨rfl,hl,rfl⟩:=e
   rw [e1,Option.some.injEq,Blk.mk.injEq] at e2
   obtain ⟨k,hk⟩:=C.len
   exact arr_inj hk C.inj L M hl e2.2.1
open Classical in
noncomputable def arrOf {α : Type} (c : α → List S) (h : List Blk) (s : S) : Option (List α):=if hx : ∃ v,IsArr c h s v then some (Classical.choose hx) else none
theorem arrOf_eq {α : Type} {c : α → List S} [Cells c] {h : List Blk} {s : S} {v : List α} (H : IsArr c h s v) : arrOf c h s = some v:=by
 have hx : ∃ v,IsArr c h s v:=⟨v,H⟩
 unfold arrOf
 rw [dif_pos hx,IsArr.uniq (Classical.choose_spec hx) H]
theorem arrOf_some {α : Type} {c : α → List S} {h : List Blk} {s : S} {v : List α} (e : arrOf c h s = some v) : IsArr c h s v:=by
 unfold arrOf at e
 split at e
 ·rename_i hx
  have:=Classical.choose_spec hx
  rw [Option.some.injEq] at e
  rw [e] at this
  exact this
 ·cases e
theorem IsArr.app {α : Type} {c : α → List S} {h X : List Blk} {s : S} {L : List α} (H : IsArr c h s L) : IsArr c (h ++ X) s L:=by
 rcases H with ⟨e0,rfl⟩ | ⟨j,c',st,room,rfl,e1,e2⟩
 ·exact .inl ⟨e0,rfl⟩
 ·exact .inr ⟨j,c',st,room,rfl,by rw [List.getElem?_append_left (List.getElem?_eq_some_iff.1 e1).1]; exact e1,e2⟩
def In.c (n : Int) : List S:=[.i .i64 n]
theorem In.c_len (n : Int) : (In.c n).length = 1:=rfl
instance : Cells In.c:=⟨⟨1,In.c_len⟩,fun x y e => by simpa [In.c] using e⟩

/-! ### a slice whose form is not looked at -/
def IsSl (q : Nat) (s : S) (n : Nat) : Prop:=(s = .ns ∧ n = 0) ∨ (∃ a c,s = .es a c ∧ n = 0) ∨ ∃ j o c,s = .sl (.g j) o n c ∧ j < q
section
variable {q : Nat} {s : S} {n : Nat} (H : IsSl q s n)
include H
theorem IsSl.len {ls h : List Blk} : lenR (.s s) ls h = .ok (.s (.i .i64 n)) ls h:=by
 rcases H with ⟨rfl,rfl⟩ | ⟨a,c,rfl,rfl⟩ | ⟨j,o,c,rfl,_⟩ <;> rfl
theorem IsSl.known : V.known (.s s) = true:=by
 rcases H with ⟨rfl,rfl⟩ | ⟨a,c,rfl,rfl⟩ | ⟨j,o,c,rfl,_⟩ <;> rfl
theorem IsSl.plain : V.plain (.s s) = true:=by
 rcases H with ⟨rfl,rfl⟩ | ⟨a,c,rfl,rfl⟩ | ⟨j,o,c,rfl,_⟩ <;> rfl
theorem IsSl.noL : s.noL = true:=by
 rcases H with ⟨rfl,rfl⟩ | ⟨a,c,rfl,rfl⟩ | ⟨j,o,c,rfl,_⟩ <;> rfl
theorem IsSl.below (m : Nat) : s.below m = true:=by
 rcases H with ⟨rfl,rfl⟩ | ⟨a,c,rfl,rfl⟩ | ⟨j,o,c,rfl,_⟩ <;> rfl
theorem IsSl.names (m : Nat) : s.names m = false:=by
 rcases H with ⟨rfl,rfl⟩ | ⟨a,c,rfl,rfl⟩ | ⟨j,o,c,rfl,_⟩ <;> rfl
theorem IsSl.ren {ρ : R → R} (hρ : ∀ k, ρ (.g k) = .g k) : s.ren ρ = s:=by
 rcases H with ⟨rfl,rfl⟩ | ⟨a,c,rfl,rfl⟩ | ⟨j,o,c,rfl,_⟩ <;> simp [S.ren,hρ]
theorem IsSl.lend (m : Nat) : s.ren (R.lend m) = s:=H.ren fun _ => rfl
theorem IsSl.unlend {k : Nat} (hk : q ≤ k) : s.ren (R.unlend k) = s:=by
 rcases H with ⟨rfl,rfl⟩ | ⟨a,c,rfl,rfl⟩ | ⟨j,o,c,rfl,hj⟩
 ·rfl
 ·rfl
 ·simp only [S.ren,R.unlend]; rw [if_pos (by omega)]
theorem IsSl.pick (l : List Nat) : s.ren (R.pick l) = s:=H.ren fun _ => rfl
theorem IsSl.val {k m : Nat} (hk : q ≤ k) : s.val k m = true:=by
 rcases H with ⟨rfl,rfl⟩ | ⟨a,c,rfl,rfl⟩ | ⟨j,o,c,rfl,hj⟩
 ·rfl
 ·rfl
 ·simp only [S.val,R.val,decide_eq_true_eq]; omega
end
theorem IsArr.sl {α : Type} {c : α → List S} {h : List Blk} {s : S} {L : List α} (H : IsArr c h s L) : IsSl h.length s L.length:=by
 rcases H with ⟨e0 | ⟨a,c',e0⟩,rfl⟩ | ⟨j,c',st,room,rfl,e,_⟩
 ·exact .inl ⟨e0,rfl⟩
 ·exact .inr (.inl ⟨a,c',e0,rfl⟩)
 ·exact .inr (.inr ⟨j,0,c',rfl,(List.getElem?_eq_some_iff.1 e).1⟩)
theorem IsArr.at {α : Type} {c : α → List S} {h : List Blk} {s : S} {L : List α} (H : IsArr c h s L) {i : Nat} (hi : i < L.length) : ∃ j c' st room,s = .sl (.g j) 0 L.length c' ∧ h[j]? = some ⟨st,arr c L,room⟩ ∧ st ≠ .dead:=by
 rcases H with ⟨_,rfl⟩ | ⟨j,c',st,room,e,e1,e2⟩
 ·simp at hi
 ·exact ⟨j,c',st,room,e,e1,e2 (by omega)⟩
end Go.Proofs.Ytcdfofeolgbnbaa

/- Lists of words: Dump,Load,Same. -/
namespace Go.Proofs.Ytcdfofeolgbnbaa
open Go.D
open Nat (reduceAdd reducePow reduceMul reduceSub reduceLeDiff reduceLT reduceEqDiff)
open Int (reduceNeg reduceLE reduceEq reduceNe reduceToNat)
open Go.D renaming istep → zx,pickR → zw,bin1R → zv,un1R → zu,eqS → zq,eq1 → zp,cmpS → zj,cmp1 → zk,isNil → zg,shows → zZ,result → zY,q_cond_t → zU,q_cond_f → zQ
open List renaming set → zX,replicate → zW
open Option renaming map → zV
open Nat renaming reduceAdd → yz,reducePow → yy,reduceMul → yx,reduceSub → yw,reduceLeDiff → yv,reduceLT → yu,reduceEqDiff → yq
open Int renaming reduceNeg → yp,reduceLE → yj,reduceEq → yk,reduceNe → yg,reduceToNat → yZ,reducePow → yY,reduceLT → yX,reduceAdd → yW,reduceSub → yV,reduceMul → yU,reduceBEq → yQ,reduceBNe → xz
set_option linter.all false
set_option maxRecDepth 100000
set_option maxHeartbeats 4000000

def IsList (h : List Blk) (s : S) (vs : List Int) : Prop :=
 ((s = .ns ∨ ∃ a c,s = .es a c) ∧ vs = []) ∨ (∃ j o c B,s = .sl (.g j) o 0 c ∧ h[j]? = some B ∧ vs = []) ∨ ∃ j o c B,s = .sl (.g j) o vs.length c ∧ h[j]? = some B ∧ B.st ≠ .dead ∧ o + vs.length ≤ B.cells.length ∧ sub B.cells o vs.length = wc vs
theorem IsList.uniq {h : List Blk} {s : S} {v w : List Int} (H : IsList h s v) (H' : IsList h s w) : v = w:=by
 rcases H with ⟨e0,rfl⟩ | ⟨j,o,c,B,rfl,e1,rfl⟩ | ⟨j,o,c,B,rfl,e1,_,_,e2⟩
 ·rcases H' with ⟨_,rfl⟩ | ⟨_,_,_,_,e,_⟩ | ⟨j,o,c,B,e,_⟩
  ·rfl
  ·subst e; rcases e0 with e0 | ⟨_,_,e0⟩ <;> cases e0
  ·subst e; rcases e0 with e0 | ⟨_,_,e0⟩ <;> cases e0
 ·rcases H' with ⟨e | ⟨_,_,e⟩,_⟩ | ⟨_,_,_,_,_,_,rfl⟩ | ⟨j',o',c',B',e,_⟩
  ·cases e
  ·cases e
  ·rfl
  ·simp only [S.sl.injEq] at e
   exact (List.eq_nil_of_length_eq_zero e.2.2.1.symm).symm
 ·rcases H' with ⟨e | ⟨_,_,e⟩,_⟩ | ⟨_,_,_,_,e,_,rfl⟩ | ⟨j',o',c',B',e,e3,_,_,e4⟩
  ·cases e
  ·cases e
  ·simp only [S.sl.injEq] at e
   exact List.eq_nil_of_length_eq_zero e.2.2.1
  ·simp only [S.sl.injEq,R.g.injEq] at e
   obtain ⟨rfl,rfl,e5,rfl⟩:=e
   rw [e1,Option.some.injEq] at e3
   subst e3
   rw [← e5,e2] at e4
   exact wc_inj e4
theorem IsList.sl {h : List Blk} {s : S} {vs : List Int} (H : IsList h s vs) : IsSl h.length s vs.length:=by
 rcases H with ⟨e0 | ⟨a,c',e0⟩,rfl⟩ | ⟨j,o,c,B,rfl,e1,rfl⟩ | ⟨j,o,c,B,rfl,e1,_,_,e2⟩
 ·exact .inl ⟨e0,rfl⟩
 ·exact .inr (.inl ⟨a,c',e0,rfl⟩)
 ·exact .inr (.inr ⟨j,o,c,rfl,(List.getElem?_eq_some_iff.1 e1).1⟩)
 ·exact .inr (.inr ⟨j,o,c,rfl,(List.getElem?_eq_some_iff.1 e1).1⟩)
theorem IsList.shows {h : List Blk} {s : S} {vs : List Int} (H : IsList h s vs) (ls : List Blk) : shows ls h 1 s = some (vs.length,wc vs):=by
 rcases H with ⟨rfl | ⟨a,c',rfl⟩,rfl⟩ | ⟨j,o,c,B,rfl,e1,rfl⟩ | ⟨j,o,c,B,rfl,e1,hd,hl,e2⟩
 ·rfl
 ·rfl
 ·simp only [D.shows,blk,e1]
  split
  ·simp [wc]
  ·simp [sub,wc]
 ·simp only [D.shows,blk,e1,Nat.mul_one]
  rw [if_neg (by rintro (x | x); exact hd x; omega),e2]
theorem IsList.at {h : List Blk} {s : S} {vs : List Int} (H : IsList h s vs) {i : Nat} (hi : i < vs.length) : ∃ j o c B,s = .sl (.g j) o vs.length c ∧ h[j]? = some B ∧ B.st ≠ .dead ∧ o + vs.length ≤ B.cells.length ∧ sub B.cells o vs.length = wc vs:=by
 rcases H with ⟨_,rfl⟩ | ⟨_,_,_,_,_,_,rfl⟩ | h
 ·simp at hi
 ·simp at hi
 ·exact h
open Classical in
noncomputable def listOf (h : List Blk) (s : S) : Option (List Int):=if hx : ∃ v,IsList h s v then some (Classical.choose hx) else none
theorem listOf_eq {h : List Blk} {s : S} {v : List Int} (H : IsList h s v) : listOf h s = some v:=by
 have hx : ∃ v,IsList h s v:=⟨v,H⟩
 unfold listOf
 rw [dif_pos hx,IsList.uniq (Classical.choose_spec hx) H]
theorem listOf_some {h : List Blk} {s : S} {v : List Int} (e : listOf h s = some v) : IsList h s v:=by
 unfold listOf at e
 split at e
 ·rename_i hx
  have:=Classical.choose_spec hx
  rw [Option.some.injEq] at e
  rw [e] at this
  exact this
 ·cases e
theorem IsList.whole {h : List Blk} {j c room : Nat} {st : BK} {vs : List Int} (hj : h[j]? = some ⟨st,wc vs,room⟩) (hs : st ≠ .dead) : IsList h (.sl (.g j) 0 vs.length c) vs:=by
 refine .inr (.inr ⟨j,0,c,_,rfl,hj,hs, ?_, ?_⟩)
 ·simp [wc_len]
 ·rw [wc_sub,List.drop_zero,List.take_length]
theorem IsList.app {h X : List Blk} {s : S} {v : List Int} (H : IsList h s v) : IsList (h ++ X) s v:=by
 rcases H with ⟨e0,rfl⟩ | ⟨j,o,c,B,rfl,e1,e2⟩ | ⟨j,o,c,B,rfl,e1,e2⟩
 ·exact .inl ⟨e0,rfl⟩
 ·exact .inr (.inl ⟨j,o,c,B,rfl,by rw [List.getElem?_append_left (List.getElem?_eq_some_iff.1 e1).1]; exact e1,e2⟩)
 ·exact .inr (.inr ⟨j,o,c,B,rfl,by rw [List.getElem?_append_left (List.getElem?_eq_some_iff.1 e1).1]; exact e1,e2⟩)

theorem wc_val (n k : Nat) (w : List Int) : (wc w).all (S.val n k) = true:=wc_all (fun _ => rfl) w
noncomputable def cloneG : List V → List Blk → Res
 | [.s .ns],h => .ok (.s .ns) [] h
 | [.s (.sl r o n c)],h => match listOf h (.sl r o n c) with
  | some vs => .ob (vs.length ≤ 8796093022208) (.all vs.length fun c => .ok (.s (.sl (.g h.length) 0 vs.length c)) [] (h ++ [⟨.rw,wc vs,c⟩]))
  | none => .bad
 | _,_ => .bad
theorem clone_snd : Snd Try.prog 54 (FSpec.of cloneG):=snd_run (noT_snd _) mixed Try.func54 dc54 100 fun args h K hc hS => by
 unfold cloneG at hS
 split at hS
 ·simp only [spec_ok] at hS
  simp (maxSteps:=9999999) only [EV0,zx,zw,zv,zu,zq,zp,zj,zk,zg,leT,zZ,rvC,zY,zX,zW,zV,↓zU,↓zQ,reduceCtorEq,yz,yy,yY,yx,yw,yv,yu,yq,yp,yX,yj,yk,yg,yW,yV,yU,yZ,yQ,xz,df54]
  exact hS
 ·rename_i r o n c
  split at hS
  ·rename_i vs hv
   obtain ⟨hl,hS⟩:=hS
   rcases listOf_some hv with ⟨e | ⟨_,_,e⟩,_⟩ | ⟨j,o',c',B,e,hj,rfl⟩ | ⟨j,o',c',B,e,hj,hd,hle,hs⟩
   ·cases e
   ·cases e
   ·simp only [S.sl.injEq] at e
    obtain ⟨rfl,rfl,rfl,rfl⟩:=e
    simp only [spec_all,spec_ok] at hS
    simp (maxSteps:=9999999) only [EV0,zx,zw,zv,zu,zq,zp,zj,zk,zg,leT,zZ,rvC,zY,zX,zW,zV,↓zU,↓zQ,reduceCtorEq,yz,yy,yY,yx,yw,yv,yu,yq,yp,yX,yj,yk,yg,yW,yV,yU,yZ,yQ,xz,df54,fillP,hj,sub,List.take_zero,ite_self]
    intro c hc1
    refine ⟨[0],by simp,rfl, ?_⟩
    simp only [getAll,List.getElem?_cons_zero]
    refine ⟨rfl, ?_⟩
    have:=hS c hc1
    refine cast (congrArg (K _) ?_) this
    simp [Blk.ren,wc]
   ·simp only [S.sl.injEq] at e
    obtain ⟨rfl,rfl,rfl,rfl⟩:=e
    have c1 : ¬ (B.st = .dead ∨ B.cells.length < o + vs.length):=by rintro (x | x); exact hd x; omega
    have c2 : vs.length * 8 ≤ 140737488355328:=by omega
    have c3 : vals h.length 1 (wc vs) = true:=wc_vals _ _ _
    have c4 : (wc vs).all (fun s => !S.names 0 s) = true:=wc_names 0 vs
    have c5 : ¬ B.cells.length < o + vs.length:=by omega
    simp only [spec_all,spec_ok] at hS
    simp (maxSteps:=9999999) only [EV0,zx,zw,zv,zu,zq,zp,zj,zk,zg,leT,zZ,rvC,zY,zX,zW,zV,↓zU,↓zQ,reduceCtorEq,yz,yy,yY,yx,yw,yv,yu,yq,yp,yX,yj,yk,yg,yW,yV,yU,yZ,yQ,xz,df54,fillP,hj,hd,c1,c5,hs,wc_known,c2,wc_val,wc_all]
    intro c hc1
    refine ⟨[0],by simp,rfl, ?_⟩
    simp only [getAll,List.getElem?_cons_zero]
    refine ⟨?_, ?_⟩
    ·simp [wc_kept]
    ·have:=hS c hc1
     refine cast (congrArg (K _) ?_) this
     simp [Blk.ren,wc_ren]
  ·exact hS.elim
 ·exact hS.elim

noncomputable def dumpM (b : Nat) (m : M) (st : M → List Blk) : List V → Res
 | [.s (.i .i64 x), .s (.i .i64 k)] => .br (m.has x k) (.all k.toNat fun c => .ok (.tup [.s (.sl (.g (st m).length) 0 k.toNat c), .s (.i .i64 0)]) [] (st m ++ [⟨.rw,wc ((m.w.drop x.toNat).take k.toNat),c⟩]))
   (.ok (.tup [.s .ns, .s (.i .i64 20)]) [] (st m))
 | _ => .bad
noncomputable def dumpG:=memF dumpM
noncomputable def TDu : Tab:=addT 32 spanG (addT 54 cloneG noT)
theorem TDu_snd : TDu.Snd Try.prog:=addT_snd ok32 span_snd (addT_snd ok54 clone_snd (noT_snd _))
theorem mdump_snd : Snd Try.prog 26 (FSpec.of dumpG):=snd_run TDu_snd mixed Try.func26 dc26 100 fun args h K hc hS => by
 obtain ⟨a,b,m,rest,rfl,H,hS1⟩:=memF_spec hS
 clear hS
 have hS:=hS1
 clear hS1
 unfold dumpM at hS
 split at hS
 ·rename_i x k
  simp only [spec_ok,spec_br,spec_all,setM_self H] at hS
  have hl:=m.l
  cases hh : m.has x k with
  | true =>
   have hS:=hS.1 hh
   obtain ⟨i,j,rfl,rfl,hij⟩:=M.has_nat hh
   simp only [Int.toNat_natCast] at hS
   have hvl : ((m.w.drop i).take j).length = j:=by simp; omega
   have hL : IsList h (.sl (.g b) (if m.w.length = i then 0 else i) j (m.w.length - i)) ((m.w.drop i).take j):=by
    refine .inr (.inr ⟨b,_,_,MW m,by rw [hvl],H.hb,fun x => BK.noConfusion x, ?_, ?_⟩)
    ·rw [hvl]; simp only [MW,wc_len]; split <;> omega
    ·rw [hvl]; simp only [MW]; rw [wc_sub]
     split
     ·have : j = 0:=by omega
      subst this; simp
     ·rfl
   have hB : j ≤ 8796093022208:=by omega
   simp (maxSteps:=9999999) only [EV0,zx,zw,zv,zu,zq,zp,zj,zk,zg,leT,zZ,rvC,zY,zX,zW,zV,↓zU,↓zQ,reduceCtorEq,yz,yy,yY,yx,yw,yv,yu,yq,yp,yX,yj,yk,yg,yW,yV,yU,yZ,yQ,xz,df26,TDu,spanG,memF_eq H,spanM,setM_self H,hh,cloneG,listOf_eq hL,hvl,hB,Int.toNat_natCast]
   exact hS
  | false =>
   have hS:=hS.2 hh
   simp (maxSteps:=9999999) only [EV0,zx,zw,zv,zu,zq,zp,zj,zk,zg,leT,zZ,rvC,zY,zX,zW,zV,↓zU,↓zQ,reduceCtorEq,yz,yy,yY,yx,yw,yv,yu,yq,yp,yX,yj,yk,yg,yW,yV,yU,yZ,yQ,xz,df26,TDu,spanG,memF_eq H,spanM,setM_self H,hh]
   exact hS
 ·exact hS.elim

end Go.Proofs.Ytcdfofeolgbnbaa

/- Lists of words: the document's Load,Same. -/
namespace Go.Proofs.Ytcdfofeolgbnbaa
open Go.D
set_option linter.all false
set_option maxRecDepth 100000
set_option maxHeartbeats 4000000

theorem take_ne {v w : List Int} {q : Nat} (h : q < v.length) (h' : q < w.length) (e : ¬ nth 0 v q = nth 0 w q) : v ≠ w:=fun x => by subst x; exact e rfl
theorem eq_of_nth {v w : List Int} (hl : v.length = w.length) (h : ∀ i,i < v.length → nth 0 v i = nth 0 w i) : v = w :=
 List.ext_getElem hl fun i h1 h2 => by have:=h i h1; rwa [nth_eq h1,nth_eq h2] at this

theorem M.putS_len (m : M) (a : Int) (s : Slot) : (m.putS a s).w.length = m.w.length:=by simp only [M.putS,M.tick_len,M.put_len]
theorem M.putS_there (m : M) (a b : Int) (s : Slot) : thereB (m.putS a s) b = thereB m b:=by simp only [thereB,M.putS_len]
theorem uw_0 : uw 0 = 0:=rfl
theorem M.at_putS {m : M} {a : Int} {s : Slot} (ht : thereB m a = true) (hr : slotRB s = true) {j : Int} (hj : 0 ≤ j) :
  (m.putS a s).at j = if j = a then s.cap.w0 else if j = a + 1 then s.cap.num else if j = a + 2 then s.links else if j = a + 3 then 0 else m.at j:=by
 have hb:=there_iff.1 ht
 obtain ⟨u0,u1,_,_⟩:=enc_back (slotRB_iff hr).1
 have u2:=links_u hr
 simp only [M.putS,M.at_tick,M.at_put,M.put_len,uw_of u0,uw_of u1,uw_of u2,uw_0]
 by_cases h0 : j = a
 ·subst h0
  rw [if_neg (by omega),if_neg (by omega),if_neg (by omega),if_pos (by omega),if_pos rfl]
 ·rw [if_neg h0]
  by_cases h1 : j = a + 1
  ·subst h1
   rw [if_neg (by omega),if_neg (by omega),if_pos (by omega),if_pos rfl]
  ·rw [if_neg h1]
   by_cases h2 : j = a + 2
   ·subst h2
    rw [if_neg (by omega),if_pos (by omega),if_pos rfl]
   ·rw [if_neg h2]
    by_cases h3 : j = a + 3
    ·subst h3
     rw [if_pos (by omega),if_pos rfl]
    ·rw [if_neg h3,if_neg (by omega),if_neg (by omega),if_neg (by omega),if_neg (by omega)]
theorem slot_back {s : Slot} (hr : slotRB s = true) : slotB s.cap.w0 s.cap.num s.links 0 = true ∧ slotC s.cap.w0 s.cap.num s.links = s:=by
 obtain ⟨rc,h1,h2,h3⟩:=slotRB_iff hr
 obtain ⟨_,_,e1,e2⟩:=enc_back rc
 have e : slotC s.cap.w0 s.cap.num s.links = s:=by
  obtain ⟨c,p,n,d⟩:=s
  simp only at h1 h2 h3 e2
  simp only [slotC,e2,Slot.links,Slot.mk.injEq,true_and]
  omega
 refine ⟨?_,e⟩
 have hl : s.links / 281474976710656 = 0:=by simp only [Slot.links]; omega
 simp only [slotB,e1,e,hr,hl,decide_true,Bool.true_and,beq_self_eq_true,Bool.and_true]
theorem M.putS_slot {m : M} {a : Int} {s : Slot} (ht : thereB m a = true) (hr : slotRB s = true) : (m.putS a s).slotB a = true ∧ (m.putS a s).slotC a = s:=by
 have hb:=there_iff.1 ht
 simp only [M.slotB,M.slotC]
 rw [M.at_putS ht hr (by omega),M.at_putS ht hr (by omega),M.at_putS ht hr (by omega),M.at_putS ht hr (by omega)]
 simp only [if_true]
 rw [if_neg (by omega),if_neg (by omega),if_neg (by omega),if_neg (by omega),if_neg (by omega),if_neg (by omega)]
 exact slot_back hr
theorem M.putS_other {m : M} {a b : Int} {s : Slot} (ht : thereB m a = true) (hr : slotRB s = true) (hb : thereB m b = true) (hn : a ≠ b) : (m.putS a s).slotB b = m.slotB b ∧ (m.putS a s).slotC b = m.slotC b:=by
 have h1:=there_iff.1 ht
 have h2:=there_iff.1 hb
 rw [Int.tmod_eq_emod_of_nonneg (by omega)] at h1 h2
 have e : ∀ k : Int,0 ≤ k → k ≤ 3 → (m.putS a s).at (b + k) = m.at (b + k):=fun k h3 h4 => by
  rw [M.at_putS ht hr (by omega),if_neg (by omega),if_neg (by omega),if_neg (by omega),if_neg (by omega)]
 have e0:=e 0 (by omega) (by omega)
 rw [Int.add_zero] at e0
 simp only [M.slotB,M.slotC,e0,e 1 (by omega) (by omega),e 2 (by omega) (by omega),e 3 (by omega) (by omega),and_self]
end Go.Proofs.Ytcdfofeolgbnbaa

/- Package heap: the kernel's words. -/
namespace Go.Proofs.Ytcdfofeolgbnbaa
open Go.D
open Nat (reduceAdd reducePow reduceMul reduceSub reduceLeDiff reduceLT reduceEqDiff)
open Int (reduceNeg reduceLE reduceEq reduceNe reduceToNat)
open Go.D renaming istep → zx,pickR → zw,bin1R → zv,un1R → zu,eqS → zq,eq1 → zp,cmpS → zj,cmp1 → zk,isNil → zg,shows → zZ,result → zY,q_cond_t → zU,q_cond_f → zQ
open List renaming set → zX,replicate → zW
open Option renaming map → zV
open Nat renaming reduceAdd → yz,reducePow → yy,reduceMul → yx,reduceSub → yw,reduceLeDiff → yv,reduceLT → yu,reduceEqDiff → yq
open Int renaming reduceNeg → yp,reduceLE → yj,reduceEq → yk,reduceNe → yg,reduceToNat → yZ,reducePow → yY,reduceLT → yX,reduceAdd → yW,reduceSub → yV,reduceMul → yU,reduceBEq → yQ,reduceBNe → xz
set_option linter.all false
set_option maxRecDepth 100000
set_option maxHeartbeats 4000000

noncomputable def keptF (f : Int → Int → Int → Nat → M → (M → List Blk) → List V → Res) : List V → List Blk → Res
 | .agg [.i .i64 x, .i .i64 y, .i .i64 z] :: rest,h => memF (f x y z) rest h
 | _,_ => .bad
theorem keptF_spec {f : Int → Int → Int → Nat → M → (M → List Blk) → List V → Res} {args : List V} {h : List Blk} {K : V → List Blk → Prop} (hS : (keptF f args h).spec K) :
  ∃ x y z a b m rest,args = .agg [.i .i64 x, .i .i64 y, .i .i64 z] :: .s (.p (.g a) 0) :: rest ∧ IsMem h a b m ∧ (f x y z b m (setM h a b) rest).spec K:=by
 unfold keptF at hS
 split at hS
 ·obtain ⟨a,b,m,rest,rfl,H,hS⟩:=memF_spec hS
  exact ⟨_,_,_,a,b,m,rest,rfl,H,hS⟩
 ·exact hS.elim

def keptB (words least : Int) (m : M) (n : Int) : Bool:=decide (least ≤ n) && (n.tmod words == 0 && decide (n ≤ IntKind.i64.wrap (m.w.length - words)))
def mayM (at_ words least : Int) (b : Nat) (m : M) (st : M → List Blk) : List V → Res
 | [.s (.i .i64 n)] => .ob (words ≠ 0) (.ok (.s (.b (keptB words least m n))) [] (st m))
 | _ => .bad
noncomputable def mayG:=keptF mayM
noncomputable def TMw : Tab:=addT 62 wordsG noT
theorem TMw_snd : TMw.Snd Try.prog:=addT_snd ok62 mwords_snd (noT_snd _)
theorem may_snd : Snd Try.prog 84 (FSpec.of mayG):=snd_run TMw_snd mixed Try.func84 dc84 100 fun args h K hc hS => by
 obtain ⟨x,y,z,a,b,m,rest,rfl,H,hS1⟩:=keptF_spec hS
 clear hS
 unfold mayM at hS1
 split at hS1
 ·rename_i n
  simp only [spec_ok,spec_ob,setM_self H,keptB] at hS1
  obtain ⟨hy,hS⟩:=hS1
  have hy : ¬ y = 0:=hy
  by_cases c1 : z ≤ n
  ·cases c2 : n.tmod y == 0
   ·simp (maxSteps:=9999999) only [EV0,zx,zw,zv,zu,zq,zp,zj,zk,zg,leT,zZ,rvC,zY,zX,zW,zV,↓zU,↓zQ,reduceCtorEq,yz,yy,yY,yx,yw,yv,yu,yq,yp,yX,yj,yk,yg,yW,yV,yU,yZ,yQ,xz,df84,TMw,wordsG,memF_eq H,wordsM,setM_self H,hy,c1,c2,sub,EVt]
    simpa [c1,c2] using hS
   ·have c3 : n.tmod y = 0:=by simpa using c2
    simp (maxSteps:=9999999) only [EV0,zx,zw,zv,zu,zq,zp,zj,zk,zg,leT,zZ,rvC,zY,zX,zW,zV,↓zU,↓zQ,reduceCtorEq,yz,yy,yY,yx,yw,yv,yu,yq,yp,yX,yj,yk,yg,yW,yV,yU,yZ,yQ,xz,df84,TMw,wordsG,memF_eq H,wordsM,setM_self H,hy,c1,c2,c3,sub,EVt]
    simpa [c1,c3] using hS
  ·simp (maxSteps:=9999999) only [EV0,zx,zw,zv,zu,zq,zp,zj,zk,zg,leT,zZ,rvC,zY,zX,zW,zV,↓zU,↓zQ,reduceCtorEq,yz,yy,yY,yx,yw,yv,yu,yq,yp,yX,yj,yk,yg,yW,yV,yU,yZ,yQ,xz,df84,TMw,wordsG,memF_eq H,wordsM,setM_self H,hy,c1,sub,EVt]
   simpa [c1] using hS
 ·exact hS1.elim

def setM_ (at_ words least : Int) (b : Nat) (m : M) (st : M → List Blk) : List V → Res
 | [.s (.i .i64 n)] => .ob (words ≠ 0) (.br (n == 0 || keptB words least m n)
   (.br (m.has at_ 1) (.ok (.s (.i .i64 0)) [] (st ((m.put at_.toNat (IntKind.u64.wrap n)).tick 1))) (.ok (.s (.i .i64 20)) [] (st m)))
   (.ok (.s (.i .i64 20)) [] (st m)))
 | _ => .bad
noncomputable def setG_:=keptF setM_
noncomputable def TKs : Tab:=addT 84 mayG (addT 69 writeG (addT 56 readG noT))
theorem TKs_snd : TKs.Snd Try.prog:=addT_snd ok84 may_snd (addT_snd ok69 mwrite_snd (addT_snd ok56 mread_snd (noT_snd _)))
theorem wrapu_u (n : Int) : u64 (IntKind.u64.wrap n):=by rw [IntKind.wrap_u64]; simp only [u64]; omega
theorem kset_snd : Snd Try.prog 72 (FSpec.of setG_):=snd_run TKs_snd mixed Try.func72 dc72 100 fun args h K hc hS => by
 obtain ⟨x,y,z,a,b,m,rest,rfl,H,hS1⟩:=keptF_spec hS
 clear hS
 unfold setM_ at hS1
 split at hS1
 ·rename_i n
  simp only [spec_ok,spec_ob,spec_br,setM_self H] at hS1
  obtain ⟨hy,hS⟩:=hS1
  have hy : ¬ y = 0:=hy
  have hu:=wrapu_u n
  by_cases c1 : n = 0
  ·cases hh : m.has x 1
   ·have hS:=(hS.1 (by simp [c1])).2 hh
    simp (maxSteps:=9999999) only [EV0,zx,zw,zv,zu,zq,zp,zj,zk,zg,leT,zZ,rvC,zY,zX,zW,zV,↓zU,↓zQ,reduceCtorEq,yz,yy,yY,yx,yw,yv,yu,yq,yp,yX,yj,yk,yg,yW,yV,yU,yZ,yQ,xz,df72,TKs,mayG,keptF,writeG,memF_eq H,writeM,mayM,setM_self H,hy,c1,hh,hu,sub,EVt,wrapu_u]
    exact hS
   ·have hS:=(hS.1 (by simp [c1])).1 hh
    simp (maxSteps:=9999999) only [EV0,zx,zw,zv,zu,zq,zp,zj,zk,zg,leT,zZ,rvC,zY,zX,zW,zV,↓zU,↓zQ,reduceCtorEq,yz,yy,yY,yx,yw,yv,yu,yq,yp,yX,yj,yk,yg,yW,yV,yU,yZ,yQ,xz,df72,TKs,mayG,keptF,writeG,memF_eq H,writeM,mayM,setM_self H,hy,c1,hh,hu,sub,EVt,wrapu_u]
    simpa [c1] using hS
  ·cases c2 : keptB y z m n
   ·have hS:=hS.2 (by simp [c1,c2])
    simp (maxSteps:=9999999) only [EV0,zx,zw,zv,zu,zq,zp,zj,zk,zg,leT,zZ,rvC,zY,zX,zW,zV,↓zU,↓zQ,reduceCtorEq,yz,yy,yY,yx,yw,yv,yu,yq,yp,yX,yj,yk,yg,yW,yV,yU,yZ,yQ,xz,df72,TKs,mayG,keptF,writeG,memF_eq H,writeM,mayM,setM_self H,hy,c1,c2,hu,sub,EVt]
    exact hS
   ·cases hh : m.has x 1
    ·have hS:=(hS.1 (by simp [c2])).2 hh
     simp (maxSteps:=9999999) only [EV0,zx,zw,zv,zu,zq,zp,zj,zk,zg,leT,zZ,rvC,zY,zX,zW,zV,↓zU,↓zQ,reduceCtorEq,yz,yy,yY,yx,yw,yv,yu,yq,yp,yX,yj,yk,yg,yW,yV,yU,yZ,yQ,xz,df72,TKs,mayG,keptF,writeG,memF_eq H,writeM,mayM,setM_self H,hy,c1,c2,hh,hu,sub,EVt]
     exact hS
    ·have hS:=(hS.1 (by simp [c2])).1 hh
     simp (maxSteps:=9999999) only [EV0,zx,zw,zv,zu,zq,zp,zj,zk,zg,leT,zZ,rvC,zY,zX,zW,zV,↓zU,↓zQ,reduceCtorEq,yz,yy,yY,yx,yw,yv,yu,yq,yp,yX,yj,yk,yg,yW,yV,yU,yZ,yQ,xz,df72,TKs,mayG,keptF,writeG,memF_eq H,writeM,mayM,setM_self H,hy,c1,c2,hh,hu,sub,EVt]
     exact hS
 ·exact hS1.elim

def keptV (words least : Int) (m : M) (w : Int) : Int:=if w ≤ 65535 ∧ keptB words least m (IntKind.i64.wrap w) = true then IntKind.i64.wrap w else 0
def getM_ (at_ words least : Int) (b : Nat) (m : M) (st : M → List Blk) : List V → Res
 | [] => .ob (words ≠ 0) (.br (m.has at_ 1) (.ok (.s (.i .i64 (keptV words least m (m.at at_)))) [] (st (m.tick 1))) (.ok (.s (.i .i64 (keptV words least m 0))) [] (st m)))
 | _ => .bad
noncomputable def getG_:=keptF getM_
theorem keptB_tick (y z : Int) (m : M) (k n : Int) : keptB y z (m.tick k) n = keptB y z m n:=rfl
theorem kget_snd : Snd Try.prog 64 (FSpec.of getG_):=snd_run TKs_snd mixed Try.func64 dc64 100 fun args h K hc hS => by
 obtain ⟨x,y,z,a,b,m,rest,rfl,H,hS1⟩:=keptF_spec hS
 clear hS
 unfold getM_ at hS1
 split at hS1
 ·simp only [spec_ok,spec_ob,spec_br,setM_self H] at hS1
  obtain ⟨hy,hS⟩:=hS1
  have hy : ¬ y = 0:=hy
  cases hh : m.has x 1
  ·have hS:=hS.2 hh
   have w0 : IntKind.i64.wrap 0 = 0:=by decide
   cases c2 : keptB y z m 0
   ·simp only [keptV,w0,c2,Bool.false_eq_true,and_false,if_false] at hS
    simp (maxSteps:=9999999) only [EV0,zx,zw,zv,zu,zq,zp,zj,zk,zg,leT,zZ,rvC,zY,zX,zW,zV,↓zU,↓zQ,reduceCtorEq,yz,yy,yY,yx,yw,yv,yu,yq,yp,yX,yj,yk,yg,yW,yV,yU,yZ,yQ,xz,df64,TKs,mayG,keptF,readG,memF_eq H,readM,mayM,setM_self H,hy,c2,hh,w0,sub,EVt]
    exact hS
   ·simp only [keptV,w0,c2,if_true,and_true] at hS
    rw [if_pos (by omega)] at hS
    simp (maxSteps:=9999999) only [EV0,zx,zw,zv,zu,zq,zp,zj,zk,zg,leT,zZ,rvC,zY,zX,zW,zV,↓zU,↓zQ,reduceCtorEq,yz,yy,yY,yx,yw,yv,yu,yq,yp,yX,yj,yk,yg,yW,yV,yU,yZ,yQ,xz,df64,TKs,mayG,keptF,readG,memF_eq H,readM,mayM,setM_self H,hy,c2,hh,w0,sub,EVt]
    exact hS
  ·have hS:=hS.1 hh
   by_cases c1 : m.at x ≤ 65535
   ·have c3 : ¬ (65535 < m.at x):=by omega
    cases c2 : keptB y z m (IntKind.i64.wrap (m.at x))
    ·simp only [keptV,c1,c2,Bool.false_eq_true,and_false,if_false] at hS
     simp (maxSteps:=9999999) only [EV0,zx,zw,zv,zu,zq,zp,zj,zk,zg,leT,zZ,rvC,zY,zX,zW,zV,↓zU,↓zQ,reduceCtorEq,yz,yy,yY,yx,yw,yv,yu,yq,yp,yX,yj,yk,yg,yW,yV,yU,yZ,yQ,xz,df64,TKs,mayG,keptF,readG,memF_eq H,memF_set H,readM,mayM,setM_self H,hy,c2,c3,hh,keptB_tick,sub,EVt]
     exact hS
    ·simp only [keptV,c1,c2,and_self,if_true] at hS
     simp (maxSteps:=9999999) only [EV0,zx,zw,zv,zu,zq,zp,zj,zk,zg,leT,zZ,rvC,zY,zX,zW,zV,↓zU,↓zQ,reduceCtorEq,yz,yy,yY,yx,yw,yv,yu,yq,yp,yX,yj,yk,yg,yW,yV,yU,yZ,yQ,xz,df64,TKs,mayG,keptF,readG,memF_eq H,memF_set H,readM,mayM,setM_self H,hy,c2,c3,hh,keptB_tick,sub,EVt]
     exact hS
   ·have c3 : 65535 < m.at x:=by omega
    simp only [keptV,c1,false_and,if_false] at hS
    simp (maxSteps:=9999999) only [EV0,zx,zw,zv,zu,zq,zp,zj,zk,zg,leT,zZ,rvC,zY,zX,zW,zV,↓zU,↓zQ,reduceCtorEq,yz,yy,yY,yx,yw,yv,yu,yq,yp,yX,yj,yk,yg,yW,yV,yU,yZ,yQ,xz,df64,TKs,mayG,keptF,readG,memF_eq H,memF_set H,readM,mayM,setM_self H,hy,c3,hh,keptB_tick,sub,EVt]
    exact hS
 ·exact hS1.elim


def M.gE (m : M) (a : Int) : Int:=if thereB m a = true then (if m.slotB a = true then 0 else 110) else 20
def M.gV (m : M) (a : Int) : Slot:=if thereB m a = true ∧ m.slotB a = true then m.slotC a else slotZ
def M.gX (m : M) (a : Int) : M:=if thereB m a = true then m.tick 4 else m
def M.pE (m : M) (a : Int) (s : Slot) : Int:=if thereB m a = true then (if slotRB s = true then 0 else 110) else 20
def M.pX (m : M) (a : Int) (s : Slot) : M:=if thereB m a = true ∧ slotRB s = true then m.putS a s else m
def get2M (b : Nat) (m : M) (st : M → List Blk) : List V → Res
 | [.s (.i .i64 a)] => .ok (.tup [.agg (m.gV a).cl, .s (.i .i64 (m.gE a))]) [] (st (m.gX a))
 | _ => .bad
noncomputable def get2G:=memF get2M
def put2M (b : Nat) (m : M) (st : M → List Blk) : List V → Res
 | [.s (.i .i64 a),x] => slotF (fun s => .ok (.s (.i .i64 (m.pE a s))) [] (st (m.pX a s))) [x]
 | _ => .bad
noncomputable def put2G:=memF put2M
theorem get2_of {args : List V} {h : List Blk} {K : V → List Blk → Prop} (hS : (get2G args h).spec K) : (getSG args h).spec K:=by
 obtain ⟨a,b,m,rest,rfl,H,hS⟩:=memF_spec hS
 unfold getSG
 rw [memF_eq H]
 unfold get2M at hS
 split at hS
 ·rename_i x
  simp only [spec_ok,M.gE,M.gV,M.gX] at hS
  simp only [getSM,spec_br,spec_ok]
  refine ⟨fun ht => ⟨fun hb => ?_,fun hb => ?_⟩,fun ht => ?_⟩
  ·simpa [ht,hb] using hS
  ·simpa [ht,hb] using hS
  ·simpa [ht] using hS
 ·exact hS.elim
theorem put2_of {args : List V} {h : List Blk} {K : V → List Blk → Prop} (hS : (put2G args h).spec K) : (putSG args h).spec K:=by
 obtain ⟨a,b,m,rest,rfl,H,hS⟩:=memF_spec hS
 unfold putSG
 rw [memF_eq H]
 unfold put2M at hS
 split at hS
 ·rename_i x y
  obtain ⟨s,e,hS2⟩:=slotF_spec hS
  simp only [List.cons.injEq,and_true] at e
  subst e
  simp only [spec_ok,M.pE,M.pX] at hS2
  simp only [putSM]
  show (slotF _ [.agg s.cl]).spec K
  simp only [slotF,Slot.cl,slot_eta,spec_br,spec_ok]
  refine ⟨fun ht => ⟨fun hb => ?_,fun hb => ?_⟩,fun ht => ?_⟩
  ·simpa [ht,hb] using hS2
  ·simpa [ht,hb] using hS2
  ·simpa [ht] using hS2
 ·exact hS.elim
theorem get2_snd : Snd Try.prog 29 (FSpec.of get2G):=getS_snd.weaken fun _ _ _ _ hS => get2_of hS
theorem rget2_snd : Snd Try.prog 50 (FSpec.of get2G):=rgetS_snd.weaken fun _ _ _ _ hS => get2_of hS
theorem put2_snd : Snd Try.prog 38 (FSpec.of put2G):=putS_snd.weaken fun _ _ _ _ hS => put2_of hS
theorem rput2_snd : Snd Try.prog 53 (FSpec.of put2G):=rputS_snd.weaken fun _ _ _ _ hS => put2_of hS
def M.eB (m : M) (a : Int) : Bool:=if m.gE a = 0 then (m.gV a).isZ else false
def empty2M (b : Nat) (m : M) (st : M → List Blk) : List V → Res
 | [.s (.i .i64 a)] => .ok (.tup [.s (.b (m.eB a)), .s (.i .i64 (m.gE a))]) [] (st (m.gX a))
 | _ => .bad
noncomputable def empty2G:=memF empty2M
theorem empty2_of {args : List V} {h : List Blk} {K : V → List Blk → Prop} (hS : (empty2G args h).spec K) : (emptySG args h).spec K:=by
 obtain ⟨a,b,m,rest,rfl,H,hS⟩:=memF_spec hS
 unfold emptySG
 rw [memF_eq H]
 unfold empty2M at hS
 split at hS
 ·rename_i x
  simp only [spec_ok,M.eB,M.gE,M.gV,M.gX] at hS
  simp only [emptySM,spec_br,spec_ok]
  refine ⟨fun ht => ⟨fun hb => ?_,fun hb => ?_⟩,fun ht => ?_⟩
  ·simpa [ht,hb] using hS
  ·simpa [ht,hb] using hS
  ·simpa [ht] using hS
 ·exact hS.elim
theorem empty2_snd : Snd Try.prog 40 (FSpec.of empty2G):=emptyS_snd.weaken fun _ _ _ _ hS => empty2_of hS
theorem rempty2_snd : Snd Try.prog 27 (FSpec.of empty2G):=remptyS_snd.weaken fun _ _ _ _ hS => empty2_of hS

theorem M.gV_u (m : M) (a : Int) : slotRB (m.gV a) = true:=by
 unfold M.gV
 split
 ·rename_i h
  have:=h.2
  simp only [M.slotB,_root_.Go.Proofs.Ytcdfofeolgbnbaa.slotB,Bool.and_eq_true] at this
  exact this.2.2.2
 ·decide
theorem M.gV_null {m : M} {a : Int} (h : (m.gV a).cap.ty = 0) : m.gV a = slotZ:=by
 have:=slot_null (m.gV_u a)
 rw [h] at this
 exact Slot.isZ_iff.1 this.symm
def M.fst (m : M) : Int:=keptV 4 4 m (if m.has 2 1 = true then m.at 2 else 0)
def M.fstX (m : M) : M:=if m.has 2 1 = true then m.tick 1 else m
def M.sfE (m : M) (n : Int) : Int:=if (n == 0 || keptB 4 4 m n) = true ∧ m.has 2 1 = true then 0 else 20
def M.sfX (m : M) (n : Int) : M:=if (n == 0 || keptB 4 4 m n) = true ∧ m.has 2 1 = true then (m.put 2 (IntKind.u64.wrap n)).tick 1 else m
def firstM (b : Nat) (m : M) (st : M → List Blk) : List V → Res
 | [] => .ok (.s (.i .i64 m.fst)) [] (st m.fstX)
 | _ => .bad
noncomputable def firstG:=memF firstM
def setFirstM (b : Nat) (m : M) (st : M → List Blk) : List V → Res
 | [.s (.i .i64 n)] => .ok (.s (.i .i64 (m.sfE n))) [] (st (m.sfX n))
 | _ => .bad
noncomputable def setFirstG:=memF setFirstM
def hfirstG : List V → List Blk → Res
 | [],h => .ok (.agg [.i .i64 2, .i .i64 4, .i .i64 4]) [] h
 | _,_ => .bad
theorem hfirst_snd : Snd Try.prog 63 (FSpec.of hfirstG):=snd_run (noT_snd _) mixed Try.func63 dc63 100 fun args h K hc hS => by
 unfold hfirstG at hS
 split at hS
 ·simp only [spec_ok] at hS
  simp (maxSteps:=9999999) only [EV0,zx,zw,zv,zu,zq,zp,zj,zk,zg,leT,zZ,rvC,zY,zX,zW,zV,↓zU,↓zQ,reduceCtorEq,yz,yy,yY,yx,yw,yv,yu,yq,yp,yX,yj,yk,yg,yW,yV,yU,yZ,yQ,xz,df63,put,fillP,sub,EVt]
  exact hS
 ·exact hS.elim
noncomputable def THf : Tab:=addT 63 hfirstG (addT 72 setG_ (addT 64 getG_ (noT)))
theorem THf_snd : THf.Snd Try.prog:=addT_snd ok63 hfirst_snd (addT_snd ok72 kset_snd (addT_snd ok64 kget_snd ((noT_snd _))))
theorem first_snd : Snd Try.prog 34 (FSpec.of firstG):=snd_run THf_snd mixed Try.func34 dc34 100 fun args h K hc hS => by
 obtain ⟨a,b,m,rest,rfl,H,hS1⟩:=memF_spec hS
 clear hS
 have hS:=hS1
 clear hS1
 unfold firstM at hS
 split at hS
 ·simp only [spec_ok,M.fst,M.fstX] at hS
  cases hh : m.has 2 1
  ·simp only [hh,Bool.false_eq_true,if_false,setM_self H] at hS
   simp (maxSteps:=9999999) only [EV0,zx,zw,zv,zu,zq,zp,zj,zk,zg,leT,zZ,rvC,zY,zX,zW,zV,↓zU,↓zQ,reduceCtorEq,yz,yy,yY,yx,yw,yv,yu,yq,yp,yX,yj,yk,yg,yW,yV,yU,yZ,yQ,xz,df34,THf,hfirstG,getG_,keptF,memF_eq H,getM_,setM_self H,hh]
   exact hS
  ·simp only [hh,if_true] at hS
   simp (maxSteps:=9999999) only [EV0,zx,zw,zv,zu,zq,zp,zj,zk,zg,leT,zZ,rvC,zY,zX,zW,zV,↓zU,↓zQ,reduceCtorEq,yz,yy,yY,yx,yw,yv,yu,yq,yp,yX,yj,yk,yg,yW,yV,yU,yZ,yQ,xz,df34,THf,hfirstG,getG_,keptF,memF_eq H,getM_,setM_self H,hh]
   exact hS
 ·exact hS.elim
theorem setFirst_snd : Snd Try.prog 45 (FSpec.of setFirstG):=snd_run THf_snd mixed Try.func45 dc45 100 fun args h K hc hS => by
 obtain ⟨a,b,m,rest,rfl,H,hS1⟩:=memF_spec hS
 clear hS
 have hS:=hS1
 clear hS1
 unfold setFirstM at hS
 split at hS
 ·rename_i n
  simp only [spec_ok,M.sfE,M.sfX] at hS
  cases c1 : (n == 0 || keptB 4 4 m n)
  ·simp only [c1,Bool.false_eq_true,false_and,if_false,setM_self H] at hS
   simp only [Bool.or_eq_false_iff,beq_eq_false_iff_ne,ne_eq] at c1
   simp (maxSteps:=9999999) only [EV0,zx,zw,zv,zu,zq,zp,zj,zk,zg,leT,zZ,rvC,zY,zX,zW,zV,↓zU,↓zQ,reduceCtorEq,yz,yy,yY,yx,yw,yv,yu,yq,yp,yX,yj,yk,yg,yW,yV,yU,yZ,yQ,xz,df45,THf,hfirstG,setG_,keptF,memF_eq H,setM_,setM_self H,c1]
   exact hS
  ·cases hh : m.has 2 1
   ·simp only [hh,Bool.false_eq_true,and_false,if_false,setM_self H] at hS
    simp only [Bool.or_eq_true,beq_iff_eq] at c1
    simp (maxSteps:=9999999) only [EV0,zx,zw,zv,zu,zq,zp,zj,zk,zg,leT,zZ,rvC,zY,zX,zW,zV,↓zU,↓zQ,reduceCtorEq,yz,yy,yY,yx,yw,yv,yu,yq,yp,yX,yj,yk,yg,yW,yV,yU,yZ,yQ,xz,df45,THf,hfirstG,setG_,keptF,memF_eq H,setM_,setM_self H,c1,hh]
    exact hS
   ·simp only [c1,hh,and_self,if_true] at hS
    simp only [Bool.or_eq_true,beq_iff_eq] at c1
    simp (maxSteps:=9999999) only [EV0,zx,zw,zv,zu,zq,zp,zj,zk,zg,leT,zZ,rvC,zY,zX,zW,zV,↓zU,↓zQ,reduceCtorEq,yz,yy,yY,yx,yw,yv,yu,yq,yp,yX,yj,yk,yg,yW,yV,yU,yZ,yQ,xz,df45,THf,hfirstG,setG_,keptF,memF_eq H,setM_,setM_self H,c1,hh]
    exact hS
 ·exact hS.elim
end Go.Proofs.Ytcdfofeolgbnbaa

/- The machine's memory: Copy; the document's Fill,Copy,Dump. -/
namespace Go.Proofs.Ytcdfofeolgbnbaa
open Go.D
set_option linter.all false
set_option maxRecDepth 100000
set_option maxHeartbeats 4000000

def M.part (m : M) (x k : Nat) : List Int:=(m.w.drop x).take k
def M.copy (m : M) (x y k : Nat) : M:=(m.lay y (m.part x k)).tick (2 * k)

/-! ### the specs without choices -/

def M.pz (m : M) (x q k : Nat) : List Int:=m.part x q ++ List.replicate (k - q) 0

section
variable {h X : List Blk} {m : M} {k : Nat}
theorem listOf_at {H : List Blk} {j c room : Nat} {st : BK} {vs : List Int} {n : Nat} (hj : H[j]? = some ⟨st,wc vs,room⟩) (hs : st ≠ .dead) (hn : vs.length = n) : listOf H (.sl (.g j) 0 n c) = some vs:=by
 subst hn; exact listOf_eq (IsList.whole hj hs)
end

section
variable {h X : List Blk} {m n : M} {k : Nat}
end

section
variable {h X : List Blk} {m n m' n' : M} {k : Nat} {B : Blk}
end


theorem nlt0 {a k : Nat} : (a < a + k) = (0 < k):=by simp
theorem nltn {a j k : Nat} : (a + j < a + k) = (j < k):=by simp
section
variable {h X : List Blk} {A B : Blk} {m : M}
theorem vals_nil {n k : Nat} : vals n k [] = true:=by rfl
theorem vals_cons {n k : Nat} {s : S} {l : List S} : vals n k (s :: l) = (s.val n k && vals n k l):=by rfl
theorem app_len {X : List Blk} : (h ++ X).length = h.length + X.length:=List.length_append
end

theorem IsList.of {h : List Blk} {s : S} {vs : List Int} (H : IsList h s vs) (X : List Blk) : listOf (h ++ X) s = some vs:=listOf_eq H.app

end Go.Proofs.Ytcdfofeolgbnbaa

/- Package cdt: full,listed,turn,join,whatever words lie there. -/
namespace Go.Proofs.Ytcdfofeolgbnbaa
open Go.D
open Nat (reduceAdd reducePow reduceMul reduceSub reduceLeDiff reduceLT reduceEqDiff)
open Int (reduceNeg reduceLE reduceEq reduceNe reduceToNat)
open Go.D renaming istep → zx,pickR → zw,bin1R → zv,un1R → zu,eqS → zq,eq1 → zp,cmpS → zj,cmp1 → zk,isNil → zg,shows → zZ,result → zY,q_cond_t → zU,q_cond_f → zQ
open List renaming set → zX,replicate → zW
open Option renaming map → zV
open Nat renaming reduceAdd → yz,reducePow → yy,reduceMul → yx,reduceSub → yw,reduceLeDiff → yv,reduceLT → yu,reduceEqDiff → yq
open Int renaming reduceNeg → yp,reduceLE → yj,reduceEq → yk,reduceNe → yg,reduceToNat → yZ,reducePow → yY,reduceLT → yX,reduceAdd → yW,reduceSub → yV,reduceMul → yU,reduceBEq → yQ,reduceBNe → xz
set_option linter.all false
set_option maxRecDepth 100000
set_option maxHeartbeats 4000000

def M.fE (m : M) (a : Int) : Int:=if m.gE a = 0 ∧ (m.gV a).cap.ty = 0 then 121 else m.gE a
def fullM (b : Nat) (m : M) (st : M → List Blk) : List V → Res
 | [.s (.i .i64 a)] => .ok (.tup [.agg (m.gV a).cl, .s (.i .i64 (m.fE a))]) [] (st (m.gX a))
 | _ => .bad
noncomputable def fullG:=memF fullM
noncomputable def TGt2 : Tab:=addT 29 get2G (addT 50 get2G (noT))
theorem TGt2_snd : TGt2.Snd Try.prog:=addT_snd ok29 get2_snd (addT_snd ok50 rget2_snd ((noT_snd _)))
theorem full_snd : Snd Try.prog 35 (FSpec.of fullG):=snd_run TGt2_snd mixed Try.func35 dc35 200 fun args h K hc hS => by
 obtain ⟨a,b,m,rest,rfl,H,hS1⟩:=memF_spec hS
 clear hS
 have hS:=hS1
 clear hS1
 unfold fullM at hS
 split at hS
 ·rename_i x
  simp only [spec_ok,M.fE] at hS
  by_cases c1 : m.gE x = 0
  ·by_cases c2 : (m.gV x).cap.ty = 0
   ·rw [M.gV_null c2] at hS
    simp only [M.gV_null c2,slotZ,capZ,Slot.cl,c1,and_self,if_true] at hS
    have c3:=M.gV_null c2
    simp (maxSteps:=9999999) only [EV0,zx,zw,zv,zu,zq,zp,zj,zk,zg,leT,zZ,rvC,zY,zX,zW,zV,↓zU,↓zQ,reduceCtorEq,yz,yy,yY,yx,yw,yv,yu,yq,yp,yX,yj,yk,yg,yW,yV,yU,yZ,yQ,xz,df35,TGt2,get2G,memF_eq H,get2M,Slot.cl,c1,c2,c3,slotZ,capZ,put,fillP,sub,EVt]
    exact hS
   ·simp only [Slot.cl,c1,c2,and_false,if_false] at hS
    simp (maxSteps:=9999999) only [EV0,zx,zw,zv,zu,zq,zp,zj,zk,zg,leT,zZ,rvC,zY,zX,zW,zV,↓zU,↓zQ,reduceCtorEq,yz,yy,yY,yx,yw,yv,yu,yq,yp,yX,yj,yk,yg,yW,yV,yU,yZ,yQ,xz,df35,TGt2,get2G,memF_eq H,get2M,Slot.cl,c1,c2,put,fillP,sub,EVt]
    exact hS
  ·simp only [Slot.cl,c1,false_and,if_false] at hS
   simp (maxSteps:=9999999) only [EV0,zx,zw,zv,zu,zq,zp,zj,zk,zg,leT,zZ,rvC,zY,zX,zW,zV,↓zU,↓zQ,reduceCtorEq,yz,yy,yY,yx,yw,yv,yu,yq,yp,yX,yj,yk,yg,yW,yV,yU,yZ,yQ,xz,df35,TGt2,get2G,memF_eq H,get2M,Slot.cl,c1,put,fillP,sub,EVt]
   exact hS
 ·exact hS.elim
theorem rfull_snd : Snd Try.prog 74 (FSpec.of fullG):=snd_run TGt2_snd mixed Try.func74 dc74 200 fun args h K hc hS => by
 obtain ⟨a,b,m,rest,rfl,H,hS1⟩:=memF_spec hS
 clear hS
 have hS:=hS1
 clear hS1
 unfold fullM at hS
 split at hS
 ·rename_i x
  simp only [spec_ok,M.fE] at hS
  by_cases c1 : m.gE x = 0
  ·by_cases c2 : (m.gV x).cap.ty = 0
   ·rw [M.gV_null c2] at hS
    simp only [M.gV_null c2,slotZ,capZ,Slot.cl,c1,and_self,if_true] at hS
    have c3:=M.gV_null c2
    simp (maxSteps:=9999999) only [EV0,zx,zw,zv,zu,zq,zp,zj,zk,zg,leT,zZ,rvC,zY,zX,zW,zV,↓zU,↓zQ,reduceCtorEq,yz,yy,yY,yx,yw,yv,yu,yq,yp,yX,yj,yk,yg,yW,yV,yU,yZ,yQ,xz,df74,TGt2,get2G,memF_eq H,get2M,Slot.cl,c1,c2,c3,slotZ,capZ,put,fillP,sub,EVt]
    exact hS
   ·simp only [Slot.cl,c1,c2,and_false,if_false] at hS
    simp (maxSteps:=9999999) only [EV0,zx,zw,zv,zu,zq,zp,zj,zk,zg,leT,zZ,rvC,zY,zX,zW,zV,↓zU,↓zQ,reduceCtorEq,yz,yy,yY,yx,yw,yv,yu,yq,yp,yX,yj,yk,yg,yW,yV,yU,yZ,yQ,xz,df74,TGt2,get2G,memF_eq H,get2M,Slot.cl,c1,c2,put,fillP,sub,EVt]
    exact hS
  ·simp only [Slot.cl,c1,false_and,if_false] at hS
   simp (maxSteps:=9999999) only [EV0,zx,zw,zv,zu,zq,zp,zj,zk,zg,leT,zZ,rvC,zY,zX,zW,zV,↓zU,↓zQ,reduceCtorEq,yz,yy,yY,yx,yw,yv,yu,yq,yp,yX,yj,yk,yg,yW,yV,yU,yZ,yQ,xz,df74,TGt2,get2G,memF_eq H,get2M,Slot.cl,c1,put,fillP,sub,EVt]
   exact hS
 ·exact hS.elim

def M.liB (m : M) (a : Int) (s : Slot) : Bool:=!(s.prev == 0 && (s.next == 0 && s.depth == 0)) || m.fst == a
def M.liX (m : M) (s : Slot) : M:=if (s.prev == 0 && (s.next == 0 && s.depth == 0)) = true then m.fstX else m
def listedM (b : Nat) (m : M) (st : M → List Blk) : List V → Res
 | [.s (.i .i64 a),x] => slotF (fun s => .ok (.s (.b (m.liB a s))) [] (st (m.liX s))) [x]
 | _ => .bad
noncomputable def listedG:=memF listedM
noncomputable def TFs : Tab:=addT 34 firstG (addT 45 setFirstG (noT))
theorem TFs_snd : TFs.Snd Try.prog:=addT_snd ok34 first_snd (addT_snd ok45 setFirst_snd ((noT_snd _)))
theorem listed_snd : Snd Try.prog 37 (FSpec.of listedG):=snd_run TFs_snd mixed Try.func37 dc37 200 fun args h K hc hS => by
 obtain ⟨a,b,m,rest,rfl,H,hS1⟩:=memF_spec hS
 clear hS
 have hS:=hS1
 clear hS1
 unfold listedM at hS
 split at hS
 ·rename_i x y
  obtain ⟨s,e,hS2⟩:=slotF_spec hS
  simp only [List.cons.injEq,and_true] at e
  subst e
  clear hS
  have hS:=hS2
  simp only [spec_ok,M.liB,M.liX] at hS
  by_cases c1 : s.prev = 0
  ·by_cases c2 : s.next = 0
   ·by_cases c3 : s.depth = 0
    ·simp only [c1,c2,c3,beq_self_eq_true,Bool.and_self,Bool.not_true,Bool.false_or,if_true] at hS
     simp (maxSteps:=9999999) only [EV0,zx,zw,zv,zu,zq,zp,zj,zk,zg,leT,zZ,rvC,zY,zX,zW,zV,↓zU,↓zQ,reduceCtorEq,yz,yy,yY,yx,yw,yv,yu,yq,yp,yX,yj,yk,yg,yW,yV,yU,yZ,yQ,xz,df37,TFs,firstG,memF_eq H,firstM,Slot.cl,c1,c2,c3,put,fillP,sub,EVt]
     exact hS
    ·have c4 : (s.depth == 0) = false:=by simpa using c3
     simp only [c1,c2,c4,Bool.and_false,Bool.not_false,Bool.true_or,Bool.false_eq_true,if_false,setM_self H] at hS
     simp (maxSteps:=9999999) only [EV0,zx,zw,zv,zu,zq,zp,zj,zk,zg,leT,zZ,rvC,zY,zX,zW,zV,↓zU,↓zQ,reduceCtorEq,yz,yy,yY,yx,yw,yv,yu,yq,yp,yX,yj,yk,yg,yW,yV,yU,yZ,yQ,xz,df37,TFs,firstG,memF_eq H,firstM,Slot.cl,c1,c2,c3,put,fillP,sub,EVt]
     exact hS
   ·have c4 : (s.next == 0) = false:=by simpa using c2
    simp only [c1,c4,Bool.and_false,Bool.false_and,Bool.not_false,Bool.true_or,Bool.false_eq_true,if_false,setM_self H] at hS
    simp (maxSteps:=9999999) only [EV0,zx,zw,zv,zu,zq,zp,zj,zk,zg,leT,zZ,rvC,zY,zX,zW,zV,↓zU,↓zQ,reduceCtorEq,yz,yy,yY,yx,yw,yv,yu,yq,yp,yX,yj,yk,yg,yW,yV,yU,yZ,yQ,xz,df37,TFs,firstG,memF_eq H,firstM,Slot.cl,c1,c2,put,fillP,sub,EVt]
    exact hS
  ·have c4 : (s.prev == 0) = false:=by simpa using c1
   simp only [c4,Bool.false_and,Bool.not_false,Bool.true_or,Bool.false_eq_true,if_false,setM_self H] at hS
   simp (maxSteps:=9999999) only [EV0,zx,zw,zv,zu,zq,zp,zj,zk,zg,leT,zZ,rvC,zY,zX,zW,zV,↓zU,↓zQ,reduceCtorEq,yz,yy,yY,yx,yw,yv,yu,yq,yp,yX,yj,yk,yg,yW,yV,yU,yZ,yQ,xz,df37,TFs,firstG,memF_eq H,firstM,Slot.cl,c1,put,fillP,sub,EVt]
   exact hS
 ·exact hS.elim

/-! ### what a slot's links are turned to -/
def cellAt (h : List Blk) (k : Nat) : Option Int:=match h[k]? with
 | some ⟨.rw,[.i .i64 v],_⟩ => some v
 | _ => none
def slotAt (h : List Blk) (k : Nat) : Option Slot:=match h[k]? with
 | some ⟨.rw,[.i .i64 a, .i .i64 b, .i .i64 c, .i .i64 d, .i .i64 e, .i .i64 g, .i .i64 i, .i .i64 j, .i .i64 k, .i .i64 l, .i .i64 m, .i .i64 p, .i .i64 n, .i .i64 q],14⟩ => some ⟨⟨a,b,c,d,e,g,i,j,k,l,m⟩,p,n,q⟩
 | _ => none
theorem cellAt_some {h : List Blk} {k : Nat} {v : Int} (e : cellAt h k = some v) : ∃ room,h[k]? = some ⟨.rw,[.i .i64 v],room⟩:=by
 unfold cellAt at e
 split at e
 ·rename_i h1
  rw [Option.some.injEq] at e
  subst e
  exact ⟨_,h1⟩
 ·cases e
theorem slotAt_some {h : List Blk} {k : Nat} {s : Slot} (e : slotAt h k = some s) : h[k]? = some ⟨.rw,s.cl,14⟩:=by
 unfold slotAt at e
 split at e
 ·rename_i h1
  rw [Option.some.injEq] at e
  subst e
  exact h1
 ·cases e
theorem cellAt_eq {h : List Blk} {k room : Nat} {v : Int} (e : h[k]? = some ⟨.rw,[.i .i64 v],room⟩) : cellAt h k = some v:=by simp only [cellAt,e]
theorem slotAt_eq {h : List Blk} {k : Nat} {s : Slot} (e : h[k]? = some ⟨.rw,s.cl,14⟩) : slotAt h k = some s:=by simp only [slotAt,e,Slot.cl]
theorem setM_other {h : List Blk} {a b k : Nat} {m m' : M} {B : Blk} (H : IsMem h a b m) (e : h[k]? = some B) (h1 : B ≠ MB b m) (h2 : B ≠ MW m) : (setM h a b m')[k]? = some B:=by
 have ka : a ≠ k:=fun x => by subst x; rw [H.ha,Option.some.injEq] at e; exact h1 e.symm
 have kb : b ≠ k:=fun x => by subst x; rw [H.hb,Option.some.injEq] at e; exact h2 e.symm
 simp only [setM]
 rw [List.getElem?_set_ne kb,List.getElem?_set_ne ka,e]
theorem wc_head {w : List Int} {n : Int} {l : List S} (e : S.i .i64 n :: l = wc w) : False:=by
 cases w with
 | nil => cases e
 | cons x w => rw [wc_cons] at e; simp at e
theorem cell_setM {h : List Blk} {a b k room : Nat} {m : M} {v : Int} (H : IsMem h a b m) (e : h[k]? = some ⟨.rw,[.i .i64 v],room⟩) (m' : M) : (setM h a b m')[k]? = some ⟨.rw,[.i .i64 v],room⟩ :=
 setM_other H e (fun x => by simp [MB] at x) (fun x => by simp only [MW,Blk.mk.injEq] at x; exact wc_head x.2.1)
theorem slot_setM {h : List Blk} {a b k room : Nat} {m : M} {s : Slot} (H : IsMem h a b m) (e : h[k]? = some ⟨.rw,s.cl,room⟩) (m' : M) : (setM h a b m')[k]? = some ⟨.rw,s.cl,room⟩ :=
 setM_other H e (fun x => by simp [MB,Slot.cl] at x) (fun x => by simp only [MW,Blk.mk.injEq,Slot.cl] at x; exact wc_head x.2.1)

def chg (h : List Blk) (f : Nat) (cs : List (R × Nat)) : Option (Slot → Slot) :=
 match cs with
 | [] => if f = 43 ∨ f = 44 then some fun s => ⟨s.cap,s.prev,s.next,IntKind.i64.wrap (s.depth - 1)⟩ else none
 | [(.g k,0)] =>
  if f = 70 then match cellAt h k with
   | some v => some fun s => ⟨s.cap,s.prev,v,s.depth⟩
   | none => none
  else if f = 71 then match cellAt h k with
   | some v => some fun s => ⟨s.cap,v,s.next,s.depth⟩
   | none => none
  else if f = 46 then match slotAt h k with
   | some v => some fun s => ⟨s.cap,s.prev,v.next,s.depth⟩
   | none => none
  else if f = 47 then match slotAt h k with
   | some v => some fun s => ⟨s.cap,v.prev,s.next,s.depth⟩
   | none => none
  else none
 | _ => none
def depG : List V → List Blk → Res
 | [.s (.p (.g i) 0)],h => match slotAt h i with
  | some s => .ok (.tup []) [] (h.set i ⟨.rw,(⟨s.cap,s.prev,s.next,IntKind.i64.wrap (s.depth - 1)⟩ : Slot).cl,14⟩)
  | none => .bad
 | _,_ => .bad
def jn1G : List V → List Blk → Res
 | [.s (.p (.g i) 0), .s (.p (.g k) 0)],h => match slotAt h i,cellAt h k with
  | some s,some v => .ok (.tup []) [] (h.set i ⟨.rw,(⟨s.cap,s.prev,v,s.depth⟩ : Slot).cl,14⟩)
  | _,_ => .bad
 | _,_ => .bad
def jn2G : List V → List Blk → Res
 | [.s (.p (.g i) 0), .s (.p (.g k) 0)],h => match slotAt h i,cellAt h k with
  | some s,some v => .ok (.tup []) [] (h.set i ⟨.rw,(⟨s.cap,v,s.next,s.depth⟩ : Slot).cl,14⟩)
  | _,_ => .bad
 | _,_ => .bad
def rm3G : List V → List Blk → Res
 | [.s (.p (.g i) 0), .s (.p (.g k) 0)],h => match slotAt h i,slotAt h k with
  | some s,some v => .ok (.tup []) [] (h.set i ⟨.rw,(⟨s.cap,s.prev,v.next,s.depth⟩ : Slot).cl,14⟩)
  | _,_ => .bad
 | _,_ => .bad
def rm4G : List V → List Blk → Res
 | [.s (.p (.g i) 0), .s (.p (.g k) 0)],h => match slotAt h i,slotAt h k with
  | some s,some v => .ok (.tup []) [] (h.set i ⟨.rw,(⟨s.cap,v.prev,s.next,s.depth⟩ : Slot).cl,14⟩)
  | _,_ => .bad
 | _,_ => .bad
theorem dep1_snd : Snd Try.prog 43 (FSpec.of depG):=snd_run (noT_snd _) mixed Try.func43 dc43 100 fun args h K hc hS => by
 unfold depG at hS
 split at hS
 ·split at hS
  ·rename_i s hs
   have e1:=slotAt_some hs
   simp only [spec_ok,Slot.cl] at hS
   simp (maxSteps:=9999999) only [EV0,zx,zw,zv,zu,zq,zp,zj,zk,zg,leT,zZ,rvC,zY,zX,zW,zV,↓zU,↓zQ,reduceCtorEq,yz,yy,yY,yx,yw,yv,yu,yq,yp,yX,yj,yk,yg,yW,yV,yU,yZ,yQ,xz,df43,e1,Slot.cl,put,fillP,sub,EVt]
   exact hS
  ·exact hS.elim
 ·exact hS.elim
theorem dep2_snd : Snd Try.prog 44 (FSpec.of depG):=snd_run (noT_snd _) mixed Try.func44 dc44 100 fun args h K hc hS => by
 unfold depG at hS
 split at hS
 ·split at hS
  ·rename_i s hs
   have e1:=slotAt_some hs
   simp only [spec_ok,Slot.cl] at hS
   simp (maxSteps:=9999999) only [EV0,zx,zw,zv,zu,zq,zp,zj,zk,zg,leT,zZ,rvC,zY,zX,zW,zV,↓zU,↓zQ,reduceCtorEq,yz,yy,yY,yx,yw,yv,yu,yq,yp,yX,yj,yk,yg,yW,yV,yU,yZ,yQ,xz,df44,e1,Slot.cl,put,fillP,sub,EVt]
   exact hS
  ·exact hS.elim
 ·exact hS.elim
theorem jn1_snd : Snd Try.prog 70 (FSpec.of jn1G):=snd_run (noT_snd _) mixed Try.func70 dc70 100 fun args h K hc hS => by
 unfold jn1G at hS
 split at hS
 ·split at hS
  ·rename_i s v hs hv
   have e1:=slotAt_some hs
   obtain ⟨room,e2⟩:=cellAt_some hv
   simp only [spec_ok,Slot.cl] at hS
   simp (maxSteps:=9999999) only [EV0,zx,zw,zv,zu,zq,zp,zj,zk,zg,leT,zZ,rvC,zY,zX,zW,zV,↓zU,↓zQ,reduceCtorEq,yz,yy,yY,yx,yw,yv,yu,yq,yp,yX,yj,yk,yg,yW,yV,yU,yZ,yQ,xz,df70,e1,e2,Slot.cl,put,fillP,sub,EVt]
   exact hS
  ·exact hS.elim
 ·exact hS.elim
theorem jn2_snd : Snd Try.prog 71 (FSpec.of jn2G):=snd_run (noT_snd _) mixed Try.func71 dc71 100 fun args h K hc hS => by
 unfold jn2G at hS
 split at hS
 ·split at hS
  ·rename_i s v hs hv
   have e1:=slotAt_some hs
   obtain ⟨room,e2⟩:=cellAt_some hv
   simp only [spec_ok,Slot.cl] at hS
   simp (maxSteps:=9999999) only [EV0,zx,zw,zv,zu,zq,zp,zj,zk,zg,leT,zZ,rvC,zY,zX,zW,zV,↓zU,↓zQ,reduceCtorEq,yz,yy,yY,yx,yw,yv,yu,yq,yp,yX,yj,yk,yg,yW,yV,yU,yZ,yQ,xz,df71,e1,e2,Slot.cl,put,fillP,sub,EVt]
   exact hS
  ·exact hS.elim
 ·exact hS.elim
theorem rm3_snd : Snd Try.prog 46 (FSpec.of rm3G):=snd_run (noT_snd _) mixed Try.func46 dc46 100 fun args h K hc hS => by
 unfold rm3G at hS
 split at hS
 ·split at hS
  ·rename_i s v hs hv
   have e1:=slotAt_some hs
   have e2:=slotAt_some hv
   simp only [spec_ok,Slot.cl] at hS
   simp (maxSteps:=9999999) only [EV0,zx,zw,zv,zu,zq,zp,zj,zk,zg,leT,zZ,rvC,zY,zX,zW,zV,↓zU,↓zQ,reduceCtorEq,yz,yy,yY,yx,yw,yv,yu,yq,yp,yX,yj,yk,yg,yW,yV,yU,yZ,yQ,xz,df46,e1,e2,Slot.cl,put,fillP,sub,EVt]
   exact hS
  ·exact hS.elim
 ·exact hS.elim
theorem rm4_snd : Snd Try.prog 47 (FSpec.of rm4G):=snd_run (noT_snd _) mixed Try.func47 dc47 100 fun args h K hc hS => by
 unfold rm4G at hS
 split at hS
 ·split at hS
  ·rename_i s v hs hv
   have e1:=slotAt_some hs
   have e2:=slotAt_some hv
   simp only [spec_ok,Slot.cl] at hS
   simp (maxSteps:=9999999) only [EV0,zx,zw,zv,zu,zq,zp,zj,zk,zg,leT,zZ,rvC,zY,zX,zW,zV,↓zU,↓zQ,reduceCtorEq,yz,yy,yY,yx,yw,yv,yu,yq,yp,yX,yj,yk,yg,yW,yV,yU,yZ,yQ,xz,df47,e1,e2,Slot.cl,put,fillP,sub,EVt]
   exact hS
  ·exact hS.elim
 ·exact hS.elim
end Go.Proofs.Ytcdfofeolgbnbaa

