/- The small code,and what must hold ahead of it (weakest preconditions over the abstract state). -/
import Derived.WalkKit
import Derived.Deep.Quiet
import Derived.StillTail
/- The base of the calculus: abstract values,blocks,and how they stand in a world. -/
namespace Go.D
set_option linter.all false

inductive R where
 | g (k:Nat)
 | l (k:Nat)
 deriving DecidableEq

inductive S where
 | u
 | b (x:Bool)
 | i (k:IntKind) (n:Int)
 | p (r:R) (o:Nat)
 | np
 | sl (r:R) (o len cap:Nat)
 | ns
 | es (a:Addr) (cap:Nat)
 | fn (f:FuncId) (cs:List (R×Nat))
 | nf
 | yl (l:Nat)

inductive C where
 | s (x:S)
 | agg (xs:List S)

inductive V where
 | s (x:S)
 | agg (xs:List S)
 | tup (xs:List C)

abbrev Sg:=R->Nat×Nat

def adr (σ:Sg) (r:R) (o:Nat):Addr:=⟨(σ r).1,(σ r).2+o,none⟩

def S.tr (σ:Sg):S->Value
 | .u=>.tuple #[]
 | .b x=>.bool x
 | .i k n=>.int k n
 | .p r o=>.pointer (some (adr σ r o))
 | .np=>.pointer none
 | .sl r o n c=>.slice (some (adr σ r o)) n c
 | .ns=>.slice none 0 0
 | .es a c=>.slice (some a) 0 c
 | .fn f cs=>.func (.func f) #[] (cs.map fun x=>Value.pointer (some (adr σ x.1 x.2))).toArray
 | .nf=>.nilFunc
 | .yl l=>.func (.yield l) #[] #[]

def trs (σ:Sg) (xs:List S):Array Value:=(xs.map (S.tr σ)).toArray

def C.tr (σ:Sg):C->Value
 | .s x=>x.tr σ
 | .agg xs=>.agg (trs σ xs)

def V.tr (σ:Sg):V->Value
 | .s x=>x.tr σ
 | .agg xs=>.agg (trs σ xs)
 | .tup cs=>.tuple (cs.map (C.tr σ)).toArray

def R.val (n m:Nat):R->Bool
 | .g k=>decide (k<n)
 | .l k=>decide (k<m)

def S.val (n m:Nat):S->Bool
 | .p r _=>r.val n m
 | .sl r _ _ _=>r.val n m
 | .fn _ cs=>cs.all fun x=>x.1.val n m
 | _=>true

def vals (n m:Nat) (xs:List S):Bool:=xs.all (S.val n m)

def C.val (n m:Nat):C->Bool
 | .s x=>x.val n m
 | .agg xs=>vals n m xs

def V.val (n m:Nat):V->Bool
 | .s x=>x.val n m
 | .agg xs=>vals n m xs
 | .tup cs=>cs.all (C.val n m)

inductive BK where
 | rw|ro|dead
 deriving DecidableEq

structure Blk where
 st:BK
 cells:List S
 room:Nat

def blk (h ls:List Blk):R->Option Blk
 | .g k=>h[k]?
 | .l k=>ls[k]?

def setH (h:List Blk) (r:R) (B:Blk):List Blk :=
 match r with
 | .g k=>h.set k B
 | .l _=>h
def setL (ls:List Blk) (r:R) (B:Blk):List Blk :=
 match r with
 | .g _=>ls
 | .l k=>ls.set k B

def Holds (σ:Sg) (w:World) (r:R) (cells:List S):Prop :=
 ∀ i s,cells[i]?=some s->s≠.u->w.cell? (adr σ r i)=some (s.tr σ)

def OkBlk (σ:Sg) (w:World) (r:R) (B:Blk):Prop :=
 match B.st with
 | .dead=>True
 | .ro=>(σ r).1<w.heap.size/\Holds σ w r B.cells
 | .rw=>(σ r).1<w.heap.size/\Holds σ w r B.cells/\B.cells.length<=B.room /\
   ∀ i,i<B.room->(w.cell? (adr σ r i)).isSome=true/\w.frozen? (adr σ r i)=false

structure Sim (σ:Sg) (h ls:List Blk) (w:World):Prop where
 ok:∀ r B,blk h ls r=some B->OkBlk σ w r B
 sep:∀ r r' B B',blk h ls r=some B->blk h ls r'=some B'->r≠r'->B.st=.rw->B'.st≠.dead->(σ r).1≠(σ r').1
 gval:∀ B,B∈h->vals h.length 0 B.cells=true
 lval:∀ B,B∈ls->vals h.length ls.length B.cells=true

structure Same (w w':World):Prop where
 os:w'.os=w.os
 tape:w'.tape=w.tape
 output:w'.output=w.output
 size:w.heap.size<=w'.heap.size

theorem Same.refl (w:World):Same w w:=⟨rfl,rfl,rfl,Nat.le_refl _⟩
theorem Same.trans {a b c:World} (h:Same a b) (k:Same b c):Same a c :=
 ⟨k.os.trans h.os,k.tape.trans h.tape,k.output.trans h.output,Nat.le_trans h.size k.size⟩

structure Base where
 w:World
 pt:Nat->Prop
 lt:∀ b,pt b->b<w.heap.size
def Base.std (w:World):Base:=⟨w,fun b=>b<w.heap.size,fun _ h=>h⟩
instance:Coe World Base:=⟨Base.std⟩
theorem std_w (w:World):(Base.std w).w=w:=rfl
theorem Base.not {w0:Base} {b:Nat} (h:w0.w.heap.size<=b):¬ w0.pt b:=fun h2=>by have:=w0.lt b h2; omega

structure Kept (σ:Sg) (h:List Blk) (w:Base) (w':World):Prop where
 same:Same w.w w'
 keep:∀ b,w.pt b->(∀ k B,h[k]?=some B->B.st=.rw->(σ (.g k)).1≠b)->w'.heap[b]?=w.w.heap[b]?

class Tabs where
 cells:List (Nat×Nat×Value)
 prog:Program
def Gl [Tabs] (σ:Sg) (h:List Blk) (w:World):Prop :=
 ∀ x,x∈Tabs.cells->w.cell? ⟨x.1,x.2.1,none⟩=some x.2.2/\x.1<w.heap.size/\∀ k B,h[k]?=some B->B.st=.rw->(σ (.g k)).1≠x.1
variable [Tabs]
structure Inv (σ0:Sg) (h0:List Blk) (w0:Base) (σ:Sg) (h ls:List Blk) (w:World):Prop where
 sim:Sim σ h ls w
 kept:Kept σ0 h0 w0 w
 len:h0.length<=h.length
 old:∀ k,k<h0.length->σ (.g k)=σ0 (.g k)
 mine:∀ r B,blk h ls r=some B->B.st=.rw->(∃ k B0,r=.g k/\h0[k]?=some B0/\B0.st=.rw)\/¬ w0.pt (σ r).1
 new:∀ (k:Nat) (B:Blk),h0.length<=k->h[k]?=some B->B.st≠.dead->¬ w0.pt (σ (.g k)).1
 live:∀ (k:Nat) (B0 B:Blk),h0[k]?=some B0->h[k]?=some B->B.st≠.dead->B0.st≠.dead
 gl:Gl σ0 h0 w0.w/\(∀ x,x∈Tabs.cells->w0.pt x.1)/\∀ (k:Nat) (B:Blk),h0[k]?=some B->B.st≠.dead->(σ0 (.g k)).1<w0.w.heap.size

/-! ### translation hangs on the valid references alone -/

theorem adr_congr {σ σ':Sg} {r:R} (o:Nat) (h:σ' r=σ r):adr σ' r o=adr σ r o:=by simp [adr,h]

def Agree (n m:Nat) (σ σ':Sg):Prop:=∀ r,r.val n m=true->σ' r=σ r

theorem S.tr_congr {σ σ':Sg} {n m:Nat} (hA:Agree n m σ σ') (s:S) (hv:s.val n m=true):s.tr σ'=s.tr σ:=by
 cases s with
 | p r o=>simp only [S.val] at hv; simp only [S.tr,adr_congr o (hA r hv)]
 | sl r o a c=>simp only [S.val] at hv; simp only [S.tr,adr_congr o (hA r hv)]
 | fn f cs =>
  simp only [S.val,List.all_eq_true] at hv
  simp only [S.tr]
  congr 2
  refine List.map_congr_left fun x hx=>?_
  rw [adr_congr x.2 (hA x.1 (hv x hx))]
 | _=>rfl

theorem trs_congr {σ σ':Sg} {n m:Nat} (hA:Agree n m σ σ') (xs:List S) (hv:vals n m xs=true):trs σ' xs=trs σ xs:=by
 simp only [vals,List.all_eq_true] at hv
 simp only [trs]
 congr 1
 exact List.map_congr_left fun x hx=>S.tr_congr hA x (hv x hx)

theorem C.tr_congr {σ σ':Sg} {n m:Nat} (hA:Agree n m σ σ') (c:C) (hv:c.val n m=true):c.tr σ'=c.tr σ:=by
 cases c with
 | s x=>exact S.tr_congr hA x hv
 | agg xs=>simp only [C.tr,trs_congr hA xs hv]

theorem V.tr_congr {σ σ':Sg} {n m:Nat} (hA:Agree n m σ σ') (v:V) (hv:v.val n m=true):v.tr σ'=v.tr σ:=by
 cases v with
 | s x=>exact S.tr_congr hA x hv
 | agg xs=>simp only [V.tr,trs_congr hA xs hv]
 | tup cs =>
  simp only [V.val,List.all_eq_true] at hv
  simp only [V.tr]
  congr 2
  exact List.map_congr_left fun x hx=>C.tr_congr hA x (hv x hx)

theorem R.val_mono {n m n' m':Nat} (hn:n<=n') (hm:m<=m') {r:R} (h:r.val n m=true):r.val n' m'=true:=by
 cases r<;>simp only [R.val,decide_eq_true_eq] at*<;> omega
theorem S.val_mono {n m n' m':Nat} (hn:n<=n') (hm:m<=m') {s:S} (h:s.val n m=true):s.val n' m'=true:=by
 cases s with
 | p r o=>exact R.val_mono hn hm h
 | sl r o a c=>exact R.val_mono hn hm h
 | fn f cs=>simp only [S.val,List.all_eq_true] at *; exact fun x hx=>R.val_mono hn hm (h x hx)
 | _=>rfl
theorem vals_mono {n m n' m':Nat} (hn:n<=n') (hm:m<=m') {xs:List S} (h:vals n m xs=true):vals n' m' xs=true:=by
 simp only [vals,List.all_eq_true] at *; exact fun x hx=>S.val_mono hn hm (h x hx)
theorem C.val_mono {n m n' m':Nat} (hn:n<=n') (hm:m<=m') {c:C} (h:c.val n m=true):c.val n' m'=true:=by
 cases c with
 | s x=>exact S.val_mono hn hm h
 | agg xs=>exact vals_mono hn hm h
theorem V.val_mono {n m n' m':Nat} (hn:n<=n') (hm:m<=m') {v:V} (h:v.val n m=true):v.val n' m'=true:=by
 cases v with
 | s x=>exact S.val_mono hn hm h
 | agg xs=>exact vals_mono hn hm h
 | tup cs=>simp only [V.val,List.all_eq_true] at *; exact fun x hx=>C.val_mono hn hm (h x hx)

/-! ### worlds that agree on a block -/

theorem cell?_block {w w':World} {a:Addr} (h:w'.heap[a.block]?=w.heap[a.block]?):w'.cell? a=w.cell? a:=by
 simp [World.cell?,h]
theorem frozen?_block {w w':World} {a:Addr} (h:w'.heap[a.block]?=w.heap[a.block]?):w'.frozen? a=w.frozen? a:=by
 simp [World.frozen?,h]

theorem OkBlk.move {σ σ':Sg} {w w':World} {r:R} {B:Blk} {n m:Nat} (h:OkBlk σ w r B) (hr:σ' r=σ r) (hA:Agree n m σ σ')
  (hv:vals n m B.cells=true) (hs:w.heap.size<=w'.heap.size) (hb:B.st≠.dead->w'.heap[(σ r).1]?=w.heap[(σ r).1]?):OkBlk σ' w' r B:=by
 unfold OkBlk at *
 have hH:B.st≠.dead->Holds σ w r B.cells->Holds σ' w' r B.cells:=fun hd hH i s hi hu=>by
  have h1:=hH i s hi hu
  have hvs:s.val n m=true:=by
   simp only [vals,List.all_eq_true] at hv
   exact hv s (List.mem_of_getElem? hi)
  rw [adr_congr i hr,S.tr_congr hA s hvs,cell?_block (w:=w) (by exact hb hd)]
  exact h1
 cases hst:B.st with
 | dead=>simp only [hst]
 | ro=>simp only [hst] at *; rw [hr]; exact ⟨by omega,hH (by simp) h.2⟩
 | rw =>
  simp only [hst] at *
  rw [hr]
  refine ⟨by omega,hH (by simp) h.2.1,h.2.2.1,fun i hi=>?_⟩
  rw [adr_congr i hr,cell?_block (w:=w) (by exact hb (by simp)),frozen?_block (w:=w) (by exact hb (by simp))]
  exact h.2.2.2 i hi

/-! ### blocks -/
theorem blk_set (h ls:List Blk) (r r':R) (B:Blk) :
  blk (setH h r B) (setL ls r B) r'=if r=r' then (blk h ls r).map (fun _=>B) else blk h ls r':=by
 cases r<;>cases r'<;>simp only [blk,setH,setL,List.getElem?_set,R.g.injEq,R.l.injEq,reduceCtorEq,if_false]<;>split<;>(try rfl)
 all_goals (rename_i e; subst e; split<;>simp_all)

theorem setH_length (h:List Blk) (r:R) (B:Blk):(setH h r B).length=h.length:=by cases r<;>simp [setH]
theorem setL_length (ls:List Blk) (r:R) (B:Blk):(setL ls r B).length=ls.length:=by cases r<;>simp [setL]

theorem mem_setH {h:List Blk} {r:R} {B X:Blk} (hx:X∈setH h r B):X∈h\/(X=B/\∃ k,r=.g k):=by
 cases r with
 | g k=>simp only [setH] at hx; rcases List.mem_or_eq_of_mem_set hx with h|h; exact .inl h; exact .inr ⟨h,k,rfl⟩
 | l k=>exact .inl hx
theorem mem_setL {ls:List Blk} {r:R} {B X:Blk} (hx:X∈setL ls r B):X∈ls\/(X=B/\∃ k,r=.l k):=by
 cases r with
 | g k=>exact .inl hx
 | l k=>simp only [setL] at hx; rcases List.mem_or_eq_of_mem_set hx with h|h; exact .inl h; exact .inr ⟨h,k,rfl⟩

theorem Sim.bval {σ:Sg} {h ls:List Blk} {w:World} (H:Sim σ h ls w) {r:R} {B:Blk} (hb:blk h ls r=some B):vals h.length ls.length B.cells=true:=by
 cases r with
 | g k=>exact vals_mono (Nat.le_refl _) (Nat.zero_le _) (H.gval B (List.mem_of_getElem? hb))
 | l k=>exact H.lval B (List.mem_of_getElem? hb)

theorem Sim.cell {σ:Sg} {h ls:List Blk} {w:World} (H:Sim σ h ls w) {r:R} {B:Blk} (hb:blk h ls r=some B) (hd:B.st≠.dead) {o:Nat} {s:S}
  (hs:B.cells[o]?=some s) (hu:s≠.u):w.cell? (adr σ r o)=some (s.tr σ):=by
 have:=H.ok r B hb
 unfold OkBlk at this
 cases hst:B.st with
 | dead=>exact absurd hst hd
 | ro=>rw [hst] at this; exact this.2 o s hs hu
 | rw=>rw [hst] at this; exact this.2.1 o s hs hu

theorem Sim.drawn {σ:Sg} {h ls:List Blk} {w:World} (H:Sim σ h ls w) (n:Nat):Sim σ h ls { w with drawn:=n } :=
 ⟨H.ok,H.sep,H.gval,H.lval⟩

theorem Inv.drawn {σ0:Sg} {h0:List Blk} {w0:Base} {σ:Sg} {h ls:List Blk} {w:World} (H:Inv σ0 h0 w0 σ h ls w) (n:Nat):Inv σ0 h0 w0 σ h ls { w with drawn:=n } :=
 ⟨H.sim.drawn n,⟨⟨H.kept.same.os,H.kept.same.tape,H.kept.same.output,H.kept.same.size⟩,H.kept.keep⟩,H.len,H.old,H.mine,H.new,H.live,H.gl⟩

end Go.D

/- How stores,new blocks and a block that is remade keep what is known of the blocks. -/
namespace Go.D
set_option linter.all false
variable [Tabs]

def R.takes (r:R) (n m:Nat) (s:S):Bool :=
 match r with
 | .g _=>s.val n 0
 | .l _=>s.val n m

theorem vals_set {n m o:Nat} {xs:List S} {s:S} (h:vals n m xs=true) (hs:s.val n m=true):vals n m (xs.set o s)=true:=by
 simp only [vals,List.all_eq_true] at *
 intro x hx
 rcases List.mem_or_eq_of_mem_set hx with h1|h1
 ·exact h x h1
 ·subst h1; exact hs

section
variable {σ0:Sg} {h0:List Blk} {w0:Base} {σ:Sg} {h ls:List Blk} {w:World}

theorem Inv.outside (H:Inv σ0 h0 w0 σ h ls w) {r:R} {B:Blk} (hb:blk h ls r=some B) (hst:B.st=.rw) {b:Nat} (hlt:w0.pt b)
  (hno:∀ k B,h0[k]?=some B->B.st=.rw->(σ0 (.g k)).1≠b):b≠(σ r).1:=by
 rcases H.mine r B hb hst with ⟨k,B0,rfl,hk,hB0⟩|hge
 ·have hlt':k<h0.length:=by
   rcases Nat.lt_or_ge k h0.length with h1|h1
   ·exact h1
   ·rw [List.getElem?_eq_none h1] at hk; cases hk
  rw [H.old k hlt']
  exact (hno k B0 hk hB0).symm
 ·exact fun e=>hge (e ▸ hlt)

theorem Inv.store1 (H:Inv σ0 h0 w0 σ h ls w) {r:R} {B:Blk} (hb:blk h ls r=some B) (hst:B.st=.rw) {o:Nat} (ho:o<B.cells.length) {s:S} (_hs:s≠.u)
  (hv:r.takes h.length ls.length s=true) :
  Inv σ0 h0 w0 σ (setH h r { B with cells:=B.cells.set o s }) (setL ls r { B with cells:=B.cells.set o s }) (w.setCell (adr σ r o) (s.tr σ)):=by
 have hok:=H.sim.ok r B hb
 unfold OkBlk at hok
 rw [hst] at hok
 obtain ⟨k1,k2,k3,k4⟩:=hok
 have hroom:=k4 o (by omega)
 have hsome:∃ u,w.cell? (adr σ r o)=some u:=Option.isSome_iff_exists.1 hroom.1
 obtain ⟨u0,hu0⟩:=hsome
 have hother:∀ b,b≠(σ r).1->(w.setCell (adr σ r o) (s.tr σ)).heap[b]?=w.heap[b]?:=fun b hne =>
  Go.RowKit.Below.heap_setCell _ _ _ _ hne
 refine ⟨⟨?_, ?_, ?_, ?_⟩,⟨⟨?_, ?_, ?_, ?_⟩, ?_⟩, ?_, ?_, ?_, ?_, ?_,H.gl⟩
 ·intro r' B' hb'
  rw [blk_set] at hb'
  by_cases hr:r=r'
  ·subst hr
   rw [if_pos rfl,hb] at hb'
   simp only [Option.map_some,Option.some.injEq] at hb'
   subst hb'
   unfold OkBlk
   simp only [hst,World.size_setCell,List.length_set]
   refine ⟨k1,fun i s' hi hu=>?_,k3,fun i hi=>⟨?_, ?_⟩⟩
   ·by_cases hio:i=o
    ·subst hio
     rw [List.getElem?_set_self ho] at hi
     cases hi
     exact World.cell?_setCell_same _ _ _ hu0
    ·rw [List.getElem?_set_ne (by omega)] at hi
     rw [World.cell?_setCell_other _ _ _ _ (by simp only [adr,ne_eq,Addr.mk.injEq,not_and]; omega)]
     exact k2 i s' hi hu
   ·by_cases hio:i=o
    ·subst hio; rw [World.cell?_setCell_same _ _ _ hu0]; rfl
    ·rw [World.cell?_setCell_other _ _ _ _ (by simp only [adr,ne_eq,Addr.mk.injEq,not_and]; omega)]
     exact (k4 i hi).1
   ·rw [World.frozen?_setCell]; exact (k4 i hi).2
  ·rw [if_neg hr] at hb'
   refine (H.sim.ok r' B' hb').move rfl (n:=h.length) (m:=ls.length) (fun _ _=>rfl) (H.sim.bval hb') (by simp) (fun hd=>hother _ ?_)
   exact (H.sim.sep r r' B B' hb hb' hr hst hd).symm
 ·intro r1 r2 B1 B2 hb1 hb2 hne hs1 hs2
  rw [blk_set] at hb1 hb2
  by_cases e1:r=r1
  ·subst e1
   rw [if_neg hne] at hb2
   exact H.sim.sep r r2 B B2 hb hb2 hne hst hs2
  ·rw [if_neg e1] at hb1
   by_cases e2:r=r2
   ·subst e2
    exact H.sim.sep r1 r B1 B hb1 hb hne hs1 (by rw [hst]; simp)
   ·rw [if_neg e2] at hb2
    exact H.sim.sep r1 r2 B1 B2 hb1 hb2 hne hs1 hs2
 ·intro X hX
  rw [setH_length]
  rcases mem_setH hX with h1|⟨h1,k,h2⟩
  ·exact H.sim.gval X h1
  ·subst h1; subst h2
   exact vals_set (H.sim.gval B (List.mem_of_getElem? hb)) hv
 ·intro X hX
  rw [setH_length,setL_length]
  rcases mem_setL hX with h1|⟨h1,k,h2⟩
  ·exact H.sim.lval X h1
  ·subst h1; subst h2
   exact vals_set (H.sim.lval B (List.mem_of_getElem? hb)) hv
 ·exact H.kept.same.os
 ·exact H.kept.same.tape
 ·exact H.kept.same.output
 ·rw [World.size_setCell]; exact H.kept.same.size
 ·intro b hlt hno
  rw [hother b (H.outside hb hst hlt hno)]
  exact H.kept.keep b hlt hno
 ·rw [setH_length]; exact H.len
 ·exact H.old
 ·intro r' B' hb' hst'
  rw [blk_set] at hb'
  by_cases hr:r=r'
  ·subst hr
   exact H.mine r B hb hst
  ·rw [if_neg hr] at hb'
   exact H.mine r' B' hb' hst'
 ·intro k X hk hX hd
  cases r with
  | l j=>exact H.new k X hk hX hd
  | g j =>
   simp only [setH,List.getElem?_set] at hX
   split at hX
   ·rename_i e; subst e; exact H.new j B hk hb (by rw [hst]; simp)
   ·exact H.new k X hk hX hd
 ·intro k B0 B' hk0 hk hd
  cases r with
  | l j=>exact H.live k B0 B' hk0 hk hd
  | g j =>
   simp only [setH,List.getElem?_set] at hk
   split at hk
   ·rename_i e; subst e
    exact H.live j B0 B hk0 hb (by rw [hst]; simp)
   ·exact H.live k B0 B' hk0 hk hd

def lay (σ:Sg) (r:R) (x:Nat×Nat):Sg:=fun r'=>if r'=r then x else σ r'

theorem agree_lay (σ:Sg) (n m k:Nat) (x:Nat×Nat) (h:m<=k):Agree n m σ (lay σ (.l k) x):=by
 intro r hr
 unfold lay
 split
 ·rename_i e; subst e; simp only [R.val,decide_eq_true_eq] at hr; omega
 ·rfl

theorem blk_append (h ls:List Blk) (B:Blk) (r:R):blk h (ls++[B]) r=if r=.l ls.length then some B else blk h ls r:=by
 cases r with
 | g k=>simp [blk]
 | l k =>
  simp only [blk,R.l.injEq]
  by_cases e:k=ls.length
  ·subst e; simp
  ·rw [if_neg e]
   rcases Nat.lt_or_ge k ls.length with h1|h1
   ·rw [List.getElem?_append_left h1]
   ·rw [List.getElem?_eq_none h1,List.getElem?_eq_none (by simp; omega)]

theorem blk_val {h ls:List Blk} {r:R} {B:Blk} (hb:blk h ls r=some B):r.val h.length ls.length=true:=by
 cases r<;>simp only [blk] at hb<;>simp only [R.val,decide_eq_true_eq]<;>exact (List.getElem?_eq_some_iff.1 hb).1

theorem Inv.alloc (H:Inv σ0 h0 w0 σ h ls w) (cells:List S) (T:TypeId) (extra:Array Value) (hv:vals h.length ls.length cells=true) :
  Inv σ0 h0 w0 (lay σ (.l ls.length) (w.heap.size,0)) h (ls++[⟨.rw,cells,cells.length+extra.size⟩]) (w.alloc (.cells (trs σ cells++extra) T)):=by
 have hA:Agree h.length ls.length σ (lay σ (.l ls.length) (w.heap.size,0)):=agree_lay _ _ _ _ _ (Nat.le_refl _)
 have hold:∀ b,b<w.heap.size->(w.alloc (.cells (trs σ cells++extra) T)).heap[b]?=w.heap[b]?:=fun b hb=>Go.RowKit.Below.heap_alloc _ _ _ hb
 have hlt:∀ r B,blk h ls r=some B->B.st≠.dead->(σ r).1<w.heap.size:=fun r B hb hd=>by
  have:=H.sim.ok r B hb
  unfold OkBlk at this
  cases hst:B.st with
  | dead=>exact absurd hst hd
  | ro=>rw [hst] at this; exact this.1
  | rw=>rw [hst] at this; exact this.1
 have hsame:∀ r B,blk h ls r=some B->lay σ (.l ls.length) (w.heap.size,0) r=σ r:=fun r B hb=>hA r (blk_val hb)
 refine ⟨⟨?_, ?_, ?_, ?_⟩,⟨⟨?_, ?_, ?_, ?_⟩, ?_⟩, ?_, ?_, ?_, ?_, ?_,H.gl⟩
 ·intro r B hb
  rw [blk_append] at hb
  by_cases e:r=.l ls.length
  ·subst e
   rw [if_pos rfl] at hb
   cases hb
   unfold OkBlk
   simp only
   have hadr:∀ i,adr (lay σ (.l ls.length) (w.heap.size,0)) (.l ls.length) i=⟨w.heap.size,i,none⟩:=fun i=>by simp [adr,lay]
   have hsz:(trs σ cells).size=cells.length:=by simp [trs]
   refine ⟨by simp [lay],fun i s hi _=>?_,by omega,fun i hi=>?_⟩
   ·rw [hadr,World.cell?_alloc_new]
    have hil:i<cells.length:=(List.getElem?_eq_some_iff.1 hi).1
    have hvs:s.val h.length ls.length=true:=by
     simp only [vals,List.all_eq_true] at hv; exact hv s (List.mem_of_getElem? hi)
    rw [Array.getElem?_append_left (by omega),S.tr_congr hA s hvs]
    simp [trs,hi]
   ·rw [hadr,World.cell?_alloc_new,World.frozen?_alloc_new]
    refine ⟨?_,rfl⟩
    rw [Array.getElem?_eq_getElem (by simp; omega)]; rfl
  ·rw [if_neg e] at hb
   refine (H.sim.ok r B hb).move (hsame r B hb) hA (H.sim.bval hb) (by simp) (fun hd=>hold _ (hlt r B hb hd))
 ·intro r1 r2 B1 B2 hb1 hb2 hne hs1 hs2
  rw [blk_append] at hb1 hb2
  by_cases e1:r1=.l ls.length
  ·subst e1
   rw [if_neg (Ne.symm hne)] at hb2
   rw [hsame r2 B2 hb2]
   have:=hlt r2 B2 hb2 hs2
   simp only [lay,if_true]; omega
  ·rw [if_neg e1] at hb1
   rw [hsame r1 B1 hb1]
   have:=hlt r1 B1 hb1 (by rw [hs1]; simp)
   by_cases e2:r2=.l ls.length
   ·subst e2; simp only [lay,if_true]; omega
   ·rw [if_neg e2] at hb2
    rw [hsame r2 B2 hb2]
    exact H.sim.sep r1 r2 B1 B2 hb1 hb2 hne hs1 hs2
 ·exact H.sim.gval
 ·intro X hX
  simp only [List.mem_append,List.mem_singleton] at hX
  rcases hX with h1|h1
  ·exact vals_mono (Nat.le_refl _) (by simp) (H.sim.lval X h1)
  ·subst h1; exact vals_mono (Nat.le_refl _) (by simp) hv
 ·exact H.kept.same.os
 ·exact H.kept.same.tape
 ·exact H.kept.same.output
 ·have:=H.kept.same.size; simp; omega
 ·intro b hlt' hno
  rw [hold b (by have:=H.kept.same.size; have:=w0.lt b hlt'; omega)]
  exact H.kept.keep b hlt' hno
 ·exact H.len
 ·intro k hk; rw [show lay σ (.l ls.length) (w.heap.size,0) (.g k)=σ (.g k) by simp [lay]]; exact H.old k hk
 ·intro r B hb hst
  rw [blk_append] at hb
  by_cases e:r=.l ls.length
  ·subst e; right; simp only [lay,if_true]; exact Base.not H.kept.same.size
  ·rw [if_neg e] at hb; rw [hsame r B hb]; exact H.mine r B hb hst
 ·intro k X hk hX hd
  rw [show lay σ (.l ls.length) (w.heap.size,0) (.g k)=σ (.g k) by simp [lay]]
  exact H.new k X hk hX hd
 ·exact H.live

end

def put (xs:List S) (o:Nat):List S->List S
 | []=>xs
 | v::vs=>put (xs.set o v) (o+1) vs

theorem set_same {α:Type} {l:List α} {k:Nat} {x:α} (h:l[k]?=some x):l.set k x=l:=by
 apply List.ext_getElem?
 intro i
 rw [List.getElem?_set]
 split
 ·rename_i e; subst e; split
  ·exact h.symm
  ·rename_i hn; rw [List.getElem?_eq_none (by omega)] at h; cases h
 ·rfl

def known (vs:List S):Bool:=vs.all fun s=>match s with|.u=>false|_=>true

theorem S.oneCell {s:S} (h:s≠.u) (σ:Sg):(s.tr σ).oneCell'=true:=by
 cases s<;>first|rfl|exact absurd rfl h

theorem storeCells_run {P:Program} {σ0:Sg} {h0:List Blk} {w0:Base} {σ:Sg} (r:R) (o:Nat):∀ (vs:List S) (i:Nat) (h ls:List Blk) (w:World) (B:Blk),
  Inv σ0 h0 w0 σ h ls w->blk h ls r=some B->B.st=.rw->o+i+vs.length<=B.cells.length->known vs=true->vs.all (r.takes h.length ls.length)=true ->
  ∃ w',(storeCells (adr σ r o) (vs.map (S.tr σ)) i).run P w=.ok () w' /\
   Inv σ0 h0 w0 σ (setH h r { B with cells:=put B.cells (o+i) vs }) (setL ls r { B with cells:=put B.cells (o+i) vs }) w'
 | [],i,h,ls,w,B,H,hb,_,_,_,_=>by
  refine ⟨w,by simp [storeCells], ?_⟩
  have e1:setH h r { B with cells:=put B.cells (o+i) [] }=h:=by
   cases r with
   | g k=>simp only [setH,put]; exact set_same hb
   | l k=>rfl
  have e2:setL ls r { B with cells:=put B.cells (o+i) [] }=ls:=by
   cases r with
   | g k=>rfl
   | l k=>simp only [setL,put]; exact set_same hb
  rw [e1,e2]; exact H
 | v::vs,i,h,ls,w,B,H,hb,hst,hlen,hk,hv=>by
  simp only [List.length_cons] at hlen
  simp only [known,List.all_cons,Bool.and_eq_true] at hk
  simp only [List.all_cons,Bool.and_eq_true] at hv
  have hvu:v≠.u:=by rintro rfl; simp at hk
  have hok:=H.sim.ok r B hb
  unfold OkBlk at hok
  rw [hst] at hok
  have hroom:=hok.2.2.2 (o+i) (by have:=hok.2.2.1; omega)
  obtain ⟨u0,hu0⟩:=Option.isSome_iff_exists.1 hroom.1
  have H1:=H.store1 hb hst (o:=o+i) (by omega) hvu hv.1
  have hb1:blk (setH h r { B with cells:=B.cells.set (o+i) v }) (setL ls r { B with cells:=B.cells.set (o+i) v }) r=some { B with cells:=B.cells.set (o+i) v }:=by
   rw [blk_set,if_pos rfl,hb]; rfl
  obtain ⟨w',hr,H2⟩:=storeCells_run (P:=P) r o vs (i+1) _ _ _ _ H1 hb1 hst (by simp; omega) hk.2 (by
   simp only [setH_length,setL_length]; exact hv.2)
  refine ⟨w', ?_, ?_⟩
  ·have hadd:(adr σ r o).add i=adr σ r (o+i):=by
    unfold Addr.add adr; split
    ·rename_i e; subst e; rfl
    ·simp [Nat.add_assoc]
   simp only [List.map_cons,storeCells,Sem.run_bind,hadd,run_store P w _ _ _ (S.oneCell hvu σ),hu0,hroom.2,Bool.false_eq_true,if_false,Result.andThen_ok]
   exact hr
  ·have e1:∀ X Y:Blk,setH (setH h r X) r Y=setH h r Y:=fun X Y=>by cases r<;>simp [setH]
   have e2:∀ X Y:Blk,setL (setL ls r X) r Y=setL ls r Y:=fun X Y=>by cases r<;>simp [setL]
   rw [e1,e2] at H2
   simp only [put]
   rw [show o+i+1=o+(i+1) by omega]
   exact H2

end Go.D

/- The small code,and what must hold ahead of it (weakest preconditions over the abstract state). -/
namespace Go.D
set_option linter.all false
variable [Tabs]

inductive Opd where
 | t (i:Nat)
 | k (v:V)

inductive I where
 | mv (x:Opd)
 | pick (c a b:Opd)
 | new (zero:List S)
 | box (x:Opd)
 | build (zero:List S) (parts:List (Nat×Nat×Opd))
 | bsl (len:Nat) (zero:List S) (parts:List (Nat×Nat×Opd))
 | ld (a:Opd) (n:Option Nat)
 | st (a x:Opd) (n:Nat)
 | nil (x:Opd)
 | bin (op:BinOp) (x y:Opd)
 | eqb (neg:Bool) (x y:Opd)
 | eqa (neg:Bool) (ks:List Bool) (x y:Opd)
 | eqn (isSl neg:Bool) (x:Opd)
 | un (op:UnOp) (x:Opd)
 | conv (k:IntKind) (x:Opd)
 | mkf (f:FuncId) (caps:List Opd)
 | mks (esize bytes:Nat) (zero:List S) (len cap:Opd)
 | slc (arr:Option Nat) (esize:Nat) (x:Opd) (lo hi:Option Opd)
 | fa (x:Opd) (off:Nat)
 | fld (x:Opd) (off:Nat) (n:Option Nat)
 | ia (arr:Option Nat) (esize:Nat) (x i:Opd)
 | ix (len esize:Nat) (n:Option Nat) (x i:Opd)
 | ext (x:Opd) (j:Nat)
 | call (f:FuncId) (args:List Opd)
 | callv (f:Opd) (args:List Opd)
 | len (x:Opd)
 | app (esize bytes:Nat) (x y:Opd)
 | cpy (esize:Nat) (x y:Opd)
 | mx (isMax:Bool) (x y:Opd)

structure GI where
 dst:Option Nat
 op:I
 g:Option (Nat×Bool)

def Gm (d a:Nat):GI:=⟨some d, .mv (.t a),none⟩
def Gg (d:Nat) (x:I):GI:=⟨some d,x,none⟩
def Ki (n:Int):Opd:=.k (.s (.i .i64 n))
def Zi (n:Nat):List S:=List.replicate n (.i .i64 0)
theorem Gm_eq (d a:Nat):Gm d a=⟨some d, .mv (.t a),none⟩:=(rfl)
theorem Gg_eq (d:Nat) (x:I):Gg d x=⟨some d,x,none⟩:=(rfl)
theorem Ki_eq (n:Int):Ki n=.k (.s (.i .i64 n)):=(rfl)
theorem Zi_eq (n:Nat):Zi n=List.replicate n (.i .i64 0):=(rfl)
inductive XC where
 | done
 | tk (q:Bool) (g:GI) (r:XC)
 | both (a b:XC)

inductive DC where
 | skip
 | reg (l:List GI)
 | drq (l:List GI)
 | drt (n:Nat) (l:List GI)
 | drm (l:List (Bool×GI))
 | drx (x:XC)
 | seq (a b:DC)
 | cond (x:Opd) (a b:DC)
 | block (id:Nat) (c:DC)
 | loop (c:DC)
 | exit (id:Nat)
 | ret
 | rf (g:Opd) (ps:List Nat) (asg body:DC)

/-! ### values -/
def ev (t:List V):Opd->V
 | .t i=>t.getD i (.tup [])
 | .k v=>v

def putD (t:List V) (d:Option Nat) (v:V):List V :=
 match d with
 | some d=>t.set d v
 | none=>t

def V.cells:V->List S
 | .s x=>[x]
 | .agg xs=>xs
 | .tup _=>[]

def V.plain:V->Bool
 | .s .u=>false
 | .s _=>true
 | .agg xs=>known xs
 | .tup _=>false

def C.known:C->Bool
 | .s .u=>false
 | .s _=>true
 | .agg xs=>D.known xs

def V.known:V->Bool
 | .s .u=>false
 | .s _=>true
 | .agg xs=>D.known xs
 | .tup cs=>cs.all C.known

def C.v:C->V
 | .s x=>.s x
 | .agg xs=>.agg xs

def sub (xs:List S) (o n:Nat):List S:=(xs.drop o).take n

def ob (p K:Prop):Prop:=p/\K
def bcase:Bool->(Bool->Prop)->Prop
 | true,f=>f true
 | false,f=>f false
theorem bcase_intro {b:Bool} {f:Bool->Prop} (h1:b=true->f true) (h2:b=false->f false):bcase b f:=by
 cases b
 ·exact h2 rfl
 ·exact h1 rfl

def eq1:S->S->Bool
 | .i _ a, .i _ b=>a==b
 | .b a, .b b=>a==b
 | _,_=>false
def cmp1:Bool->S->S->Bool
 | true, .i j _, .i k _=>decide (j=k)
 | false, .b _, .b _=>true
 | _,_,_=>false
def eqS:List S->List S->Bool
 | [],[]=>true
 | x::xs,y::ys=>eq1 x y&&eqS xs ys
 | _,_=>false
def cmpS:List Bool->List S->List S->Bool
 | [],[],[]=>true
 | k::ks,x::xs,y::ys=>cmp1 k x y&&cmpS ks xs ys
 | _,_,_=>false

def bin1 (op:BinOp) (x y:S) (K:S->Prop):Prop :=
 match x,y with
 | .i k a, .i k' b =>
  match op with
  | .shl=>ob (0<=b) (K (.i k (k.wrap (a*2^min b.toNat k.bits))))
  | .shr=>ob (0<=b) (K (.i k (a/2^min b.toNat k.bits)))
  | .add=>ob (k=k') (K (.i k (k.wrap (a+b))))
  | .sub=>ob (k=k') (K (.i k (k.wrap (a-b))))
  | .mul=>ob (k=k') (K (.i k (k.wrap (a*b))))
  | .quo=>ob (k=k'/\b≠0) (K (.i k (k.wrap (a.tdiv b))))
  | .rem=>ob (k=k'/\b≠0) (K (.i k (a.tmod b)))
  | .and=>ob (k=k') (K (.i k (bits .and k a b)))
  | .or=>ob (k=k') (K (.i k (bits .or k a b)))
  | .xor=>ob (k=k') (K (.i k (bits .xor k a b)))
  | .andNot=>ob (k=k') (K (.i k (bits .andNot k a b)))
  | .eql=>ob (k=k') (K (.b (a==b)))
  | .neq=>ob (k=k') (K (.b (a != b)))
  | .lss=>ob (k=k') (K (.b (decide (a<b))))
  | .leq=>ob (k=k') (K (.b (decide (a<=b))))
  | .gtr=>ob (k=k') (K (.b (decide (a > b))))
  | .geq=>ob (k=k') (K (.b (decide (a ≥ b))))
 | _,_=>False

def isNil (isSl:Bool):S->Option Bool
 | .p _ _=>if isSl then none else some false
 | .np=>if isSl then none else some true
 | .sl _ _ _ _=>if isSl then some false else none
 | .ns=>if isSl then some true else none
 | _=>none

def un1 (op:UnOp) (x:S) (K:S->Prop):Prop :=
 match op,x with
 | .not, .b a=>K (.b (!a))
 | .neg, .i k a=>K (.i k (k.wrap (0-a)))
 | .xor, .i k a=>K (.i k (bits .xor k (if k.signed then -1 else k.max) a))
 | _,_=>False

def fillP (t:List V):List (Nat×Nat×Opd)->List S->Option (List S)
 | [],z=>some z
 | (off,size,x)::rest,z =>
  let v:=ev t x
  if v.plain&&v.cells.length==size&&decide (off+size<=z.length) then fillP t rest (put z off v.cells) else none

def capsOf (t:List V):List Opd->Option (List (R×Nat))
 | []=>some []
 | x::xs=>match ev t x,capsOf t xs with
  | .s (.p r o),some l=>some ((r,o)::l)
  | _,_=>none

/-! ### lending: the function's own blocks as shared ones of its callee -/
def R.lend (n:Nat):R->R
 | .g k=>.g k
 | .l k=>.g (n+k)
def R.unlend (n:Nat):R->R
 | .g k=>if k<n then .g k else .l (k-n)
 | .l k=>.l k
def S.ren (ρ:R->R):S->S
 | .p r o=>.p (ρ r) o
 | .sl r o a c=>.sl (ρ r) o a c
 | .fn f cs=>.fn f (cs.map fun x=>(ρ x.1,x.2))
 | x=>x
def C.ren (ρ:R->R):C->C
 | .s x=>.s (x.ren ρ)
 | .agg xs=>.agg (xs.map (S.ren ρ))
def V.ren (ρ:R->R):V->V
 | .s x=>.s (x.ren ρ)
 | .agg xs=>.agg (xs.map (S.ren ρ))
 | .tup cs=>.tup (cs.map (C.ren ρ))
def Blk.ren (ρ:R->R) (B:Blk):Blk:={ B with cells:=B.cells.map (S.ren ρ) }

def R.noL:R->Bool
 | .g _=>true
 | .l _=>false
def S.noL:S->Bool
 | .p r _=>r.noL
 | .sl r _ _ _=>r.noL
 | .fn _ cs=>cs.all fun x=>x.1.noL
 | _=>true
def C.noL:C->Bool
 | .s x=>x.noL
 | .agg xs=>xs.all S.noL
def V.noL:V->Bool
 | .s x=>x.noL
 | .agg xs=>xs.all S.noL
 | .tup cs=>cs.all C.noL

def clean (n:Nat) (h:List Blk):Bool:=h.all fun B=>vals n 0 B.cells

abbrev FSpec:=List V->List Blk->(V->List Blk->Prop)->Prop

def callK (Γ:FuncId->FSpec) (f:FuncId) (args:List V) (ls h:List Blk) (K:V->List Blk->List Blk->Prop):Prop :=
 ob (args.all V.known=true)
 (bcase (args.all V.noL) fun q =>
  if q then Γ f args h fun v h'=>K v ls h'
  else Γ f (args.map (V.ren (R.lend h.length))) (h++ls.map (Blk.ren (R.lend h.length))) fun v h' =>
   ob (h.length+ls.length<=h'.length/\clean h.length (h'.take h.length)=true)
    (K (v.ren (R.unlend h.length)) ((h'.drop h.length).map (Blk.ren (R.unlend h.length))) (h'.take h.length)))

/-! ### what names a block of the function's own -/
def R.names (k:Nat):R->Bool
 | .g _=>false
 | .l j=>decide (j=k)
def S.names (k:Nat):S->Bool
 | .p r _=>r.names k
 | .sl r _ _ _=>r.names k
 | .fn _ cs=>cs.any fun x=>x.1.names k
 | _=>false
def C.names (k:Nat):C->Bool
 | .s x=>x.names k
 | .agg xs=>xs.any (S.names k)
def V.names (k:Nat):V->Bool
 | .s x=>x.names k
 | .agg xs=>xs.any (S.names k)
 | .tup cs=>cs.any (C.names k)
def V.kill (k:Nat) (v:V):V:=if v.names k then .s .u else v
def unnamed (k:Nat) (ls:List Blk):Bool:=ls.all fun B=>B.cells.all fun s=>!s.names k

def shows (ls h:List Blk) (esize:Nat):S->Option (Nat×List S)
 | .sl r o n _=>match blk h ls r with
  | some B=>if B.st=.dead\/B.cells.length<o+n*esize then (if n=0 then some (0,[]) else none) else some (n,sub B.cells o (n*esize))
  | none=>none
 | .ns=>some (0,[])
 | .es _ _=>some (0,[])
 | _=>none

def zeros (z:List S):Nat->List S
 | 0=>[]
 | n+1=>z++zeros z n

def bnd (d:Int) (t:List V):Option Opd->Option Int
 | none=>some d
 | some x=>match ev t x with
  | .s (.i _ n)=>some n
  | _=>none

def iwp (Γ:FuncId->FSpec) (op:I) (t:List V) (ls h:List Blk) (K:List V->V->List Blk->List Blk->Prop):Prop :=
 match op with
 | .mv x=>K t (ev t x) ls h
 | .pick c a b=>match ev t c with
  | .s (.b q)=>bcase q fun q=>K t (ev t (if q then a else b)) ls h
  | _=>False
 | .new z=>K t (.s (.p (.l ls.length) 0)) (ls++[⟨.rw,z,z.length⟩]) h
 | .box x=>let v:=ev t x
  ob (v.plain=true) (K t (.s (.p (.l ls.length) 0)) (ls++[⟨.rw,v.cells,v.cells.length⟩]) h)
 | .build z parts=>match fillP t parts z with
  | some z'=>K t (.agg z') ls h
  | none=>False
 | .bsl n z parts=>match fillP t parts z with
  | some z'=>K t (.s (.sl (.l ls.length) 0 n n)) (ls++[⟨.rw,z',z'.length⟩]) h
  | none=>False
 | .ld a n=>match ev t a with
  | .s (.p r o)=>match blk h ls r with
   | some B=>match n with
    | none=>match B.cells[o]? with
     | some s=>ob (B.st≠.dead/\V.known (.s s)=true) (K t (.s s) ls h)
     | none=>False
    | some n=>ob (B.st≠.dead/\o+n<=B.cells.length/\known (sub B.cells o n)=true) (K t (.agg (sub B.cells o n)) ls h)
   | none=>False
  | _=>False
 | .st a x n=>match ev t a with
  | .s (.p r o)=>match blk h ls r with
   | some B=>let v:=ev t x
    ob (B.st=.rw/\v.plain=true/\v.cells.length=n/\o+n<=B.cells.length/\v.cells.all (r.takes h.length ls.length)=true)
     (K t (.tup []) (setL ls r { B with cells:=put B.cells o v.cells }) (setH h r { B with cells:=put B.cells o v.cells }))
   | none=>False
  | _=>False
 | .nil x=>match ev t x with
  | .s (.p r o)=>K t (.s (.p r o)) ls h
  | .s (.fn f cs)=>K t (.s (.fn f cs)) ls h
  | _=>False
 | .bin op x y=>match ev t x,ev t y with
  | .s a, .s b=>bin1 op a b fun s=>K t (.s s) ls h
  | _,_=>False
 | .eqb neg x y=>match ev t x,ev t y with
  | .s (.b a), .s (.b b)=>K t (.s (.b (if neg then !(a==b) else a==b))) ls h
  | _,_=>False
 | .eqa neg ks x y=>match ev t x,ev t y with
  | .agg xs, .agg ys=>ob (cmpS ks xs ys=true) (K t (.s (.b (if neg then !eqS xs ys else eqS xs ys))) ls h)
  | _,_=>False
 | .eqn isSl neg x=>match ev t x with
  | .s a=>match isNil isSl a with
   | some q=>K t (.s (.b (if neg then !q else q))) ls h
   | none=>False
  | _=>False
 | .un op x=>match ev t x with
  | .s a=>un1 op a fun s=>K t (.s s) ls h
  | _=>False
 | .conv k x=>match ev t x with
  | .s (.i _ n)=>K t (.s (.i k (k.wrap n))) ls h
  | _=>False
 | .mkf f caps=>match capsOf t caps with
  | some cs=>K t (.s (.fn f cs)) ls h
  | none=>False
 | .mks esize bytes z x y=>match ev t x,ev t y with
  | .s (.i _ n), .s (.i _ c)=>ob (0<=n/\n<=c/\c<=2^40/\bytes*c<=2^48/\z.length=esize)
    (K t (.s (.sl (.l ls.length) 0 n.toNat c.toNat)) (ls++[⟨.rw,zeros z c.toNat,(zeros z c.toNat).length⟩]) h)
  | _,_=>False
 | .slc arr esize x lo hi =>
  let go (r:R) (o len cap:Nat):Prop :=
   match bnd 0 t lo,bnd len t hi with
   | some l,some u=>ob (0<=l/\l<=u/\u<=cap)
     (K t (.s (.sl r (if cap=l.toNat then o else o+l.toNat*esize) (u.toNat-l.toNat) (cap-l.toNat))) ls h)
   | _,_=>False
  match arr,ev t x with
  | some n, .s (.p r o)=>go r o n n
  | none, .s (.sl r o n c)=>go r o n c
  | none, .s .ns=>match bnd 0 t lo,bnd 0 t hi with
   | some l,some u=>ob (l=0/\u=0) (K t (.s .ns) ls h)
   | _,_=>False
  | _,_=>False
 | .fa x off=>match ev t x with
  | .s (.p r o)=>K t (.s (.p r (o+off))) ls h
  | _=>False
 | .fld x off n=>match ev t x with
  | .agg xs=>match n with
   | none=>match xs[off]? with
    | some s=>K t (.s s) ls h
    | none=>False
   | some n=>ob (off+n<=xs.length) (K t (.agg (sub xs off n)) ls h)
  | _=>False
 | .ia arr esize x i=>match ev t i with
  | .s (.i _ i)=>match arr,ev t x with
   | some n, .s (.p r o)=>ob (0<=i/\i<n) (K t (.s (.p r (o+i.toNat*esize))) ls h)
   | none, .s (.sl r o n _)=>ob (0<=i/\i<n) (K t (.s (.p r (o+i.toNat*esize))) ls h)
   | _,_=>False
  | _=>False
 | .ix len esize n x i=>match ev t x,ev t i with
  | .agg xs, .s (.i _ i)=>ob (0<=i/\i<len)
   (match n with
   | none=>match xs[i.toNat*esize]? with
    | some s=>K t (.s s) ls h
    | none=>False
   | some n=>ob (i.toNat*esize+n<=xs.length) (K t (.agg (sub xs (i.toNat*esize) n)) ls h))
  | _,_=>False
 | .ext x j=>match ev t x with
  | .tup cs=>match cs[j]? with
   | some c=>K t c.v ls h
   | none=>False
  | _=>False
 | .call f args=>callK Γ f (args.map (ev t)) ls h fun v ls' h'=>K t v ls' h'
 | .callv f args=>match ev t f with
  | .s (.fn g cs)=>callK Γ g (args.map (ev t)++cs.map fun x=>.s (.p x.1 x.2)) ls h fun v ls' h'=>K t v ls' h'
  | _=>False
 | .len x=>match ev t x with
  | .s (.sl _ _ n _)=>K t (.s (.i .i64 n)) ls h
  | .s .ns=>K t (.s (.i .i64 0)) ls h
  | .s (.es _ _)=>K t (.s (.i .i64 0)) ls h
  | _=>False
 | .app esize bytes x y=>match ev t x,ev t y with
  | .s b, .s y=>match shows ls h esize y with
   | some (n,new)=>ob (known new=true/\0<esize) (match b with
    | .ns=>ob (n*bytes<=2^47/\0<n/\vals h.length ls.length new=true) (∀ c,n<=c->K t (.s (.sl (.l ls.length) 0 n c)) (ls++[⟨.rw,new,c*esize⟩]) h)
    | .sl (.l k) 0 len cap=>match ls[k]? with
     | some B=>ob (B.st=.rw/\B.cells.length=len*esize/\cap*esize<=B.room/\(len+n)*bytes<=2^47/\known B.cells=true/\vals h.length ls.length new=true)
       (bcase (unnamed k ls&&new.all (fun s=>!s.names k)) fun q=>if q=true
        then ∀ c,len+n<=c->K (t.map (V.kill k)) (.s (.sl (.l k) 0 (len+n) c)) (ls.set k ⟨.rw,B.cells++new,c*esize⟩) h
        else ∀ c,len+n<=c->K t (.s (.sl (.l ls.length) 0 (len+n) c)) (ls.set k ⟨.dead,B.cells,B.room⟩++[⟨.rw,B.cells++new,c*esize⟩]) h)
     | none=>False
    | _=>False)
   | none=>False
  | _,_=>False
 | .cpy esize x y=>match ev t x,ev t y with
  | .s x, .s y=>match shows ls h esize y with
   | some (n,src)=>match x with
    | .sl r o len _=>match blk h ls r with
     | some B=>ob (B.st=.rw/\o+len*esize<=B.cells.length/\known src=true/\(sub src 0 (min n len*esize)).all (r.takes h.length ls.length)=true)
       (K t (.s (.i .i64 (min n len:Nat))) (setL ls r { B with cells:=put B.cells o (sub src 0 (min n len*esize)) })
        (setH h r { B with cells:=put B.cells o (sub src 0 (min n len*esize)) }))
     | none=>False
    | .ns=>ob (known src=true) (K t (.s (.i .i64 0)) ls h)
    | _=>False
   | none=>False
  | _,_=>False
 | .mx isMax x y=>match ev t x,ev t y with
  | .s (.i k a), .s (.i _ b)=>K t (.s (.i k (if isMax then (if b > a then b else a) else (if b<a then b else a)))) ls h
  | _,_=>False

def gwp (Γ:FuncId->FSpec) (x:GI) (t:List V) (ls h:List Blk) (K:List V->List Blk->List Blk->Prop):Prop :=
 match x.g with
 | none=>iwp Γ x.op t ls h fun t v ls h=>K (putD t x.dst v) ls h
 | some (j,want)=>match t.getD j (.tup []) with
  | .s (.b q)=>bcase q fun q =>
   if (q==want)=true then iwp Γ x.op (t.set j (.s (.b q))) ls h fun t v ls h=>K (putD t x.dst v) ls h
   else K (putD (t.set j (.s (.b q))) x.dst (.tup [])) ls h
  | .tup []=>K (putD t x.dst (.tup [])) ls h
  | _=>False

def rwp (Γ:FuncId->FSpec):List GI->List V->List Blk->List Blk->(List V->List Blk->List Blk->Prop)->Prop
 | [],t,ls,h,K=>K t ls h
 | x::rest,t,ls,h,K=>gwp Γ x t ls h fun t ls h=>rwp Γ rest t ls h K

def qwp (Γ:FuncId->FSpec) (op:I) (t:List V) (ls h:List Blk) (K:V->Prop):Prop :=
 match op with
 | .call f args=>ob ((args.map (ev t)).all V.known=true/\(args.map (ev t)).all V.noL=true) (∃ v:V,v.val 0 0=true/\Γ f (args.map (ev t)) h (fun v' h'=>v'=v/\h'=h)/\K v)
 | .callv f args=>match ev t f with
  | .s (.fn g cs)=>ob ((args.map (ev t)++cs.map fun x=>V.s (.p x.1 x.2)).all V.known=true/\(args.map (ev t)++cs.map fun x=>V.s (.p x.1 x.2)).all V.noL=true)
    (∃ v:V,v.val 0 0=true/\Γ g (args.map (ev t)++cs.map fun x=>V.s (.p x.1 x.2)) h (fun v' h'=>v'=v/\h'=h)/\K v)
  | _=>False
 | op=>iwp Γ op t ls h fun _ v _ _=>K v

def gqwp (Γ:FuncId->FSpec) (x:GI) (t:List V) (ls h:List Blk) (K:List V->Prop):Prop :=
 match x.g with
 | none=>qwp Γ x.op t ls h fun v=>K (putD t x.dst v)
 | some (j,want)=>match t.getD j (.tup []) with
  | .s (.b q)=>bcase q fun q =>
   if (q==want)=true then qwp Γ x.op (t.set j (.s (.b q))) ls h fun v=>K (putD (t.set j (.s (.b q))) x.dst v)
   else K (putD (t.set j (.s (.b q))) x.dst (.tup []))
  | .tup []=>K (putD t x.dst (.tup []))
  | _=>False

def rqwp (Γ:FuncId->FSpec):List GI->List V->List Blk->List Blk->(List V->Prop)->Prop
 | [],t,_,_,K=>K t
 | x::rest,t,ls,h,K=>gqwp Γ x t ls h fun t=>rqwp Γ rest t ls h K

def mwp (Γ:FuncId->FSpec):List (Bool×GI)->List V->List Blk->List Blk->(List V->List Blk->List Blk->Prop)->Prop
 | [],t,ls,h,K=>K t ls h
 | (true,x)::rest,t,ls,h,K=>gqwp Γ x t ls h fun t=>mwp Γ rest t ls h K
 | (false,x)::rest,t,ls,h,K=>gwp Γ x t ls h fun t ls h=>mwp Γ rest t ls h K

def xwp (Γ:FuncId->FSpec):XC->List V->List Blk->List Blk->(List V->List Blk->List Blk->Prop)->Prop
 | .done,t,ls,h,K=>K t ls h
 | .tk true x r,t,ls,h,K=>gqwp Γ x t ls h fun t=>xwp Γ r t ls h K
 | .tk false x r,t,ls,h,K=>gwp Γ x t ls h fun t ls h=>xwp Γ r t ls h K
 | .both a b,t,ls,h,K=>xwp Γ a t ls h K/\xwp Γ b t ls h K

structure St where
 t:List V
 ls:List Blk
 h:List Blk

inductive Ex where
 | nrm
 | ext (id:Nat)
 | ret

structure WkBy (n0:Nat) (ρ:R->R) (s s':St):Prop where
 len:n0<=s'.h.length
 old:∀ k,k<n0->ρ (.g k)=.g k
 new:∀ k,n0<=k->k<s'.h.length->(∃ j,n0<=j/\ρ (.g k)=.g j)\/∃ j B, ρ (.g k)=.l j/\s.ls[j]?=some B/\B.st=.rw
 inj:∀ r r',r.val s'.h.length s'.ls.length=true->r'.val s'.h.length s'.ls.length=true->ρ r=ρ r'->r=r'
 blks:∀ r B',blk s'.h s'.ls r=some B'->blk s.h s.ls (ρ r)=some (B'.ren ρ)
 gval:∀ B,B∈s'.h->vals s'.h.length 0 B.cells=true
 lval:∀ B,B∈s'.ls->vals s'.h.length s'.ls.length B.cells=true
 size:s'.t.length=s.t.length
 temps:∀ (i:Nat) (v':V),s'.t[i]?=some v'->v'.val s'.h.length s'.ls.length=true/\(v'=.s .u\/s.t[i]?=some (v'.ren ρ))

def R.below (m:Nat):R->Bool
 | .g _=>true
 | .l k=>decide (k<m)
def S.below (m:Nat):S->Bool
 | .p r _=>r.below m
 | .sl r _ _ _=>r.below m
 | .fn _ cs=>cs.all fun x=>x.1.below m
 | _=>true
def C.below (m:Nat):C->Bool
 | .s x=>x.below m
 | .agg xs=>xs.all (S.below m)
def V.below (m:Nat):V->Bool
 | .s x=>x.below m
 | .agg xs=>xs.all (S.below m)
 | .tup cs=>cs.all (C.below m)

def leT:List V->List V->Prop
 | [],[]=>True
 | v'::t',v::t=>(v'=.s .u\/v'=v)/\leT t' t
 | _,_=>False

inductive Wk (n0:Nat):St->St->Prop where
 | refl {s:St}:Wk n0 s s
 | by_ (ρ:R->R) {s s':St} (h:WkBy n0 ρ s s'):Wk n0 s s'
 | cut {t t':List V} {ls h:List Blk} (junk:List Blk) (ht:leT t' t) (hb:t'.all (V.below ls.length)=true) (hl:ls.all (fun B=>B.cells.all (S.below ls.length))=true):Wk n0 ⟨t,ls++junk,h⟩ ⟨t',ls,h⟩
 | less {t t':List V} {ls h:List Blk} (ht:leT t' t):Wk n0 ⟨t,ls,h⟩ ⟨t',ls,h⟩
 | trans {s s1 s2:St} (h:Wk n0 s s1) (h':Wk n0 s1 s2):Wk n0 s s2

inductive RV where
 | t (i:Nat)
 | c (a:Nat) (n:Option Nat)

def rval (s:St):RV->Option C
 | .t i=>match s.t.getD i (.tup []) with
  | .s x=>some (.s x)
  | .agg xs=>some (.agg xs)
  | .tup _=>none
 | .c a n=>match s.t.getD a (.tup []) with
  | .s (.p r o)=>match blk s.h s.ls r with
   | some B=>if B.st=.dead then none else match n with
    | none=>(B.cells[o]?).map C.s
    | some n=>if o+n<=B.cells.length then some (.agg (sub B.cells o n)) else none
   | none=>none
  | _=>none

def rvals (s:St):List RV->Option (List C)
 | []=>some []
 | r::rs=>match rval s r,rvals s rs with
  | some c,some l=>some (c::l)
  | _,_=>none

def result:List C->V
 | [c]=>c.v
 | l=>.tup l

def R.prom (n:Nat) (keep:List Nat):R->R
 | .g k=>.g k
 | .l k=>.g (n+keep.idxOf k)
def R.kept (keep:List Nat):R->Bool
 | .g _=>true
 | .l k=>keep.contains k
def S.kept (keep:List Nat):S->Bool
 | .p r _=>r.kept keep
 | .sl r _ _ _=>r.kept keep
 | .fn _ cs=>cs.all fun x=>x.1.kept keep
 | _=>true
def C.kept (keep:List Nat):C->Bool
 | .s x=>x.kept keep
 | .agg xs=>xs.all (S.kept keep)
def V.kept (keep:List Nat):V->Bool
 | .s x=>x.kept keep
 | .agg xs=>xs.all (S.kept keep)
 | .tup cs=>cs.all (C.kept keep)

def getAll (ls:List Blk):List Nat->Option (List Blk)
 | []=>some []
 | k::ks=>match ls[k]?,getAll ls ks with
  | some B,some l=>some (B::l)
  | _,_=>none

def leave (v:V) (ls h:List Blk) (K:V->List Blk->Prop):Prop :=
 ob (v.known=true)
 (bcase v.noL fun q =>
  if q then K v h
  else ∃ keep:List Nat,keep.Nodup/\v.kept keep=true/\match getAll ls keep with
   | some l=>ob (l.all (fun B=>decide (B.st=.rw)&&B.cells.all (S.kept keep))=true) (K (v.ren (R.prom h.length keep)) (h++l.map (Blk.ren (R.prom h.length keep))))
   | none=>False)

structure DF where
 ntmps:Nat
 body:DC
 res:List RV

end Go.D

