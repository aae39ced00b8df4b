/- Soundness: calls,regions,code,functions. -/
import Derived.Test.YtcdfofeolgbnbaaGreatZ4
/- Calls: what a callee does to the shared blocks,seen from its caller. -/
namespace Go.D
set_option linter.all false
variable [Tabs]

def FnOk (P:Program) (f:FuncId):Prop:=∃ fn,P.funcs[f]?=some fn/\fn.body.isSome=true/\(fn.name=="runtime.NumGoroutine")=false

def OkP (P:Program):Prop:=P.follows .mixedOrders=true/\Tabs.prog=P

def Snd (P:Program) (f:FuncId) (S:FSpec):Prop :=
 ∀ (σ:Sg) (h:List Blk) (w:World) (args:List V) (K:V->List Blk->Prop),Sim σ h [] w->Gl σ h w->args.all (V.val h.length 0)=true->args.all V.known=true->S args h K ->
  Calls P f (args.map (V.tr σ)).toArray w fun e w'=>∃ (v:V) (h':List Blk) (σ':Sg),e=.returned (v.tr σ')/\v.known=true/\v.val h'.length 0=true/\Inv σ h w σ' h' [] w'/\K v h'

def SndΓ (P:Program) (Γ:FuncId->FSpec):Prop:=∀ f args h K, Γ f args h K->FnOk P f/\Snd P f (Γ f)

theorem Sim.glob {σ:Sg} {h ls:List Blk} {w:World} (H:Sim σ h ls w):Sim σ h [] w:=by
 refine ⟨fun r B hb=>?_,fun r r' B B' hb hb'=>?_,H.gval,fun B hB=>by cases hB⟩
 ·cases r with
  | g k=>exact H.ok (.g k) B hb
  | l k=>simp [blk] at hb
 ·cases r with
  | g k =>
   cases r' with
   | g k'=>exact H.sep (.g k) (.g k') B B' hb hb'
   | l k'=>simp [blk] at hb'
  | l k=>simp [blk] at hb

theorem R.val_noL {n m:Nat} {r:R} (h:r.val n m=true) (h':r.noL=true):r.val n 0=true:=by
 cases r with
 | g k=>exact h
 | l k=>simp [R.noL] at h'
theorem S.val_noL {n m:Nat} {s:S} (h:s.val n m=true) (h':s.noL=true):s.val n 0=true:=by
 cases s with
 | p r o=>exact R.val_noL h h'
 | sl r o a c=>exact R.val_noL h h'
 | fn f cs=>simp only [S.val,S.noL,List.all_eq_true] at *; exact fun x hx=>R.val_noL (h x hx) (h' x hx)
 | _=>rfl
theorem vals_noL {n m:Nat} {xs:List S} (h:vals n m xs=true) (h':xs.all S.noL=true):vals n 0 xs=true:=by
 simp only [vals,List.all_eq_true] at *; exact fun x hx=>S.val_noL (h x hx) (h' x hx)
theorem C.val_noL {n m:Nat} {c:C} (h:c.val n m=true) (h':c.noL=true):c.val n 0=true:=by
 cases c with
 | s x=>exact S.val_noL h h'
 | agg xs=>exact vals_noL h h'
theorem V.val_noL {n m:Nat} {v:V} (h:v.val n m=true) (h':v.noL=true):v.val n 0=true:=by
 cases v with
 | s x=>exact S.val_noL h h'
 | agg xs=>exact vals_noL h h'
 | tup cs=>simp only [V.val,V.noL,List.all_eq_true] at *; exact fun x hx=>C.val_noL (h x hx) (h' x hx)

def mix (σ σ1:Sg):Sg:=fun r=>match r with
 | .g k=>σ1 (.g k)
 | .l k=>σ (.l k)

theorem mix_agree0 (σ σ1:Sg) (n:Nat):Agree n 0 σ1 (mix σ σ1):=by
 intro r hr
 cases r with
 | g k=>rfl
 | l k=>simp [R.val] at hr

section
variable {σ0:Sg} {h0:List Blk} {w0:Base} {σ:Sg} {h ls:List Blk} {w:World} {σ1:Sg} {h1:List Blk} {w1:World}

theorem mix_agree {B1:Base} {ls1:List Blk} (H1:Inv σ h B1 σ1 h1 ls1 w1) (m:Nat):Agree h.length m σ (mix σ σ1):=by
 intro r hr
 cases r with
 | g k=>exact H1.old k (by simpa [R.val] using hr)
 | l k=>rfl

theorem Inv.cellG (H:Inv σ0 h0 w0 σ h ls w) {x:Nat×Nat×Value} (hx:x∈Tabs.cells):w.cell? ⟨x.1,x.2.1,none⟩=some x.2.2/\x.1<w.heap.size/\∀ r B,blk h ls r=some B->B.st=.rw->(σ r).1≠x.1:=by
 obtain ⟨g1,g2,g3⟩:=H.gl.1 x hx
 have e:=H.kept.keep x.1 (H.gl.2.1 x hx) g3
 refine ⟨?_,Nat.lt_of_lt_of_le g2 H.kept.same.size,fun r B hb hst=>?_⟩
 ·rw [<-g1]; exact cell?_block (a:=⟨x.1,x.2.1,none⟩) e
 ·rcases H.mine r B hb hst with ⟨k,B0,rfl,hk,hB0⟩|hge
  ·rw [H.old k (List.getElem?_eq_some_iff.1 hk).1]
   exact g3 k B0 hk hB0
  ·exact fun e=>hge (e ▸ H.gl.2.1 x hx)
theorem Inv.glb (H:Inv σ0 h0 w0 σ h ls w):Gl σ h w:=fun x hx=>by
 obtain ⟨g1,g2,g3⟩:=H.cellG hx
 exact ⟨g1,g2,fun k B hb hst=>g3 (.g k) B hb hst⟩
theorem Inv.own_lt (H:Inv σ0 h0 w0 σ h ls w) (k:Nat) (B:Blk) (hb:ls[k]?=some B) (hd:B.st≠.dead):(σ (.l k)).1<w.heap.size:=by
 have:=H.sim.ok (.l k) B hb
 unfold OkBlk at this
 cases hst:B.st with
 | dead=>exact absurd hst hd
 | ro=>rw [hst] at this; exact this.1
 | rw=>rw [hst] at this; exact this.1
theorem Inv.other (H:Inv σ0 h0 w0 σ h ls w) {B1:Base} {ls1:List Blk} (hB:B1.w=w) (hp:∀ k B,ls[k]?=some B->B.st≠.dead->B1.pt (σ (.l k)).1) (hq:∀ b,w0.pt b->B1.pt b) (H1:Inv σ h B1 σ1 h1 ls1 w1):Inv σ0 h0 w0 (mix σ σ1) h1 ls w1:=by
 have hsz:w.heap.size<=w1.heap.size:=by rw [<-hB]; exact H1.kept.same.size
 have hold:∀ k,k<h.length->mix σ σ1 (.g k)=σ (.g k):=fun k hk=>H1.old k hk
 have hkeep:∀ k B,ls[k]?=some B->B.st≠.dead->w1.heap[(σ (.l k)).1]?=w.heap[(σ (.l k)).1]?:=fun k B hb hd=>by
  rw [<-hB]
  refine H1.kept.keep _ (hp k B hb hd) (fun j B' hj hrw=>?_)
  exact H.sim.sep (.g j) (.l k) B' B hj hb (by simp) hrw hd
 refine ⟨⟨?_, ?_, ?_, ?_⟩,⟨H.kept.same.trans (by rw [<-hB]; exact H1.kept.same), ?_⟩,Nat.le_trans H.len H1.len, ?_, ?_, ?_, ?_,H.gl⟩
 ·intro r B hb
  cases r with
  | g k =>
   refine (H1.sim.ok (.g k) B hb).move (n:=h1.length) (m:=0) rfl (mix_agree0 σ σ1 _) (H1.sim.gval B (List.mem_of_getElem? hb)) (Nat.le_refl _) (fun _=>rfl)
  | l k =>
   refine (H.sim.ok (.l k) B hb).move (n:=h.length) (m:=ls.length) rfl (mix_agree H1 _) (H.sim.lval B (List.mem_of_getElem? hb)) hsz (hkeep k B hb)
 ·intro r r' B B' hb hb' hne hst hd
  cases r with
  | g k =>
   cases r' with
   | g k'=>exact H1.sim.sep (.g k) (.g k') B B' hb hb' hne hst hd
   | l k' =>
    have hl:=hp k' B' hb' hd
    show (σ1 (.g k)).1≠(σ (.l k')).1
    rcases H1.mine (.g k) B hb hst with ⟨j,B0,e,hj,hB0⟩|hge
    ·cases e
     have hjl:k<h.length:=(List.getElem?_eq_some_iff.1 hj).1
     rw [H1.old k hjl]
     exact H.sim.sep (.g k) (.l k') B0 B' hj hb' hne hB0 hd
    ·exact fun e=>hge (e ▸ hl)
  | l k =>
   cases r' with
   | g k' =>
    have hl:=hp k B hb (by rw [hst]; simp)
    show (σ (.l k)).1≠(σ1 (.g k')).1
    by_cases hk':k'<h.length
    ·obtain ⟨B0,hB0⟩:∃ B0,h[k']?=some B0:=⟨_,List.getElem?_eq_getElem hk'⟩
     rw [H1.old k' hk']
     exact H.sim.sep (.l k) (.g k') B B0 hb hB0 hne hst (H1.live k' B0 B' hB0 hb' hd)
    ·have:=H1.new k' B' (by omega) hb' hd
     exact fun e=>this (e ▸ hl)
   | l k'=>exact H.sim.sep (.l k) (.l k') B B' hb hb' hne hst hd
 ·exact H1.sim.gval
 ·exact fun B hB=>vals_mono H1.len (Nat.le_refl _) (H.sim.lval B hB)
 ·intro b hlt hno
  rw [H1.kept.keep b (hq b hlt) (fun k B hk hrw=>(H.outside (r:=.g k) hk hrw hlt hno).symm),hB]
  exact H.kept.keep b hlt hno
 ·intro k hk; rw [hold k (by have:=H.len; omega)]; exact H.old k hk
 ·intro r B hb hst
  cases r with
  | g k =>
   rcases H1.mine (.g k) B hb hst with ⟨j,B0,e,hj,hB0⟩|hge
   ·cases e
    have hjl:k<h.length:=(List.getElem?_eq_some_iff.1 hj).1
    rcases H.mine (.g k) B0 hj hB0 with h2|h2
    ·exact .inl h2
    ·right; rw [hold k hjl]; exact h2
   ·exact .inr fun e=>hge (hq _ e)
  | l k=>exact H.mine (.l k) B hb hst
 ·intro k X hk hX hd
  by_cases hkh:k<h.length
  ·obtain ⟨Y,hY⟩:∃ Y,h[k]?=some Y:=⟨_,List.getElem?_eq_getElem hkh⟩
   rw [hold k hkh]; exact H.new k Y hk hY (H1.live k Y X hY hX hd)
  ·have:=H1.new k X (by omega) hX hd
   exact fun e=>this (hq _ e)
 ·intro k B0 B hk0 hk hd
  have hk0l:k<h0.length:=(List.getElem?_eq_some_iff.1 hk0).1
  obtain ⟨Bm,hBm⟩:∃ Bm,h[k]?=some Bm:=⟨_,List.getElem?_eq_getElem (by have:=H.len; omega)⟩
  exact H.live k B0 Bm hk0 hBm (H1.live k Bm B hBm hk hd)
theorem Inv.call (H:Inv σ0 h0 w0 σ h ls w) (H1:Inv σ h w σ1 h1 [] w1):Inv σ0 h0 w0 (mix σ σ1) h1 ls w1 :=
 H.other rfl H.own_lt (fun b hb=>Nat.lt_of_lt_of_le (w0.lt b hb) H.kept.same.size) H1

/-! ### lending -/
def lendS (σ:Sg) (n:Nat):Sg:=fun r=>match r with
 | .g k=>if k<n then σ (.g k) else σ (.l (k-n))
 | .l k=>σ (.l k)

theorem Inv.glend (H:Inv σ0 h0 w0 σ h ls w):Gl (lendS σ h.length) (h++ls.map (Blk.ren (R.lend h.length))) w:=fun x hx=>by
 obtain ⟨g1,g2,g3⟩:=H.cellG hx
 refine ⟨g1,g2,fun k B hb hst=>?_⟩
 by_cases hk:k<h.length
 ·rw [List.getElem?_append_left hk] at hb
  simp only [lendS,if_pos hk]
  exact g3 (.g k) B hb hst
 ·rw [List.getElem?_append_right (by omega),List.getElem?_map] at hb
  cases hB:ls[k-h.length]? with
  | none=>simp [hB] at hb
  | some B0 =>
   simp only [hB,Option.map_some,Option.some.injEq] at hb
   simp only [lendS,if_neg hk]
   exact g3 (.l (k-h.length)) B0 hB (by rw [<-hb] at hst; exact hst)
theorem lendS_lend {n m:Nat} {r:R} (hv:r.val n m=true):lendS σ n (r.lend n)=σ r:=by
 cases r with
 | g k=>simp only [R.val,decide_eq_true_eq] at hv; simp [R.lend,lendS,hv]
 | l k=>simp only [R.lend,lendS,if_neg (by omega:¬ n+k<n)]; congr 2; omega

theorem S.tr_ren {ρ:R->R} {τ:Sg} {s:S} (hr:∀ r,(∃ o,s=.p r o)\/(∃ o a c,s=.sl r o a c)\/(∃ f cs,s=.fn f cs/\∃ o,(r,o)∈cs)->τ (ρ r)=σ r):(s.ren ρ).tr τ=s.tr σ:=by
 cases s with
 | p r o=>simp only [S.ren,S.tr,adr,hr r (.inl ⟨o,rfl⟩)]
 | sl r o a c=>simp only [S.ren,S.tr,adr,hr r (.inr (.inl ⟨o,a,c,rfl⟩))]
 | fn f cs =>
  simp only [S.ren,S.tr,List.map_map]
  congr 2
  refine List.map_congr_left fun x hx=>?_
  simp only [Function.comp,adr,hr x.1 (.inr (.inr ⟨f,cs,rfl,x.2,hx⟩))]
 | _=>rfl

def Keeps (σ τ:Sg) (ρ:R->R) (n m:Nat):Prop:=∀ r,r.val n m=true->τ (ρ r)=σ r

theorem S.tr_keeps {τ:Sg} {ρ:R->R} {n m:Nat} (hk:Keeps σ τ ρ n m) {s:S} (hv:s.val n m=true):(s.ren ρ).tr τ=s.tr σ:=by
 refine S.tr_ren (fun r hr=>hk r ?_)
 rcases hr with ⟨o,rfl⟩|⟨o,a,c,rfl⟩|⟨f,cs,rfl,o,ho⟩
 ·exact hv
 ·exact hv
 ·simp only [S.val,List.all_eq_true] at hv; exact hv _ ho
theorem trs_keeps {τ:Sg} {ρ:R->R} {n m:Nat} (hk:Keeps σ τ ρ n m) {xs:List S} (hv:vals n m xs=true):trs τ (xs.map (S.ren ρ))=trs σ xs:=by
 simp only [vals,List.all_eq_true] at hv
 simp only [trs,List.map_map]; congr 1
 exact List.map_congr_left fun x hx=>S.tr_keeps hk (hv x hx)
theorem C.tr_keeps {τ:Sg} {ρ:R->R} {n m:Nat} (hk:Keeps σ τ ρ n m) {c:C} (hv:c.val n m=true):(c.ren ρ).tr τ=c.tr σ:=by
 cases c with
 | s x=>exact S.tr_keeps hk hv
 | agg xs=>simp only [C.ren,C.tr,trs_keeps hk hv]
theorem V.tr_keeps {τ:Sg} {ρ:R->R} {n m:Nat} (hk:Keeps σ τ ρ n m) {v:V} (hv:v.val n m=true):(v.ren ρ).tr τ=v.tr σ:=by
 cases v with
 | s x=>exact S.tr_keeps hk hv
 | agg xs=>simp only [V.ren,V.tr,trs_keeps hk hv]
 | tup cs =>
  simp only [V.val,List.all_eq_true] at hv
  simp only [V.ren,V.tr,List.map_map]; congr 2
  exact List.map_congr_left fun x hx=>C.tr_keeps hk (hv x hx)

def Vals (ρ:R->R) (n m n' m':Nat):Prop:=∀ r:R,r.val n m=true->(ρ r).val n' m'=true
theorem S.val_ren {ρ:R->R} {n m n' m':Nat} (hk:Vals ρ n m n' m') {s:S} (hv:s.val n m=true):(s.ren ρ).val n' m'=true:=by
 cases s with
 | p r o=>exact hk r hv
 | sl r o a c=>exact hk r hv
 | fn f cs=>simp only [S.ren,S.val,List.all_map,List.all_eq_true] at *; exact fun x hx=>hk x.1 (hv x hx)
 | _=>rfl
theorem vals_ren {ρ:R->R} {n m n' m':Nat} (hk:Vals ρ n m n' m') {xs:List S} (hv:vals n m xs=true):vals n' m' (xs.map (S.ren ρ))=true:=by
 simp only [vals,List.all_map,List.all_eq_true] at *; exact fun x hx=>S.val_ren hk (hv x hx)
theorem C.val_ren {ρ:R->R} {n m n' m':Nat} (hk:Vals ρ n m n' m') {c:C} (hv:c.val n m=true):(c.ren ρ).val n' m'=true:=by
 cases c with
 | s x=>exact S.val_ren hk hv
 | agg xs=>exact vals_ren hk hv
theorem V.val_ren {ρ:R->R} {n m n' m':Nat} (hk:Vals ρ n m n' m') {v:V} (hv:v.val n m=true):(v.ren ρ).val n' m'=true:=by
 cases v with
 | s x=>exact S.val_ren hk hv
 | agg xs=>exact vals_ren hk hv
 | tup cs=>simp only [V.ren,V.val,List.all_map,List.all_eq_true] at *; exact fun x hx=>C.val_ren hk (hv x hx)

theorem lend_keeps (n m:Nat):Keeps σ (lendS σ n) (R.lend n) n m:=fun _ hr=>lendS_lend hr
theorem lend_vals (n m:Nat):Vals (R.lend n) n m (n+m) 0:=by
 intro r hr
 cases r<;>simp only [R.val,R.lend,decide_eq_true_eq] at*<;> omega

theorem OkBlk.ren {τ:Sg} {r r':R} {B:Blk} {ρ:R->R} (h:OkBlk σ w r B) (hr:τ r'=σ r) (htr:∀ s∈B.cells,(s.ren ρ).tr τ=s.tr σ):OkBlk τ w r' (B.ren ρ):=by
 unfold OkBlk at *
 have hadr:∀ i,adr τ r' i=adr σ r i:=fun i=>by simp [adr,hr]
 have hH:Holds σ w r B.cells->Holds τ w r' (B.cells.map (S.ren ρ)):=fun hH i s hi hu=>by
  rw [List.getElem?_map] at hi
  cases hs:B.cells[i]? with
  | none=>simp [hs] at hi
  | some s0 =>
   simp only [hs,Option.map_some,Option.some.injEq] at hi
   subst hi
   rw [hadr,htr s0 (List.mem_of_getElem? hs)]
   exact hH i s0 hs (by rintro rfl; exact hu rfl)
 cases hst:B.st with
 | dead=>simp only [Blk.ren,hst]
 | ro=>simp only [Blk.ren,hst] at *; rw [hr]; exact ⟨h.1,hH h.2⟩
 | rw =>
  simp only [Blk.ren,hst] at *
  rw [hr]
  refine ⟨h.1,hH h.2.1,by simpa using h.2.2.1,fun i hi=>?_⟩
  rw [hadr]; exact h.2.2.2 i hi

theorem Sim.lend (H:Sim σ h ls w):Sim (lendS σ h.length) (h++ls.map (Blk.ren (R.lend h.length))) [] w:=by
 have hlen:(h++ls.map (Blk.ren (R.lend h.length))).length=h.length+ls.length:=by simp
 have hget:∀ k B,(h++ls.map (Blk.ren (R.lend h.length)))[k]?=some B->(k<h.length/\h[k]?=some B)\/(h.length<=k/\∃ B0,ls[k-h.length]?=some B0/\B=B0.ren (R.lend h.length)):=fun k B hb=>by
  by_cases hk:k<h.length
  ·rw [List.getElem?_append_left hk] at hb; exact .inl ⟨hk,hb⟩
  ·rw [List.getElem?_append_right (by omega),List.getElem?_map] at hb
   cases hB:ls[k-h.length]? with
   | none=>simp [hB] at hb
   | some B0=>simp only [hB,Option.map_some,Option.some.injEq] at hb; exact .inr ⟨by omega,B0,rfl,hb.symm⟩
 refine ⟨fun r B hb=>?_,fun r r' B B' hb hb' hne hst hd=>?_,fun B hB=>?_,fun B hB=>by cases hB⟩
 ·cases r with
  | l k=>simp [blk] at hb
  | g k =>
   rcases hget k B hb with ⟨hk,hb2⟩|⟨hk,B0,hb2,rfl⟩
   ·have hv:=H.gval B (List.mem_of_getElem? hb2)
    refine (H.ok (.g k) B hb2).move (n:=h.length) (m:=0) (by simp [lendS,hk]) ?_ hv (Nat.le_refl _) (fun _=>rfl)
    intro r hr
    cases r with
    | g j=>simp only [R.val,decide_eq_true_eq] at hr; simp [lendS,hr]
    | l j=>simp [R.val] at hr
   ·have hv:=H.lval B0 (List.mem_of_getElem? hb2)
    refine (H.ok (.l (k-h.length)) B0 hb2).ren (by simp only [lendS,if_neg (by omega:¬ k<h.length)]) (fun s hs=>?_)
    simp only [vals,List.all_eq_true] at hv
    exact S.tr_keeps (lend_keeps _ _) (hv s hs)
 ·cases r with
  | l k=>simp [blk] at hb
  | g k =>
   cases r' with
   | l k'=>simp [blk] at hb'
   | g k' =>
    have hkk:k≠k':=fun e=>hne (by rw [e])
    rcases hget k B hb with ⟨hk,hb2⟩|⟨hk,B0,hb2,rfl⟩<;>rcases hget k' B' hb' with ⟨hk',hb2'⟩|⟨hk',B0',hb2',rfl⟩
    ·simp only [lendS,hk,hk',if_true]; exact H.sep (.g k) (.g k') B B' hb2 hb2' hne hst hd
    ·simp only [lendS,hk,if_true,if_neg (by omega:¬ k'<h.length)]; exact H.sep (.g k) (.l _) B B0' hb2 hb2' (by simp) hst hd
    ·simp only [lendS,hk',if_true,if_neg (by omega:¬ k<h.length)]; exact H.sep (.l _) (.g k') B0 B' hb2 hb2' (by simp) hst hd
    ·simp only [lendS,if_neg (by omega:¬ k<h.length),if_neg (by omega:¬ k'<h.length)]
     exact H.sep (.l _) (.l _) B0 B0' hb2 hb2' (by simp; omega) hst hd
 ·rw [hlen]
  rcases List.mem_append.1 hB with h1|h1
  ·exact vals_mono (by omega) (Nat.le_refl _) (H.gval B h1)
  ·obtain ⟨B0,hB0,rfl⟩:=List.mem_map.1 h1
   exact vals_ren (lend_vals _ _) (H.lval B0 hB0)

def backS (σ1:Sg) (n:Nat):Sg:=fun r=>match r with
 | .g k=>σ1 (.g k)
 | .l k=>σ1 (.g (n+k))

theorem back_keeps (σ1:Sg) (n m:Nat):Keeps σ1 (backS σ1 n) (R.unlend n) m 0:=by
 intro r hr
 cases r with
 | g k =>
  simp only [R.unlend]
  split
  ·rfl
  ·simp only [backS]; congr 2; omega
 | l k=>simp [R.val] at hr
theorem back_vals (n m:Nat):Vals (R.unlend n) (n+m) 0 n m:=by
 intro r hr
 cases r with
 | g k =>
  simp only [R.val,decide_eq_true_eq] at hr
  simp only [R.unlend]
  split
  ·simpa [R.val]
  ·simp only [R.val,decide_eq_true_eq]; omega
 | l k=>simp [R.val] at hr

theorem Inv.lent (H:Inv σ0 h0 w0 σ h ls w) (H1:Inv (lendS σ h.length) (h++ls.map (Blk.ren (R.lend h.length))) w σ1 h1 [] w1)
  (hl:h.length+ls.length<=h1.length) (hc:clean h.length (h1.take h.length)=true) :
  Inv σ0 h0 w0 (backS σ1 h.length) (h1.take h.length) ((h1.drop h.length).map (Blk.ren (R.unlend h.length))) w1:=by
 have hlen:(h++ls.map (Blk.ren (R.lend h.length))).length=h.length+ls.length:=by simp
 have htl:(h1.take h.length).length=h.length:=by simp; omega
 have hdl:((h1.drop h.length).map (Blk.ren (R.unlend h.length))).length=h1.length-h.length:=by simp
 have hg:∀ k B,(h1.take h.length)[k]?=some B->k<h.length/\h1[k]?=some B:=fun k B hb=>by
  rw [List.getElem?_take] at hb
  split at hb
  ·rename_i hk; exact ⟨hk,hb⟩
  ·cases hb
 have hll:∀ k B,((h1.drop h.length).map (Blk.ren (R.unlend h.length)))[k]?=some B->∃ B0,h1[h.length+k]?=some B0/\B=B0.ren (R.unlend h.length):=fun k B hb=>by
  rw [List.getElem?_map,List.getElem?_drop] at hb
  cases hB:h1[h.length+k]? with
  | none=>simp [hB] at hb
  | some B0=>simp only [hB,Option.map_some,Option.some.injEq] at hb; exact ⟨B0,rfl,hb.symm⟩
 have hsg:∀ k,k<h.length->σ1 (.g k)=σ (.g k):=fun k hk=>by
  rw [H1.old k (by rw [hlen]; omega)]; simp [lendS,hk]
 have hsl:∀ k,k<ls.length->σ1 (.g (h.length+k))=σ (.l k):=fun k hk=>by
  rw [H1.old (h.length+k) (by rw [hlen]; omega)]; simp only [lendS,if_neg (by omega:¬ h.length+k<h.length)]; congr 2; omega
 have hlg:∀ k B,h[k]?=some B->(h++ls.map (Blk.ren (R.lend h.length)))[k]?=some B:=fun k B hb=>by
  rw [List.getElem?_append_left (List.getElem?_eq_some_iff.1 hb).1]; exact hb
 have hlw:∀ k B,(h++ls.map (Blk.ren (R.lend h.length)))[h.length+k]?=some B->∃ B0,ls[k]?=some B0/\B.st=B0.st:=fun k B hb=>by
  rw [List.getElem?_append_right (by omega),show h.length+k-h.length=k by omega,List.getElem?_map] at hb
  cases hB:ls[k]? with
  | none=>simp [hB] at hb
  | some B0=>simp only [hB,Option.map_some,Option.some.injEq] at hb; exact ⟨B0,rfl,by rw [<-hb]; rfl⟩
 have hcl:∀ B,B∈h1.take h.length->vals h.length 0 B.cells=true:=fun B hB=>by
  simp only [clean,List.all_eq_true] at hc; exact hc B hB
 refine ⟨⟨?_, ?_, ?_, ?_⟩,⟨H.kept.same.trans H1.kept.same, ?_⟩,by rw [htl]; exact H.len, ?_, ?_, ?_, ?_,H.gl⟩
 ·intro r B hb
  cases r with
  | g k =>
   obtain ⟨hk,hb1⟩:=hg k B hb
   refine (H1.sim.ok (.g k) B hb1).move (n:=h.length) (m:=0) rfl ?_ (hcl B (List.mem_of_getElem? hb)) (Nat.le_refl _) (fun _=>rfl)
   intro r hr
   cases r with
   | g j=>rfl
   | l j=>simp [R.val] at hr
  | l k =>
   obtain ⟨B0,hb1,rfl⟩:=hll k B hb
   refine (H1.sim.ok (.g (h.length+k)) B0 hb1).ren rfl (fun s hs=>?_)
   have hv:=H1.sim.gval B0 (List.mem_of_getElem? hb1)
   simp only [vals,List.all_eq_true] at hv
   exact S.tr_keeps (back_keeps σ1 _ _) (hv s hs)
 ·intro r r' B B' hb hb' hne hst hd
  cases r with
  | g k =>
   obtain ⟨hk,hb1⟩:=hg k B hb
   cases r' with
   | g k'=>obtain ⟨hk',hb1'⟩:=hg k' B' hb'; exact H1.sim.sep (.g k) (.g k') B B' hb1 hb1' hne hst hd
   | l k'=>obtain ⟨B0',hb1',rfl⟩:=hll k' B' hb'; exact H1.sim.sep (.g k) (.g (h.length+k')) B B0' hb1 hb1' (by simp; omega) hst hd
  | l k =>
   obtain ⟨B0,hb1,rfl⟩:=hll k B hb
   cases r' with
   | g k'=>obtain ⟨hk',hb1'⟩:=hg k' B' hb'; exact H1.sim.sep (.g (h.length+k)) (.g k') B0 B' hb1 hb1' (by simp; omega) hst hd
   | l k' =>
    obtain ⟨B0',hb1',rfl⟩:=hll k' B' hb'
    exact H1.sim.sep (.g (h.length+k)) (.g (h.length+k')) B0 B0' hb1 hb1' (by simp at hne ⊢; omega) hst hd
 ·rw [htl]; exact hcl
 ·intro B hB
  rw [htl,hdl]
  obtain ⟨B0,hB0,rfl⟩:=List.mem_map.1 hB
  have hv:=H1.sim.gval B0 (List.mem_of_mem_drop hB0)
  rw [show h1.length=h.length+(h1.length-h.length) by omega] at hv
  exact vals_ren (back_vals _ _) hv
 ·intro b hlt hno
  have hbw:b<w.heap.size:=Nat.lt_of_lt_of_le (w0.lt b hlt) H.kept.same.size
  rw [H1.kept.keep b hbw (fun k B hk hrw=>?_),std_w]
  ·exact H.kept.keep b hlt hno
  ·by_cases hkh:k<h.length
   ·rw [List.getElem?_append_left hkh] at hk
    simp only [lendS,hkh,if_true]
    exact (H.outside (r:=.g k) hk hrw hlt hno).symm
   ·obtain ⟨j,rfl⟩:∃ j,k=h.length+j:=⟨k-h.length,by omega⟩
    obtain ⟨B0,hB0,hs⟩:=hlw j B hk
    have:=H.outside (r:=.l j) hB0 (by rw [<-hs]; exact hrw) hlt hno
    simp only [lendS,if_neg hkh,show h.length+j-h.length=j by omega]
    exact this.symm
 ·intro k hk; show σ1 (.g k)=_; rw [hsg k (by have:=H.len; omega)]; exact H.old k hk
 ·intro r B hb hst
  cases r with
  | g k =>
   obtain ⟨hk,hb1⟩:=hg k B hb
   rcases H1.mine (.g k) B hb1 hst with ⟨j,B0,e,hj,hB0⟩|hge
   ·cases e
    rw [List.getElem?_append_left hk] at hj
    rcases H.mine (.g k) B0 hj hB0 with h2|h2
    ·exact .inl h2
    ·right; show ¬ w0.pt (σ1 (.g k)).1; rw [hsg k hk]; exact h2
   ·right; have:=H.kept.same.size; exact Base.not (Nat.le_trans this (Nat.not_lt.1 hge))
  | l k =>
   obtain ⟨B0,hb1,rfl⟩:=hll k B hb
   right
   show ¬ w0.pt (σ1 (.g (h.length+k))).1
   rcases H1.mine (.g (h.length+k)) B0 hb1 hst with ⟨j,B2,e,hj,hB2⟩|hge
   ·cases e
    obtain ⟨B3,hB3,hs⟩:=hlw k B2 hj
    rw [hsl k (List.getElem?_eq_some_iff.1 hB3).1]
    rcases H.mine (.l k) B3 hB3 (by rw [<-hs]; exact hB2) with ⟨_,_,e,_⟩|h2
    ·cases e
    ·exact h2
   ·have:=H.kept.same.size; exact Base.not (Nat.le_trans this (Nat.not_lt.1 hge))
 ·intro k X hk hX hd
  obtain ⟨hk',hX1⟩:=hg k X hX
  obtain ⟨Y,hY⟩:∃ Y,h[k]?=some Y:=⟨_,List.getElem?_eq_getElem hk'⟩
  show ¬ w0.pt (σ1 (.g k)).1
  rw [hsg k hk']; exact H.new k Y hk hY (H1.live k Y X (hlg k Y hY) hX1 hd)
 ·intro k B0 B hk0 hk hd
  obtain ⟨hkl,hb1⟩:=hg k B hk
  obtain ⟨Bm,hBm⟩:∃ Bm,h[k]?=some Bm:=⟨_,List.getElem?_eq_getElem hkl⟩
  exact H.live k B0 Bm hk0 hBm (H1.live k Bm B (hlg k Bm hBm) hb1 hd)

end
end Go.D

/- Soundness: calls,regions,code,functions. -/
namespace Go.D
set_option linter.all false
variable [Tabs]

section
variable {P:Program} {o:Oper} {Γ:FuncId->FSpec}

theorem callFunc_run {f:FuncId} (hf:FnOk P f) (args:Array Value) (w:World):(callFunc f args).run P w=.ok (.enter f args) w:=by
 obtain ⟨fn,h1,h2,h3⟩:=hf
 simp only [callFunc,Sem.run_bind,run_program,Result.andThen_ok,h1,h3,Bool.false_eq_true,if_false]
 have:fn.body.isNone=false:=by cases hb:fn.body<;>simp [hb] at h2 ⊢
 simp [this]

theorem args_is {σ:Sg} {t:List V} {a:Act} {n m:Nat} (hT:TRel σ t a.tmps n m):∀ {xs:List Operand} {ys:List Opd},compXs xs=some ys->(ys.map (ev t)).all V.known=true ->
  xs.map a.eval=(ys.map (ev t)).map (V.tr σ)/\(ys.map (ev t)).all (V.val n m)=true
 | [],ys,hx,_=>by simp only [compXs,Option.some.injEq] at hx; subst hx; exact ⟨rfl,rfl⟩
 | x::xs,ys,hx,hk=>by
  simp only [compXs] at hx
  cases h1:compX x with
  | none=>simp [h1] at hx
  | some y =>
   cases h2:compXs xs with
   | none=>simp [h1,h2] at hx
   | some l =>
    simp only [h1,h2,Option.some.injEq] at hx
    subst hx
    simp only [List.map_cons,List.all_cons,Bool.and_eq_true] at hk ⊢
    obtain ⟨v1,v2⟩:=ev_is hT h1
    obtain ⟨i1,i2⟩:=args_is hT h2 hk.2
    have hne:ev t y≠.s .u:=by intro e; rw [e] at hk; simp [V.known] at hk
    exact ⟨by rw [v2.eq hne,i1],v1,i2⟩

theorem V.known_ren {ρ:R->R} {v:V}:(v.ren ρ).known=v.known:=by
 have hs:∀ s:S,((V.s (s.ren ρ)).known)=(V.s s).known:=fun s=>by cases s<;>rfl
 have hk:∀ xs:List S,D.known (xs.map (S.ren ρ))=D.known xs:=fun xs=>by
  simp only [D.known,List.all_map]
  congr 1
  funext s; cases s<;>rfl
 have hc:∀ c:C,(c.ren ρ).known=c.known:=fun c=>by
  cases c with
  | s x=>cases x<;>rfl
  | agg xs=>exact hk xs
 cases v with
 | s x=>exact hs x
 | agg xs=>exact hk xs
 | tup cs =>
  simp only [V.ren,V.known,List.all_map]
  congr 1
  funext c; exact hc c

theorem call_acts (hΓ:SndΓ P Γ) {σ0:Sg} {h0:List Blk} {w0:Base} {σ:Sg} {t:List V} {a:Act} {ls h:List Blk} {w:World} {f:FuncId} {args:List V} {vals:Array Value} {K:V->List Blk->List Blk->Prop} {next:Act->World->Prop} {Q:Exit->Act->World->Prop}
  (H:Inv σ0 h0 w0 σ h ls w) (hT:TRel σ t a.tmps h.length ls.length) (hvals:args.all V.known=true->vals=(args.map (V.tr σ)).toArray/\args.all (V.val h.length ls.length)=true) (hrun:FnOk P f->(execOp a.eval o).run P w=.ok (.enter f vals) w)
  (hK:callK Γ f args ls h K) (hn:∀ σ' v x ls' h' w',Inv σ0 h0 w0 σ' h' ls' w'->TRel σ' t a.tmps h'.length ls'.length->v.val h'.length ls'.length=true->Is σ' v x->K v ls' h'->next (a.put o.dst x) w') :
  o.wp P a w next Q:=by
 unfold callK at hK
 obtain ⟨hkn,hK⟩:=hK
 obtain ⟨hv1,hv2⟩:=hvals hkn
 cases hno:args.all V.noL
 ·rw [hno] at hK
  simp only [bcase,Bool.false_eq_true,if_false] at hK
  obtain ⟨hok,hs⟩:=hΓ _ _ _ _ hK
  have hS:=H.sim.lend
  have hkn':(args.map (V.ren (R.lend h.length))).all V.known=true:=by
   simp only [List.all_map,List.all_eq_true] at hkn ⊢
   exact fun x hx=>by show (x.ren _).known=true; rw [V.known_ren]; exact hkn x hx
  have hval':(args.map (V.ren (R.lend h.length))).all (V.val (h++ls.map (Blk.ren (R.lend h.length))).length 0)=true:=by
   simp only [List.all_map,List.all_eq_true,List.length_append,List.length_map] at hv2 ⊢
   exact fun x hx=>V.val_ren (lend_vals _ _) (hv2 x hx)
  have htr:((args.map (V.ren (R.lend h.length))).map (V.tr (lendS σ h.length))).toArray=(args.map (V.tr σ)).toArray:=by
   congr 1
   rw [List.map_map]
   simp only [List.all_eq_true] at hv2
   exact List.map_congr_left fun x hx=>V.tr_keeps (lend_keeps _ _) (hv2 x hx)
  have hC:=hs _ _ w _ _ hS H.glend hval' hkn' hK
  rw [htr] at hC
  unfold Oper.wp
  rw [hrun hok,hv1]
  refine hC.mono ?_
  rintro e w' ⟨v,h', σ',rfl,k1,k2,H1,⟨e1,e2⟩,k3⟩
  have H2:=H.lent H1 e1 e2
  have hl1:(h'.take h.length).length=h.length:=by simp; omega
  have hl2:((h'.drop h.length).map (Blk.ren (R.unlend h.length))).length=h'.length-h.length:=by simp
  have hA:Agree h.length ls.length σ (backS σ' h.length):=by
   intro r hr
   cases r with
   | g k =>
    simp only [R.val,decide_eq_true_eq] at hr
    show σ' (.g k)=_
    rw [H1.old k (by simp; omega)]; simp [lendS,hr]
   | l k =>
    simp only [R.val,decide_eq_true_eq] at hr
    show σ' (.g (h.length+k))=_
    rw [H1.old (h.length+k) (by simp; omega)]
    simp only [lendS,if_neg (by omega:¬ h.length+k<h.length)]; congr 2; omega
  refine hn _ (v.ren (R.unlend h.length)) _ _ _ w' H2 (hT.mono hA (by rw [hl1]; exact Nat.le_refl _) (by rw [hl2]; omega)) ?_ (.inr ?_) k3
  ·rw [hl1,hl2]
   rw [show h'.length=h.length+(h'.length-h.length) by omega] at k2
   exact V.val_ren (back_vals _ _) k2
  ·exact (V.tr_keeps (back_keeps σ' _ _) k2).symm
 ·rw [hno] at hK
  simp only [bcase,if_true] at hK
  obtain ⟨hok,hs⟩:=hΓ _ _ _ _ hK
  have hval':args.all (V.val h.length 0)=true:=by
   simp only [List.all_eq_true] at hv2 hno ⊢
   exact fun x hx=>V.val_noL (hv2 x hx) (hno x hx)
  have hC:=hs _ _ w _ _ H.sim.glob H.glb hval' hkn hK
  unfold Oper.wp
  rw [hrun hok,hv1]
  refine hC.mono ?_
  rintro e w' ⟨v,h', σ',rfl,k1,k2,H1,k3⟩
  have H2:=H.call H1
  refine hn _ v _ _ _ w' H2 (hT.mono (mix_agree H1 _) H1.len (Nat.le_refl _)) (V.val_mono (Nat.le_refl _) (Nat.zero_le _) k2) (.inr ?_) k3
  exact (V.tr_congr (mix_agree0 σ σ' _) v k2).symm

theorem ofValue_func (f:FuncId) (cs args:Array Value) (w:World):(Deferred.ofValue (.func (.func f) #[] cs) args).run P w=.ok { target:=.fn (.func f) cs,args:=args } w:=by
 simp [Deferred.ofValue]

theorem acts_call (hΓ:SndΓ P Γ) {f:FuncId} {c:Call} {ys:List Opd} (ho:o.op=.call c) (hc:c.callee=.value (.func f)) (hx:compXs c.args.toList=some ys):Acts P Γ o (.call f ys):=by
 intro σ0 h0 w0 σ t a ls h w K next Q H hT hK hn
 simp only [iwp] at hK
 refine call_acts hΓ (vals:=c.args.map a.eval) H hT (fun hk=>?_) (fun hok=>?_) hK (fun σ' v x ls' h' w'=>hn σ' t v x ls' h' w')
 ·obtain ⟨h1,h2⟩:=args_is hT hx hk
  refine ⟨?_,h2⟩
  rw [<-h1,<-Array.toList_map,Array.toArray_toList]
 ·have he:a.eval (.func f)=.func (.func f) #[] #[]:=rfl
  simp [execOp,ho,resolve,hc,he,ofValue_func,invoke,callFunc_run hok]

theorem acts_callv (hΓ:SndΓ P Γ) {i:Tmp} {c:Call} {ys:List Opd} (ho:o.op=.call c) (hc:c.callee=.value (.tmp i)) (hx:compXs c.args.toList=some ys):Acts P Γ o (.callv (.t i) ys):=by
 intro σ0 h0 w0 σ t a ls h w K next Q H hT hK hn
 simp only [iwp] at hK
 obtain ⟨e1,e2⟩:=ev_is hT (x:=.tmp i) (y:=.t i) rfl
 split at hK
 ·rename_i g cs hq
  rw [hq] at e1 e2
  have hv:=e2.eq (by simp)
  simp only [V.tr,S.tr] at hv
  refine call_acts hΓ (vals:=c.args.map a.eval++(cs.map fun x=>Value.pointer (some (adr σ x.1 x.2))).toArray) H hT (fun hk=>?_) (fun hok=>?_) hK (fun σ' v x ls' h' w'=>hn σ' t v x ls' h' w')
  ·simp only [List.all_append,Bool.and_eq_true] at hk
   obtain ⟨h1,h2⟩:=args_is hT hx hk.1
   refine ⟨?_, ?_⟩
   ·rw [List.map_append,List.map_map]
    have:(c.args.map a.eval)=((ys.map (ev t)).map (V.tr σ)).toArray:=by rw [<-h1,<-Array.toList_map,Array.toArray_toList]
    rw [this]
    simp only [List.append_toArray]
    congr 1
    simp only [List.map_map]; rfl
   ·simp only [List.all_append,Bool.and_eq_true]
    refine ⟨h2, ?_⟩
    simp only [V.val,S.val,List.all_eq_true] at e1
    simp only [List.all_map,List.all_eq_true]
    exact fun x hx=>e1 x hx
  ·simp [execOp,ho,resolve,hc,hv,ofValue_func,invoke,callFunc_run hok]
 ·exact hK.elim

theorem acts_all (hΓ:SndΓ P Γ) {op:I} (hc:compI P o=some op):Acts P Γ o op:=by
 cases hs:op.still
 case true=>exact acts_of_looks (looks_all hc hs)
 unfold compI at hc
 split at hc
 ·rename_i x ho
  cases hx:compX x with
  | none=>simp [hx] at hc
  | some y=>simp only [hx,Option.map_some,Option.some.injEq] at hc; subst hc; cases hs
 ·rename_i x ho
  cases hx:compX x with
  | none=>simp [hx] at hc
  | some y=>simp only [hx,Option.map_some,Option.some.injEq] at hc; subst hc; cases hs
 ·rename_i c x y ho
  split at hc
  ·cases hc; cases hs
  ·cases hc
 ·rename_i T ho
  cases hz:zeroOf P T with
  | none=>simp [hz] at hc
  | some z=>simp only [hz,Option.map_some,Option.some.injEq] at hc; subst hc; exact acts_new ho hz
 ·rename_i T x ho
  cases hx:compX x with
  | none=>simp [hx] at hc
  | some y=>simp only [hx,Option.map_some,Option.some.injEq] at hc; subst hc; exact acts_box ho hx
 ·rename_i T parts ho
  split at hc
  ·rename_i z fs hz hu
   split at hc
   ·cases hq:partsOf P (fieldPlaces P fs.toList) parts.toList with
    | none=>simp [hq] at hc
    | some qs=>simp only [hq,Option.map_some,Option.some.injEq] at hc; subst hc; cases hs
   ·cases hc
  ·rename_i z n e hz hu
   split at hc
   ·rename_i i hi
    cases hq:partsOf P (fun j=>some (j*i.size,i.size)) parts.toList with
    | none=>simp [hq] at hc
    | some qs=>simp only [hq,Option.map_some,Option.some.injEq] at hc; subst hc; cases hs
   ·cases hc
  ·cases hc
 ·rename_i T n parts ho
  split at hc
  ·rename_i e hu
   split at hc
   ·rename_i i z hi hz
    split at hc
    ·rename_i hcond
     cases hq:partsOf P (fun j=>some (j*i.size,i.size)) parts.toList with
     | none=>simp [hq] at hc
     | some qs=>simp only [hq,Option.map_some,Option.some.injEq] at hc; subst hc; exact acts_bsl ho hu hi hz hcond.1 hcond.2 hq
    ·cases hc
   ·cases hc
  ·cases hc
 ·split at hc
  ·cases hc; cases hs
  ·cases hc
 ·rename_i T x y ho
  split at hc
  ·rename_i x' y' i hx hy hi; cases hc; exact acts_st ho hi hx hy
  ·cases hc
 ·rename_i x ho
  cases hx:compX x with
  | none=>simp [hx] at hc
  | some y=>simp only [hx,Option.map_some,Option.some.injEq] at hc; subst hc; cases hs
 ·split at hc
  ·split at hc<;>(repeat' split at hc)<;>first|(cases hc; done)|(cases hc; cases hs)
  ·cases hc
 ·rename_i u T x ho
  cases hx:compX x with
  | none=>simp [hx] at hc
  | some y=>simp only [hx,Option.map_some,Option.some.injEq] at hc; subst hc; cases hs
 ·split at hc
  ·cases hc; cases hs
  ·cases hc
 ·rename_i f first caps ho
  split at hc
  ·cases hx:compXs caps.toList with
   | none=>simp [hx] at hc
   | some ys=>simp only [hx,Option.map_some,Option.some.injEq] at hc; subst hc; cases hs
  ·cases hc
 ·rename_i T n c ho
  split at hc
  ·rename_i e n' c' hu hn hc'
   split at hc
   ·rename_i i z hi hz
    split at hc
    ·cases hc
    ·rename_i hsz; cases hc; exact acts_mks ho hu hi hz hsz hn hc'
   ·cases hc
  ·cases hc
 ·split at hc
  ·cases hc
  ·split at hc
   ·split at hc
    ·rename_i e hu
     cases hk:P.info? e with
     | none=>simp [hk] at hc
     | some k=>simp only [hk,Option.map_some,Option.some.injEq] at hc; subst hc; cases hs
    ·rename_i n e hu
     cases hk:P.info? e with
     | none=>simp [hk] at hc
     | some k=>simp only [hk,Option.map_some,Option.some.injEq] at hc; subst hc; cases hs
    ·cases hc
   ·cases hc
 ·split at hc
  ·split at hc
   ·split at hc
    ·split at hc
     ·cases hc
     ·cases hc; cases hs
    ·cases hc
   ·cases hc
  ·cases hc
 ·split at hc
  ·split at hc
   ·rename_i fl hf
    cases hn:shapeOf P fl.type with
    | none=>simp [hn] at hc
    | some n=>simp only [hn,Option.map_some,Option.some.injEq] at hc; subst hc; cases hs
   ·cases hc
  ·cases hc
 ·split at hc
  ·rename_i n e x' i' hu hx hi
   cases hk:P.info? e with
   | none=>simp [hk] at hc
   | some k=>simp only [hk,Option.map_some,Option.some.injEq] at hc; subst hc; cases hs
  ·rename_i e x' i' hu hx hi
   cases hk:P.info? e with
   | none=>simp [hk] at hc
   | some k=>simp only [hk,Option.map_some,Option.some.injEq] at hc; subst hc; cases hs
  ·cases hc
 ·split at hc
  ·split at hc
   ·cases hc; cases hs
   ·cases hc
  ·cases hc
 ·rename_i x j ho
  cases hx:compX x with
  | none=>simp [hx] at hc
  | some y=>simp only [hx,Option.map_some,Option.some.injEq] at hc; subst hc; cases hs
 ·rename_i c ho
  split at hc
  ·rename_i f hcal
   split at hc
   ·rename_i fn hfn
    split at hc
    ·cases hx:compXs c.args.toList with
     | none=>simp [hx] at hc
     | some ys=>simp only [hx,Option.map_some,Option.some.injEq] at hc; subst hc; exact acts_call hΓ ho hcal hx
    ·cases hc
   ·cases hc
  ·rename_i i hcal
   cases hx:compXs c.args.toList with
   | none=>simp [hx] at hc
   | some ys=>simp only [hx,Option.map_some,Option.some.injEq] at hc; subst hc; exact acts_callv hΓ ho hcal hx
  ·split at hc
   ·rename_i x T ha hat
    split at hc
    ·rename_i e hu
     cases hx:compX x with
     | none=>simp [hx] at hc
     | some y=>simp only [hx,Option.map_some,Option.some.injEq] at hc; subst hc; cases hs
    ·cases hc
   ·cases hc
  ·rename_i hcal
   split at hc
   ·rename_i x y T U ha hat
    split at hc
    ·rename_i e f hT hU
     split at hc
     ·rename_i i z x' y' hi hz hx hy
      split at hc
      ·cases hc
      ·rename_i hb; cases hc; exact acts_app ho hcal ha hat hT hU hi hz hb hx hy
     ·cases hc
    ·cases hc
   ·cases hc
  ·rename_i hcal
   split at hc
   ·rename_i x y T U ha hat
    split at hc
    ·rename_i e hu
     split at hc
     ·rename_i i x' y' hi hx hy; cases hc; exact acts_cpy ho hcal ha hat hu hi hx hy
     ·cases hc
    ·cases hc
   ·cases hc
  ·split at hc
   ·split at hc
    ·cases hc; cases hs
    ·cases hc
   ·cases hc
  ·split at hc
   ·split at hc
    ·cases hc; cases hs
    ·cases hc
   ·cases hc
  ·cases hc
 ·cases hc

end
end Go.D

