/- Package cdt: Swap. -/
import Derived.Test.YtcdfofeolgbnbaaGreatZ30
import Derived.Test.YtcdfofeolgbnbaaGreatZ13
import Derived.Test.YtcdfofeolgbnbaaGreatZ22
/- Lists whose links agree. -/
namespace Go.Proofs.YtcdfofeolgbnbaaGreat
open Go.D
set_option linter.all false
set_option maxRecDepth 100000
set_option maxHeartbeats 4000000

def chain (V : Int → Slot) (nx : Int) : Int → List Int → Prop
 | _,[] => True
 | pr,x :: L => (V x).prev = pr ∧ (V x).next = L.headD nx ∧ chain V nx x L
theorem headD_app {α : Type} (L1 L2 : List α) (d : α) : (L1 ++ L2).headD d = L1.headD (L2.headD d):=by cases L1 <;> rfl
theorem getLastD_cons' {α : Type} (x d : α) (L : List α) : (x :: L).getLastD d = L.getLastD x:=by cases L <;> rfl
theorem chain_app {V : Int → Slot} {nx : Int} : ∀ {L1 : List Int} {pr : Int} {L2 : List Int},chain V nx pr (L1 ++ L2) ↔ chain V (L2.headD nx) pr L1 ∧ chain V nx (L1.getLastD pr) L2
 | [],pr,L2 => by simp [chain]
 | x :: L1,pr,L2 => by
  rw [getLastD_cons']
  simp only [List.cons_append,chain,chain_app (L1:=L1),headD_app]
  constructor
  ·rintro ⟨h1,h2,h3,h4⟩; exact ⟨⟨h1,h2,h3⟩,h4⟩
  ·rintro ⟨⟨h1,h2,h3⟩,h4⟩; exact ⟨h1,h2,h3,h4⟩
theorem chain_congr {V V' : Int → Slot} {nx : Int} : ∀ {L : List Int} {pr : Int},(∀ x,x ∈ L → (V' x).prev = (V x).prev ∧ (V' x).next = (V x).next) → chain V nx pr L → chain V' nx pr L
 | [],_,_,_ => trivial
 | x :: L,pr,h,⟨h1,h2,h3⟩ => ⟨(h x List.mem_cons_self).1.trans h1,(h x List.mem_cons_self).2.trans h2,chain_congr (fun y hy => h y (List.mem_cons_of_mem _ hy)) h3⟩
theorem headD_map (ρ : Int → Int) (L : List Int) (d : Int) : (L.map ρ).headD (ρ d) = ρ (L.headD d):=by cases L <;> rfl
theorem chain_map {V V' : Int → Slot} {ρ : Int → Int} {nx : Int} : ∀ {L : List Int} {pr : Int},(∀ x,x ∈ L → (V' (ρ x)).prev = ρ (V x).prev ∧ (V' (ρ x)).next = ρ (V x).next) → chain V nx pr L → chain V' (ρ nx) (ρ pr) (L.map ρ)
 | [],_,_,_ => trivial
 | x :: L,pr,h,⟨h1,h2,h3⟩ => by
  refine ⟨?_, ?_,chain_map (fun y hy => h y (List.mem_cons_of_mem _ hy)) h3⟩
  ·rw [(h x List.mem_cons_self).1,h1]
  ·rw [(h x List.mem_cons_self).2,h2,headD_map]
theorem chain_at {V : Int → Slot} {nx : Int} : ∀ {L : List Int} {pr : Int},chain V nx pr L → ∀ (i : Nat) (x : Int),L[i]? = some x → (V x).prev = (if i = 0 then pr else L.getD (i - 1) 0) ∧ (V x).next = L.getD (i + 1) nx
 | [],_,_,i,x,h => by simp at h
 | y :: L,pr,⟨h1,h2,h3⟩,0,x,h => by
  simp only [List.getElem?_cons_zero,Option.some.injEq] at h
  subst h
  refine ⟨h1,h2.trans ?_⟩
  cases L <;> rfl
 | y :: L,pr,⟨h1,h2,h3⟩,i + 1,x,h => by
  simp only [List.getElem?_cons_succ] at h
  obtain ⟨k1,k2⟩:=chain_at h3 i x h
  refine ⟨k1.trans ?_,k2.trans ?_⟩
  ·cases i with
   | zero => rfl
   | succ i => simp
  ·simp
theorem nodup_at {L : List Int} (hn : L.Nodup) {i j : Nat} {x : Int} (h1 : L[i]? = some x) (h2 : L[j]? = some x) : i = j:=by
 obtain ⟨a1,a2⟩:=List.getElem?_eq_some_iff.1 h1
 obtain ⟨b1,b2⟩:=List.getElem?_eq_some_iff.1 h2
 exact (List.getElem_inj hn).1 (a2.trans b2.symm)
theorem chain_two {V : Int → Slot} {L : List Int} (hc : chain V 0 0 L) (hn : L.Nodup) (h0 : (0 : Int) ∉ L) {x y : Int} (hx : x ∈ L) (hy : y ∈ L) : (V x).next = y ↔ (V y).prev = x:=by
 obtain ⟨i,hi⟩:=List.getElem?_of_mem hx
 obtain ⟨j,hj⟩:=List.getElem?_of_mem hy
 have x0 : x ≠ 0:=fun e => h0 (e ▸ hx)
 have y0 : y ≠ 0:=fun e => h0 (e ▸ hy)
 rw [(chain_at hc i x hi).2,(chain_at hc j y hj).1]
 constructor
 ·intro h
  have hj2 : L[i + 1]? = some y:=by
   rw [List.getD_eq_getElem?_getD] at h
   cases e : L[i + 1]? with
   | none => rw [e] at h; exact absurd h.symm y0
   | some z => rw [e] at h; simp only [Option.getD_some] at h; rw [h]
  have:=nodup_at hn hj hj2
  subst this
  simp only [Nat.add_one_ne_zero,if_false,Nat.add_sub_cancel]
  rw [List.getD_eq_getElem?_getD,hi]; rfl
 ·intro h
  by_cases e : j = 0
  ·rw [if_pos e] at h; exact absurd h.symm x0
  ·rw [if_neg e] at h
   have hi2 : L[j - 1]? = some x:=by
    rw [List.getD_eq_getElem?_getD] at h
    cases e2 : L[j - 1]? with
    | none => rw [e2] at h; exact absurd h.symm x0
    | some z => rw [e2] at h; simp only [Option.getD_some] at h; rw [h]
   have:=nodup_at hn hi hi2
   rw [this,show j - 1 + 1 = j by omega,List.getD_eq_getElem?_getD,hj]; rfl
theorem chain_next {V : Int → Slot} {nx pr : Int} {L : List Int} (hc : chain V nx pr L) {x : Int} (hx : x ∈ L) : (V x).next = nx ∨ (V x).next ∈ L:=by
 obtain ⟨i,hi⟩:=List.getElem?_of_mem hx
 rw [(chain_at hc i x hi).2,List.getD_eq_getElem?_getD]
 cases e : L[i + 1]? with
 | none => exact .inl rfl
 | some z => exact .inr (List.mem_of_getElem? e)
theorem chain_prev {V : Int → Slot} {nx pr : Int} {L : List Int} (hc : chain V nx pr L) {x : Int} (hx : x ∈ L) : (V x).prev = pr ∨ (V x).prev ∈ L:=by
 obtain ⟨i,hi⟩:=List.getElem?_of_mem hx
 rw [(chain_at hc i x hi).1]
 by_cases h : i = 0
 ·rw [if_pos h]; exact .inl rfl
 ·rw [if_neg h,List.getD_eq_getElem?_getD]
  cases e : L[i - 1]? with
  | none =>
   have:=List.getElem?_eq_none_iff.1 e
   have:=(List.getElem?_eq_some_iff.1 hi).1
   omega
  | some z => exact .inr (List.mem_of_getElem? e)
theorem chain_head {V : Int → Slot} {nx pr : Int} {L : List Int} (hc : chain V nx pr L) (hn : L.Nodup) (hpr : pr ∉ L) {x : Int} (hx : x ∈ L) : (V x).prev = pr ↔ L.headD nx = x:=by
 cases L with
 | nil => cases hx
 | cons y L =>
  obtain ⟨h1,h2,h3⟩:=hc
  simp only [List.headD_cons]
  rcases List.mem_cons.1 hx with rfl | hx'
  ·exact ⟨fun _ => rfl,fun _ => h1⟩
  ·constructor
   ·intro h
    rcases chain_prev h3 hx' with e | e
    ·rw [h] at e
     exact absurd (e ▸ List.mem_cons_self) hpr
    ·rw [h] at e
     exact absurd (List.mem_cons_of_mem _ e) hpr
   ·intro h
    rw [h] at hn
    exact absurd hx' (List.nodup_cons.1 hn).1

structure M.Inv (m : M) (P : Int → Prop) (L : List Int) : Prop where
 len : 4 ≤ m.w.length ∧ m.w.length % 4 = 0
 two : m.at 2 = m.fst
 nd : L.Nodup
 full : ∀ x,x ∈ L → m.fE x = 0
 ch : chain m.gV 0 0 L
 fst : m.fst = L.headD 0
 out : ∀ x,P x → m.gE x = 0 ∧ (x ∉ L → (m.gV x).prev = 0 ∧ (m.gV x).next = 0 ∧ (m.gV x).depth = 0)
section
variable {m : M} {P : Int → Prop} {L : List Int}
theorem M.Inv.no0 (I : m.Inv P L) : (0 : Int) ∉ L:=fun h => there_ne0 (fE_there (I.full 0 h)) rfl
theorem M.Inv.gE (I : m.Inv P L) {x : Int} (h : x ∈ L) : m.gE x = 0 ∧ (m.gV x).cap.ty ≠ 0:=fE_zero.1 (I.full x h)
theorem M.Inv.next (I : m.Inv P L) {x : Int} (h : x ∈ L) : (m.gV x).next = 0 ∨ (m.gV x).next ∈ L:=chain_next I.ch h
theorem M.Inv.prev (I : m.Inv P L) {x : Int} (h : x ∈ L) : (m.gV x).prev = 0 ∨ (m.gV x).prev ∈ L:=chain_prev I.ch h
theorem M.Inv.two_way (I : m.Inv P L) {x y : Int} (hx : x ∈ L) (hy : y ∈ L) : (m.gV x).next = y ↔ (m.gV y).prev = x:=chain_two I.ch I.nd I.no0 hx hy
theorem M.Inv.first (I : m.Inv P L) {x : Int} (hx : x ∈ L) : (m.gV x).prev = 0 ↔ m.fst = x:=by
 rw [I.fst]; exact chain_head I.ch I.nd I.no0 hx
theorem M.Inv.fst_mem (I : m.Inv P L) : m.fst = 0 ∨ m.fst ∈ L:=by
 rw [I.fst]
 cases L with
 | nil => exact .inl rfl
 | cons x L => exact .inr List.mem_cons_self
theorem M.Inv.irr_next (I : m.Inv P L) {x : Int} (hx : x ∈ L) : (m.gV x).next ≠ x:=by
 intro e
 obtain ⟨i,hi⟩:=List.getElem?_of_mem hx
 have h:=(chain_at I.ch i x hi).2
 rw [e,List.getD_eq_getElem?_getD] at h
 cases e2 : L[i + 1]? with
 | none => rw [e2] at h; exact I.no0 (by simp only [Option.getD_none] at h; rw [← h]; exact hx)
 | some z =>
  rw [e2] at h
  simp only [Option.getD_some] at h
  rw [← h] at e2
  have:=nodup_at I.nd hi e2
  omega
theorem M.Inv.irr_prev (I : m.Inv P L) {x : Int} (hx : x ∈ L) : (m.gV x).prev ≠ x:=fun e => I.irr_next hx ((I.two_way hx hx).2 e)
theorem M.Inv.prev_next (I : m.Inv P L) {x : Int} (hx : x ∈ L) : (m.gV x).next = 0 ∨ (m.gV x).prev ≠ (m.gV x).next:=by
 rcases I.next hx with e | e
 ·exact .inl e
 ·right
  intro h
  obtain ⟨i,hi⟩:=List.getElem?_of_mem hx
  obtain ⟨h1,h2⟩:=chain_at I.ch i x hi
  obtain ⟨y,hy⟩ : ∃ y,y = (m.gV x).next:=⟨_,rfl⟩
  rw [h,← hy] at h1
  rw [← hy] at h2 e
  have y0 : y ≠ 0:=fun e2 => I.no0 (e2 ▸ e)
  have j1 : L[i + 1]? = some y:=by
   rw [List.getD_eq_getElem?_getD] at h2
   cases e2 : L[i + 1]? with
   | none => rw [e2] at h2; exact absurd h2 y0
   | some z => rw [e2] at h2; simp only [Option.getD_some] at h2; rw [h2]
  by_cases e0 : i = 0
  ·rw [if_pos e0] at h1; exact y0 h1
  ·rw [if_neg e0,List.getD_eq_getElem?_getD] at h1
   cases e2 : L[i - 1]? with
   | none => rw [e2] at h1; exact y0 h1
   | some z =>
    rw [e2] at h1
    simp only [Option.getD_some] at h1
    rw [← h1] at e2
    have:=nodup_at I.nd j1 e2
    omega
theorem M.Inv.listed (I : m.Inv P L) {x : Int} (hx : x ∈ L) : m.liB x (m.gV x) = true:=by
 unfold M.liB
 by_cases e : (m.gV x).prev = 0
 ·rw [(I.first hx).1 e]; simp
 ·have : ((m.gV x).prev == 0) = false:=by simpa using e
  rw [this]; rfl
theorem M.Inv.unlisted (I : m.Inv P L) {x : Int} (hP : P x) (hx : x ∉ L) : m.liB x (m.gV x) = false:=by
 obtain ⟨g,h⟩:=I.out x hP
 obtain ⟨h1,h2,h3⟩:=h hx
 have x0:=there_ne0 (gE_there g).1
 have : ¬ m.fst = x:=fun e => by
  rcases I.fst_mem with h4 | h4
  ·exact x0 (e ▸ h4)
  ·exact hx (e ▸ h4)
 simp only [M.liB,h1,h2,h3,beq_self_eq_true,Bool.and_self,Bool.not_true,Bool.false_or,beq_eq_false_iff_ne,ne_eq,this,not_false_eq_true]
end

theorem M.Inv.to {m m' : M} {P : Int → Prop} {L L' : List Int} {V : Int → Slot} {F : Int} (I : m.Inv P L) (T : m.To m' V F) (hn : L'.Nodup) (hf : ∀ x,x ∈ L' → m.gE x = 0 ∧ (V x).cap.ty ≠ 0) (hc : chain V 0 0 L') (hF : F = L'.headD 0)
  (ho : ∀ x,P x → x ∉ L' → (V x).prev = 0 ∧ (V x).next = 0 ∧ (V x).depth = 0) : m'.Inv P L':=by
 have h0 : ∀ x,x ∈ L' → x ≠ 0:=fun x hx => there_ne0 (gE_there (hf x hx).1).1
 refine ⟨⟨by rw [T.fr.len]; exact I.len.1,by rw [T.fr.len]; exact I.len.2⟩,T.fr.two I.two,hn,fun x hx => T.full (hf x hx).1 (hf x hx).2,chain_congr (fun x hx => by rw [T.V x (h0 x hx)]; exact ⟨rfl,rfl⟩) hc,T.F.trans hF,fun x hx => ?_⟩
 have hg:=(I.out x hx).1
 refine ⟨(T.E x).trans hg,fun hL => ?_⟩
 rw [T.V x (there_ne0 (gE_there hg).1)]
 exact ho x hx hL
theorem jnV_cap (V : Int → Slot) (p a n x : Int) : (jnV V p a n x).cap = (V x).cap:=by
 unfold jnV; split
 ·rename_i e; rw [e]; rfl
 ·split
  ·rename_i e; rw [e]; rfl
  ·rfl
theorem jnV_depth (V : Int → Slot) (p a n x : Int) : (jnV V p a n x).depth = (V x).depth:=by
 unfold jnV; split
 ·rename_i e; rw [e]; rfl
 ·split
  ·rename_i e; rw [e]; rfl
  ·rfl
theorem jnV_next (V : Int → Slot) (p a n x : Int) : (jnV V p a n x).next = if x = p then a else (V x).next:=by
 unfold jnV; split
 ·rfl
 ·split
  ·rename_i e; rw [e]; rfl
  ·rfl
theorem jnV_prev (V : Int → Slot) (p a n x : Int) (h : p ≠ n) : (jnV V p a n x).prev = if x = n then a else (V x).prev:=by
 unfold jnV; split
 ·rename_i e; rw [e,if_neg h]; rfl
 ·split
  ·rfl
  ·rfl
theorem jnV_out {V : Int → Slot} {p a n x : Int} (h1 : x ≠ p) (h2 : x ≠ n) : jnV V p a n x = V x:=by
 unfold jnV; rw [if_neg h1,if_neg h2]

theorem chain_pre {V V' : Int → Slot} {a q : Int} {L : List Int} (hc : chain V 0 q L) (hn : L.Nodup) (h1 : ∀ x,x ∈ L → (V' x).next = (V x).next ∧ (V' x).prev = if x = L.headD 0 then a else (V x).prev) : chain V' 0 a L:=by
 cases L with
 | nil => trivial
 | cons y L =>
  obtain ⟨k1,k2,k3⟩:=hc
  obtain ⟨e1,e2⟩:=h1 y List.mem_cons_self
  rw [List.headD_cons,if_pos rfl] at e2
  refine ⟨e2,e1.trans k2,chain_congr (fun x hx => ?_) k3⟩
  obtain ⟨e3,e4⟩:=h1 x (List.mem_cons_of_mem _ hx)
  have : x ≠ y:=fun e => (List.nodup_cons.1 hn).1 (e ▸ hx)
  rw [List.headD_cons,if_neg this] at e4
  exact ⟨e4,e3⟩

section
variable {m : M} {P : Int → Prop} {L : List Int}
def M.nx (m : M) (p : Int) : Int:=if p = 0 then m.fst else (m.gV p).next
def M.insS (m : M) (p a : Int) : Slot:=⟨(m.gV a).cap,p,m.nx p,if p = 0 then 0 else (m.gV p).depth + 1⟩
def M.insV (m : M) (p a : Int) : Int → Slot:=jnV (fun x => if x = a then m.insS p a else m.gV x) p a (m.nx p)
def M.insF (m : M) (p a : Int) : Int:=if p = 0 then a else m.fst
theorem M.Inv.nx_mem (I : m.Inv P L) {p : Int} (hp : p = 0 ∨ p ∈ L) : m.nx p = 0 ∨ m.nx p ∈ L:=by
 unfold M.nx
 split
 ·exact I.fst_mem
 ·rename_i h; exact I.next (hp.resolve_left h)
theorem M.Inv.nx_ne (I : m.Inv P L) {p : Int} (hp : p = 0 ∨ p ∈ L) : m.nx p = 0 ∨ p ≠ m.nx p:=by
 unfold M.nx
 by_cases h : p = 0
 ·rw [if_pos h]
  by_cases h2 : m.fst = 0
  ·exact .inl h2
  ·exact .inr fun e => h2 (e ▸ h)
 ·rw [if_neg h]
  exact .inr fun e => I.irr_next (hp.resolve_left h) e.symm
theorem M.Inv.link (I : m.Inv P L) {x : Int} (h : x = 0 ∨ x ∈ L) : linkB x = true:=by
 rcases h with rfl | h
 ·exact link_0
 ·exact link_there (fE_there (I.full x h))
theorem M.Inv.insR (I : m.Inv P L) {p a : Int} (hf : m.fE a = 0) (hp : p = 0 ∨ (p ∈ L ∧ (m.gV p).depth ≠ 65535)) : slotRB (m.insS p a) = true:=by
 have hp' : p = 0 ∨ p ∈ L:=hp.imp id fun h => h.1
 have h2:=gV_links m p
 refine full_mk hf (I.link hp') (I.link (I.nx_mem hp')) ?_ ?_
 ·split
  ·omega
  ·omega
 ·split
  ·omega
  ·rename_i h0
   have:=(hp.resolve_left h0).2
   omega
theorem M.Inv.ins_to (I : m.Inv P L) {p a : Int} (ha : P a) (hf : m.fE a = 0) (hu : a ∉ L) (hp : p = 0 ∨ (p ∈ L ∧ (m.gV p).depth ≠ 65535)) : (m.ins p a).1 = 0 ∧ m.To (m.ins p a).2 (m.insV p a) (m.insF p a):=by
 have hp' : p = 0 ∨ p ∈ L:=hp.imp id fun h => h.1
 have hr:=I.insR hf hp
 obtain ⟨z1,z2,z3⟩:=(I.out a ha).2 hu
 have hli:=I.unlisted ha hu
 have hga:=(fE_zero.1 hf).1
 have hta:=(gE_there hga).1
 have a0:=there_ne0 hta
 have hV : ∀ x,x = 0 ∨ x ∈ L → x = 0 ∨ (m.gE x = 0 ∧ ((fun y => if y = a then m.insS p a else m.gV y) x).cap.ty ≠ 0):=fun x hx => hx.imp id fun h => by
  have hxa : x ≠ a:=fun e => hu (e ▸ h)
  simp only [if_neg hxa]
  exact I.gE h
 have hj:=fun {m' : M} (T : m.To m' m.gV m.fst) => (T.pX hga hr).join I.len.1 (hV p hp') (hV _ (I.nx_mem hp')) (I.nx_ne hp') (.inr hta)
 have h1:=(M.To.refl m).gX a |>.liX (m.gV a) |>.fstX
 unfold M.ins
 simp only [hf,if_true,gX_liB,hli,Bool.false_eq_true,if_false,liX_fst,gX_fst,fstX_fE,liX_fE,gX_fE,fstX_gV,liX_gV,gX_gV,z1,z3]
 by_cases h0 : p = 0
 ·subst h0
  simp only [if_true]
  refine ⟨trivial, ?_⟩
  have:=hj h1
  simp only [M.insS,M.nx,if_true] at this
  exact this
 ·obtain ⟨hpL,hd⟩:=hp.resolve_left h0
  have hpa : p ≠ a:=fun e => hu (e ▸ hpL)
  have hw : IntKind.i64.wrap ((m.gV p).depth + 1) = (m.gV p).depth + 1:=by have:=gV_links m p; rw [wrap64] <;> omega
  simp only [h0,if_false,I.full p hpL,hpa,hd,or_self,if_true,hw]
  refine ⟨trivial, ?_⟩
  have:=hj (h1.gX p)
  simp only [M.insS,M.nx,h0,if_false] at this
  simp only [M.insV,M.insF,M.insS,M.nx,h0,if_false]
  exact this
theorem M.Inv.rins_to (I : m.Inv P L) {p a : Int} (ha : P a) (hf : m.fE a = 0) (hu : a ∉ L) (hp : p = 0 ∨ (p ∈ L ∧ (m.gV p).depth ≠ 65535)) : (m.rins p a).1 = 0 ∧ m.To (m.rins p a).2 (m.insV p a) (m.insF p a):=by
 have hp' : p = 0 ∨ p ∈ L:=hp.imp id fun h => h.1
 have hr:=I.insR hf hp
 obtain ⟨z1,z2,z3⟩:=(I.out a ha).2 hu
 have hli:=I.unlisted ha hu
 have hga:=(fE_zero.1 hf).1
 have hta:=(gE_there hga).1
 have a0:=there_ne0 hta
 have hVp : p = 0 ∨ (m.gE p = 0 ∧ (m.gV p).cap.ty ≠ 0):=hp'.imp id fun h => I.gE h
 have hne:=I.nx_ne hp'
 have hpa : p ≠ a:=fun e => by
  rcases hp' with h | h
  ·exact a0 (e ▸ h)
  ·exact hu (e ▸ h)
 have hna : m.nx p ≠ a:=fun e => by
  rcases I.nx_mem hp' with h | h
  ·exact a0 (e ▸ h)
  ·exact hu (e ▸ h)
 have hVn : m.nx p = 0 ∨ (m.gE (m.nx p) = 0 ∧ ((fun x => if x = p then (m.gV p).toN a else m.gV x) (m.nx p)).cap.ty ≠ 0):=(I.nx_mem hp').imp id fun h => by
  refine ⟨(I.gE h).1, ?_⟩
  have hx : m.nx p ≠ p:=fun e => by
   rcases hne with h2 | h2
   ·exact I.no0 (h2 ▸ h)
   ·exact h2 e.symm
  simp only [if_neg hx]
  exact (I.gE h).2
 have hj:=fun {m' : M} (T : m.To m' m.gV m.fst) => (((T.lkX I.len.1 hVp (.inr hta)).bk hVn (.inr hta)).pX hga hr).val (V':=m.insV p a) (fun x hx => by
  simp only [M.insV,jnV]
  by_cases c1 : x = a
  ·subst c1
   simp only [if_true,if_neg (Ne.symm hpa),if_neg (Ne.symm hna)]
  ·by_cases c2 : x = p
   ·subst c2
    have hx : x ≠ m.nx x:=fun e => by
     rcases hne with h2 | h2
     ·exact hx (e.trans h2)
     ·exact h2 e
    simp only [if_neg c1,if_neg hx,if_true,if_neg hpa]
   ·by_cases c3 : x = m.nx p
    ·have c4 : ¬ m.nx p = p:=by rw [← c3]; exact c2
     simp only [if_neg c1,if_neg c2,if_pos c3,if_neg c4,if_neg hna]
    ·simp only [if_neg c1,if_neg c2,if_neg c3]) (F':=m.insF p a) rfl
 have h1:=(M.To.refl m).gX a |>.fstX
 unfold M.rins
 simp only [hf,if_true,gX_liB,hli,Bool.false_eq_true,if_false,gX_fst,fstX_fE,gX_fE,fstX_gV,gX_gV,z1,z3]
 by_cases h0 : p = 0
 ·subst h0
  simp only [if_true]
  refine ⟨trivial, ?_⟩
  have:=hj h1
  simp only [M.insS,M.nx,if_true] at this
  exact this
 ·obtain ⟨hpL,hd⟩:=hp.resolve_left h0
  have hw : IntKind.i64.wrap ((m.gV p).depth + 1) = (m.gV p).depth + 1:=by have:=gV_links m p; rw [wrap64] <;> omega
  simp only [h0,if_false,I.full p hpL,hpa,hd,or_self,if_true,hw]
  refine ⟨trivial, ?_⟩
  have:=hj (h1.gX p)
  simp only [M.insS,M.nx,h0,if_false] at this
  exact this
def insL (p a : Int) : List Int → List Int
 | [] => []
 | x :: L => if x = p then x :: a :: L else x :: insL p a L
theorem insL_app {p a : Int} : ∀ {L1 L2 : List Int},p ∉ L1 → insL p a (L1 ++ p :: L2) = L1 ++ p :: a :: L2
 | [],L2,_ => by simp [insL]
 | x :: L1,L2,h => by
  have hx : x ≠ p:=fun e => h (by rw [e]; exact List.mem_cons_self)
  simp only [List.cons_append,insL,if_neg hx,insL_app (L1:=L1) (L2:=L2) fun h2 => h (List.mem_cons_of_mem _ h2)]
def insLL (p a : Int) (L : List Int) : List Int:=if p = 0 then a :: L else insL p a L
theorem M.Inv.ins_inv (I : m.Inv P L) {p a : Int} (ha : P a) (hf : m.fE a = 0) (hu : a ∉ L) (hp : p = 0 ∨ p ∈ L) {m' : M} (T : m.To m' (m.insV p a) (m.insF p a)) : m'.Inv P (insLL p a L):=by
 have hga:=fE_zero.1 hf
 have a0:=there_ne0 (gE_there hga.1).1
 have hne:=I.nx_ne hp
 have hpn : ∀ x,x ∈ L → (m.insV p a x).next = (if x = p then a else (m.gV x).next) ∧ (m.insV p a x).prev = if x = m.nx p then a else (m.gV x).prev:=fun x hx => by
  have hxa : x ≠ a:=fun e => hu (e ▸ hx)
  have x0 : x ≠ 0:=fun e => I.no0 (e ▸ hx)
  refine ⟨?_, ?_⟩
  ·unfold M.insV
   rw [jnV_next]
   simp only [if_neg hxa]
  ·rcases hne with h | h
   ·have hx0 : ¬ x = m.nx p:=fun e => x0 (e.trans h)
    rw [if_neg hx0]
    unfold M.insV jnV
    split
    ·rename_i e
     have hpa : ¬ p = a:=fun e2 => hxa (e.trans e2)
     simp only [if_neg hpa]
     rw [e]; rfl
    ·simp only [if_neg hx0,if_neg hxa]
   ·unfold M.insV
    rw [jnV_prev _ _ _ _ _ h]
    simp only [if_neg hxa]
 have hVa : m.insV p a a = m.insS p a:=by
  have h1 : a ≠ p:=fun e => by
   rcases hp with h | h
   ·exact a0 (e.trans h)
   ·exact hu (e ▸ h)
  have h2 : a ≠ m.nx p:=fun e => by
   rcases I.nx_mem hp with h | h
   ·exact a0 (e.trans h)
   ·exact hu (e ▸ h)
  unfold M.insV
  rw [jnV_out h1 h2,if_pos rfl]
 have hcap : ∀ x,x = a ∨ x ∈ L → m.gE x = 0 ∧ (m.insV p a x).cap.ty ≠ 0:=fun x hx => by
  unfold M.insV
  rw [jnV_cap]
  rcases hx with rfl | hx
  ·rw [if_pos rfl]; exact hga
  ·have hxa : ¬ x = a:=fun e => hu (e ▸ hx)
   simp only [if_neg hxa]
   exact I.gE hx
 have hout : ∀ x,P x → x ≠ a → x ∉ L → (m.insV p a x).prev = 0 ∧ (m.insV p a x).next = 0 ∧ (m.insV p a x).depth = 0:=fun x hx h1 h2 => by
  have hg:=I.out x hx
  have x0:=there_ne0 (gE_there hg.1).1
  have e1 : x ≠ p:=fun e => by
   rcases hp with h | h
   ·exact x0 (e.trans h)
   ·exact h2 (e ▸ h)
  have e2 : x ≠ m.nx p:=fun e => by
   rcases I.nx_mem hp with h | h
   ·exact x0 (e.trans h)
   ·exact h2 (e ▸ h)
  unfold M.insV
  rw [jnV_out e1 e2,if_neg h1]
  exact hg.2 h2
 unfold insLL
 by_cases h0 : p = 0
 ·rw [if_pos h0]
  refine I.to T (List.nodup_cons.2 ⟨hu,I.nd⟩) (fun x hx => hcap x (List.mem_cons.1 hx)) ⟨?_, ?_, ?_⟩ ?_ (fun x hx hn => hout x hx (fun e => hn (e ▸ List.mem_cons_self)) fun h => hn (List.mem_cons_of_mem _ h))
  ·rw [hVa]; exact h0
  ·rw [hVa,← I.fst]; simp only [M.insS,M.nx,if_pos h0]
  ·refine chain_pre I.ch I.nd fun x hx => ?_
   obtain ⟨k1,k2⟩:=hpn x hx
   have x0 : x ≠ p:=fun e => I.no0 (h0 ▸ e ▸ hx)
   rw [if_neg x0] at k1
   refine ⟨k1, ?_⟩
   rw [k2,← I.fst]
   simp only [M.nx,if_pos h0]
  ·simp only [M.insF,if_pos h0,List.headD_cons]
 ·rw [if_neg h0]
  have hpL:=hp.resolve_left h0
  obtain ⟨L1,L2,rfl⟩:=List.append_of_mem hpL
  have nd:=I.nd
  have nd':=List.nodup_append.1 nd
  have hp1 : p ∉ L1:=fun h => nd'.2.2 p h p List.mem_cons_self rfl
  have hp2:=(List.nodup_cons.1 nd'.2.1).1
  rw [insL_app hp1]
  obtain ⟨c1,c2,c3,c4⟩:=chain_app.1 I.ch
  have hnx : m.nx p = L2.headD 0:=by unfold M.nx; rw [if_neg h0]; exact c3
  have hmem : ∀ x,x ∈ L1 ++ p :: a :: L2 ↔ x = a ∨ x ∈ L1 ++ p :: L2:=fun x => by
   simp only [List.mem_append,List.mem_cons]
   constructor
   ·rintro (h | h | h | h)
    ·exact .inr (.inl h)
    ·exact .inr (.inr (.inl h))
    ·exact .inl h
    ·exact .inr (.inr (.inr h))
   ·rintro (h | h | h | h)
    ·exact .inr (.inr (.inl h))
    ·exact .inl h
    ·exact .inr (.inl h)
    ·exact .inr (.inr (.inr h))
  refine I.to T ?_ (fun x hx => hcap x ((hmem x).1 hx)) (chain_app.2 ⟨?_, ?_, ?_, ?_, ?_, ?_⟩) ?_ (fun x hx hn => hout x hx (fun e => hn ((hmem x).2 (.inl e))) fun h => hn ((hmem x).2 (.inr h)))
  ·refine List.nodup_append.2 ⟨nd'.1,List.nodup_cons.2 ⟨?_,List.nodup_cons.2 ⟨fun h => hu (by simp [h]),(List.nodup_cons.1 nd'.2.1).2⟩⟩,fun x hx y hy => ?_⟩
   ·intro h
    rcases List.mem_cons.1 h with e | h
    ·exact hu (by rw [← e]; exact hpL)
    ·exact hp2 h
   ·rintro rfl
    rcases List.mem_cons.1 hy with e | hy
    ·exact nd'.2.2 x hx p List.mem_cons_self e
    ·rcases List.mem_cons.1 hy with e | hy
     ·exact hu (by rw [← e]; simp [hx])
     ·exact nd'.2.2 x hx x (List.mem_cons_of_mem _ hy) rfl
  ·refine chain_congr (fun x hx => ?_) c1
   have hxL : x ∈ L1 ++ p :: L2:=List.mem_append_left _ hx
   obtain ⟨k1,k2⟩:=hpn x hxL
   have e1 : x ≠ p:=fun e => hp1 (e ▸ hx)
   have e2 : x ≠ m.nx p:=fun e => by
    rw [hnx] at e
    cases L2 with
    | nil => exact I.no0 (by rw [← show x = 0 from e]; exact hxL)
    | cons y L2 =>
     rw [List.headD_cons] at e
     exact nd'.2.2 x hx y (List.mem_cons_of_mem _ List.mem_cons_self) e
   rw [if_neg e1] at k1
   rw [if_neg e2] at k2
   exact ⟨k2,k1⟩
  ·have:=(hpn p hpL).2
   rw [this]
   split
   ·rename_i e
    rcases hne with h | h
    ·exact absurd (e.trans h) h0
    ·exact absurd e h
   ·exact c2
  ·rw [(hpn p hpL).1,if_pos rfl]; rfl
  ·rw [hVa]; rfl
  ·rw [hVa]
   show m.nx p = L2.headD 0
   exact hnx
  ·refine chain_pre c4 (List.nodup_cons.1 nd'.2.1).2 fun x hx => ?_
   obtain ⟨k1,k2⟩:=hpn x (List.mem_append_right _ (List.mem_cons_of_mem _ hx))
   have e1 : x ≠ p:=fun e => hp2 (e ▸ hx)
   rw [if_neg e1] at k1
   exact ⟨k1,by rw [k2,hnx]⟩
  ·simp only [M.insF,if_neg h0,I.fst]
   cases L1 <;> rfl
end
end Go.Proofs.YtcdfofeolgbnbaaGreat

/- Package cdt: Swap. -/
namespace Go.Proofs.YtcdfofeolgbnbaaGreat
open Go.D
open Nat (reduceAdd reducePow reduceMul reduceSub reduceLeDiff reduceLT reduceEqDiff)
open Int (reduceNeg reduceLE reduceEq reduceNe reduceToNat)
open Go.D renaming istep → zy,pickR → zx,bin1R → zw,un1R → zv,eqS → zu,eq1 → zq,cmpS → zp,cmp1 → zj,isNil → zk,shows → zg,result → zZ,q_cond_t → zV,q_cond_f → zU
open List renaming set → zY,replicate → zX
open Option renaming map → zW
open Nat renaming reduceAdd → zQ,reducePow → yz,reduceMul → yy,reduceSub → yx,reduceLeDiff → yw,reduceLT → yv,reduceEqDiff → yu
open Int renaming reduceNeg → yq,reduceLE → yj,reduceEq → yk,reduceNe → yg,reduceToNat → yZ,reducePow → yY,reduceLT → yX,reduceAdd → yW,reduceSub → yV,reduceMul → yU,reduceBEq → yQ,reduceBNe → xz
set_option linter.all false
set_option maxRecDepth 100000
set_option maxHeartbeats 8000000

def oth (a b n : Int) : Int:=if n = a then b else if n = b then a else n
def othG : List V → List Blk → Res
 | [.s (.i .i64 n), .s (.p (.g i) 0), .s (.p (.g j) 0)],h => match cellAt h i,cellAt h j with
  | some a,some b => .ok (.s (.i .i64 (oth a b n))) [] h
  | _,_ => .bad
 | _,_ => .bad
theorem oth_snd : Snd Tryz.prog 127 (FSpec.of othG):=snd_run (noT_snd _) mixed Tryz.func127 dc127 100 fun args h K hc hS => by
 unfold othG at hS
 split at hS
 ·split at hS
  ·rename_i n i j _ _ a b hi hj
   obtain ⟨_,e1⟩:=cellAt_some hi
   obtain ⟨_,e2⟩:=cellAt_some hj
   simp only [spec_ok,oth] at hS
   by_cases c1 : n = a
   ·simp only [c1,if_true] at hS
    simp (maxSteps:=9999999) only [EV0,zy,zx,zw,zv,zu,zq,zp,zj,zk,leT,zg,rvC,zZ,zY,zX,zW,↓zV,↓zU,reduceCtorEq,zQ,yz,yY,yy,yx,yw,yv,yu,yq,yX,yj,yk,yg,yW,yV,yU,yZ,yQ,xz,df127,e1,e2,c1]
    exact hS
   ·by_cases c2 : n = b
    ·simp only [c1,if_false] at hS
     simp only [c2,if_true] at hS
     have c1' : ¬ b = a:=by rw [← c2]; exact c1
     simp (maxSteps:=9999999) only [EV0,zy,zx,zw,zv,zu,zq,zp,zj,zk,leT,zg,rvC,zZ,zY,zX,zW,↓zV,↓zU,reduceCtorEq,zQ,yz,yY,yy,yx,yw,yv,yu,yq,yX,yj,yk,yg,yW,yV,yU,yZ,yQ,xz,df127,e1,e2,c1',c2]
     exact hS
    ·simp only [c1,c2,if_false] at hS
     simp (maxSteps:=9999999) only [EV0,zy,zx,zw,zv,zu,zq,zp,zj,zk,leT,zg,rvC,zZ,zY,zX,zW,↓zV,↓zU,reduceCtorEq,zQ,yz,yY,yy,yx,yw,yv,yu,yq,yX,yj,yk,yg,yW,yV,yU,yZ,yQ,xz,df127,e1,e2,c1,c2]
     exact hS
  ·exact hS.elim
 ·exact hS.elim

def Slot.oth (a b : Int) (s : Slot) : Slot:=⟨s.cap,_root_.Go.Proofs.YtcdfofeolgbnbaaGreat.oth a b s.prev,_root_.Go.Proofs.YtcdfofeolgbnbaaGreat.oth a b s.next,s.depth⟩
def M.swap2 (m : M) (a b : Int) (s t : Slot) (x y : Bool) : M :=
 let m1:=(m.pX a (t.oth a b)).pX b (s.oth a b)
 let m2:=if x = true then m1.joinX (s.oth a b).prev b (s.oth a b).next else m1
 if y = true then m2.joinX (t.oth a b).prev a (t.oth a b).next else m2
def M.swp (m : M) (a b : Int) : Int × M :=
 if m.fE a = 0 then
  if (m.gX a).fE b = 0 then
   if a = b then (0,(m.gX a).gX b)
   else (0,((((m.gX a).gX b).liX (m.gV a)).liX ((m.gX a).gV b)).swap2 a b (m.gV a) ((m.gX a).gV b) (((m.gX a).gX b).liB a (m.gV a)) ((((m.gX a).gX b).liX (m.gV a)).liB b ((m.gX a).gV b)))
  else ((m.gX a).fE b,(m.gX a).gX b)
 else (m.fE a,m.gX a)
def swpM (b : Nat) (m : M) (st : M → List Blk) : List V → Res
 | [.s (.i .i64 f), .s (.i .i64 t)] => .ok (.s (.i .i64 (m.swp f t).1)) [] (st (m.swp f t).2)
 | _ => .bad
noncomputable def swpG:=memF swpM
noncomputable def TSw : Tab:=addT 74 fullG (addT 75 listedG (addT 79 put2G (addT 119 joinG (addT 127 othG (noT)))))
theorem TSw_snd : TSw.Snd Tryz.prog:=addT_snd ok74 full_snd (addT_snd ok75 listed_snd (addT_snd ok79 put2_snd (addT_snd ok119 join_snd (addT_snd ok127 oth_snd ((noT_snd _))))))
def swT (a : Nat) (x y : Bool) : List V:=setT [(0, .s (.p (.g a) 0)),(4, .s (.p (.l 0) 0)),(5, .s (.p (.l 1) 0)),(7, .s (.p (.l 2) 0)),(9, .s (.p (.l 3) 0)),(10, .s (.b x)),(11, .s (.b y))] (List.replicate 94 (.s .u))
def swL (x y : Int) (s t : Slot) : List Blk:=[⟨.rw,[.i .i64 x],1⟩,⟨.rw,[.i .i64 y],1⟩,⟨.rw,s.cl,14⟩,⟨.rw,t.cl,14⟩]
theorem sw_end {h : List Blk} {a b : Nat} {m : M} {K : V → List Blk → Prop} (H : IsMem h a b m) (hc : clean h.length h = true) (x y : Int) (s t : Slot) (q r : Bool) (hS : K (.s (.i .i64 0)) (setM h a b (m.swap2 x y s t q r))) :
  swp TSw.Γ h.length (finP df55.res K) [.c (DC.after 7 df55.body)] ⟨swT a q r,swL x y s t,h⟩:=by
 have hcm : ∀ m',clean h.length (setM h a b m') = true:=fun m' => setM_clean H hc H.ltb
 have o1 : ∀ X,cellAt (h ++ (⟨.rw,[.i .i64 x],1⟩ :: X)) h.length = some x:=fun X => cellAt_eq (room:=1) (by rw [app_get0]; rfl)
 have o2 : ∀ B X,cellAt (h ++ (B :: ⟨.rw,[.i .i64 y],1⟩ :: X)) (h.length + 1) = some y:=fun B X => cellAt_eq (room:=1) (by rw [app_getn]; rfl)
 have hbn : ∀ a b : Nat,¬ (a + b < a):=fun a b => by omega
 have v1 : IntKind.i64.wrap 1 = 1:=by decide
 have v2 : IntKind.i64.wrap 2 = 2:=by decide
 simp only [swT,swL]
 simp only [DC.after,df55]
 refine run_sound (Tab.ok_Γ _) 200 _ _ _ _ ?_
 simp (maxSteps:=9999999) only [EV0,zy,zx,zw,zv,zu,zq,zp,zj,zk,leT,zg,rvC,zZ,zY,zX,zW,↓zV,↓zU,reduceCtorEq,zQ,yz,yY,yy,yx,yw,yv,yu,yq,yX,yj,yk,yg,yW,yV,yU,yZ,yQ,xz,TSw,Slot.cl,setT,put,fillP,sub,EVt]
 rw [holds_loop]
 refine swp_loop fun X hX => ?_
 refine hX _ ?_
 refine run_sound (Tab.ok_Γ _) 200 _ _ _ _ ?_
 simp (maxSteps:=9999999) only [EV0,zy,zx,zw,zv,zu,zq,zp,zj,zk,leT,zg,rvC,zZ,zY,zX,zW,↓zV,↓zU,reduceCtorEq,zQ,yz,yY,yy,yx,yw,yv,yu,yq,yX,yj,yk,yg,yW,yV,yU,yZ,yQ,xz,TSw,othG,o1,o2,R.lend,R.unlend,S_ren,C.ren,V.ren,Blk.ren,take_app,drop_app,Nat.not_lt_zero,Nat.lt_irrefl,Nat.add_sub_cancel_left,Nat.not_lt,Nat.le_add_right,hc,Slot.cl,put,fillP,sub,EVt,hbn,v1,v2]
 intro _ _
 refine hX _ ?_
 refine run_sound (Tab.ok_Γ _) 200 _ _ _ _ ?_
 simp (maxSteps:=9999999) only [EV0,zy,zx,zw,zv,zu,zq,zp,zj,zk,leT,zg,rvC,zZ,zY,zX,zW,↓zV,↓zU,reduceCtorEq,zQ,yz,yY,yy,yx,yw,yv,yu,yq,yX,yj,yk,yg,yW,yV,yU,yZ,yQ,xz,TSw,othG,o1,o2,R.lend,R.unlend,S_ren,C.ren,V.ren,Blk.ren,take_app,drop_app,Nat.not_lt_zero,Nat.lt_irrefl,Nat.add_sub_cancel_left,Nat.not_lt,Nat.le_add_right,hc,Slot.cl,put,fillP,sub,EVt,hbn,v1,v2]
 intro _ _
 refine hX _ ?_
 cases q <;> cases r <;> simp only [M.swap2,Bool.false_eq_true,if_true,if_false] at hS
 all_goals refine run_sound (Tab.ok_Γ _) 300 _ _ _ _ ?_
 all_goals (simp (maxSteps:=9999999) only [EV0,zy,zx,zw,zv,zu,zq,zp,zj,zk,leT,zg,rvC,zZ,zY,zX,zW,↓zV,↓zU,reduceCtorEq,zQ,yz,yY,yy,yx,yw,yv,yu,yq,yX,yj,yk,yg,yW,yV,yU,yZ,yQ,xz,TSw,othG,o1,o2,R.lend,R.unlend,S_ren,C.ren,V.ren,Blk.ren,take_app,drop_app,Nat.not_lt_zero,Nat.lt_irrefl,Nat.add_sub_cancel_left,Nat.not_lt,Nat.le_add_right,hc,Slot.cl,put,fillP,sub,EVt,hbn,v1,v2,put2G,put2M,joinG,joinM,memF_eq H,memF_set H,setM_fun H,slotF,slot_eta,cap_eta])
 all_goals exact hS
theorem swp_snd : Snd Tryz.prog 55 (FSpec.of swpG):=(fwp_sound (Tab.snd_Γ TSw_snd) mixed Tryz.func55 dc55).weaken fun args h K hc hS => by
 change (swpG args h).spec K at hS
 obtain ⟨a,b,m,rest,rfl,H,hS1⟩:=memF_spec hS
 clear hS
 have hS:=hS1
 clear hS1
 unfold swpM at hS
 split at hS
 ·rename_i x y
  simp only [spec_ok] at hS
  by_cases c1 : m.fE x = 0
  ·by_cases c2 : (m.gX x).fE y = 0
   ·by_cases c3 : x = y
    ·subst c3
     simp only [M.swp,c1,c2,if_true] at hS
     refine fwp_run (Tab.ok_Γ _) 400 ?_
     simp (maxSteps:=9999999) only [EV0,zy,zx,zw,zv,zu,zq,zp,zj,zk,leT,zg,rvC,zZ,zY,zX,zW,↓zV,↓zU,reduceCtorEq,zQ,yz,yY,yy,yx,yw,yv,yu,yq,yX,yj,yk,yg,yW,yV,yU,yZ,yQ,xz,df55,TSw,fullG,memF_eq H,memF_set H,setM_fun H,fullM,Slot.cl,c1,c2,put,fillP,sub,EVt]
     exact hS
    ·simp only [M.swp,c1,c2,c3,if_true,if_false] at hS
     obtain ⟨s,hs⟩ : ∃ s,m.gV x = s:=⟨_,rfl⟩
     obtain ⟨t,ht⟩ : ∃ t,(m.gX x).gV y = t:=⟨_,rfl⟩
     rw [hs,ht] at hS
     obtain ⟨q,hq⟩ : ∃ q,((m.gX x).gX y).liB x s = q:=⟨_,rfl⟩
     obtain ⟨r,hr⟩ : ∃ r,(((m.gX x).gX y).liX s).liB y t = r:=⟨_,rfl⟩
     rw [hq,hr] at hS
     have key:=sw_end (K:=K) (H.set ((((m.gX x).gX y).liX s).liX t)) (by rw [setM_len]; exact setM_clean H hc H.ltb) x y s t q r (by rw [setM_set H.ne]; exact hS)
     rw [setM_len] at key
     refine fwp_of _ (fun _ _ => finP_fin) (cut_at 7 ?_)
     simp only [df55] at key ⊢
     refine run_sound (Tab.ok_Γ _) 400 _ _ _ _ ?_
     simp (maxSteps:=9999999) only [EV0,zy,zx,zw,zv,zu,zq,zp,zj,zk,leT,zg,rvC,zZ,zY,zX,zW,↓zV,↓zU,reduceCtorEq,zQ,yz,yY,yy,yx,yw,yv,yu,yq,yX,yj,yk,yg,yW,yV,yU,yZ,yQ,xz,TSw,fullG,memF_eq H,memF_set H,setM_fun H,fullM,listedG,listedM,slotF,slot_eta,cap_eta,Slot.cl,c1,c2,c3,hs,ht,hq,hr,put,fillP,sub,EVt]
     repeat' first | intro _ | apply And.intro
     all_goals refine swp_weak (Wk.keep 4 rfl rfl ?_ ?_ ?_) key
     all_goals (simp (maxSteps:=9999999) only [EV0,zy,zx,zw,zv,zu,zq,zp,zj,zk,leT,zg,rvC,zZ,zY,zX,zW,↓zV,↓zU,reduceCtorEq,zQ,yz,yY,yy,yx,yw,yv,yu,yq,yX,yj,yk,yg,yW,yV,yU,yZ,yQ,xz,swT,swL,Slot.cl,List.take_succ_cons,List.take_zero,List.length_cons,List.length_nil,List.all_cons,List.all_nil])
   ·simp only [M.swp,c1,c2,if_true,if_false] at hS
    refine fwp_run (Tab.ok_Γ _) 400 ?_
    simp (maxSteps:=9999999) only [EV0,zy,zx,zw,zv,zu,zq,zp,zj,zk,leT,zg,rvC,zZ,zY,zX,zW,↓zV,↓zU,reduceCtorEq,zQ,yz,yY,yy,yx,yw,yv,yu,yq,yX,yj,yk,yg,yW,yV,yU,yZ,yQ,xz,df55,TSw,fullG,memF_eq H,memF_set H,setM_fun H,fullM,Slot.cl,c1,c2,put,fillP,sub,EVt]
    exact hS
  ·simp only [M.swp,c1,if_false] at hS
   refine fwp_run (Tab.ok_Γ _) 400 ?_
   simp (maxSteps:=9999999) only [EV0,zy,zx,zw,zv,zu,zq,zp,zj,zk,leT,zg,rvC,zZ,zY,zX,zW,↓zV,↓zU,reduceCtorEq,zQ,yz,yY,yy,yx,yw,yv,yu,yq,yX,yj,yk,yg,yW,yV,yU,yZ,yQ,xz,df55,TSw,fullG,memF_eq H,memF_set H,setM_fun H,fullM,Slot.cl,c1,put,fillP,sub,EVt]
   exact hS
 ·exact hS.elim
end Go.Proofs.YtcdfofeolgbnbaaGreat

