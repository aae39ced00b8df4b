/- Lists that functions return,in one form: Descendants and List of the code and of the document. -/
import Derived.Test.YtcdfofeolgbnbaaGreatZ31
import Derived.Test.YtcdfofeolgbnbaaGreatZ32
import Derived.Test.YtcdfofeolgbnbaaGreatZ29
/- Move and Swap,of the code and of the document,tell the same of a memory in order; and it stays in order. -/
namespace Go.Proofs.YtcdfofeolgbnbaaGreat
open Go.D
set_option linter.all false
set_option maxRecDepth 100000
set_option maxHeartbeats 4000000

theorem jnV_prev0 (V : Int → Slot) (p a n x : Int) (h : n = 0 ∨ p ≠ n) (hx : x ≠ 0) : (jnV V p a n x).prev = if x = n then a else (V x).prev:=by
 rcases h with h | h
 ·subst h
  rw [if_neg hx]
  unfold jnV
  split
  ·rename_i e; rw [e]; rfl
  ·rfl
 ·exact jnV_prev V p a n x h
theorem nodup_map_on {ρ : Int → Int} {L : List Int} (hn : L.Nodup) (h : ∀ x y,x ∈ L → y ∈ L → ρ x = ρ y → x = y) : (L.map ρ).Nodup:=by
 unfold List.Nodup at hn ⊢
 rw [List.pairwise_map]
 exact hn.imp_of_mem fun hx hy hne e => hne (h _ _ hx hy e)

section
variable {m : M} {P : Int → Prop} {L : List Int}
def M.movV (m : M) (f t : Int) : Int → Slot:=jnV (fun x => if x = f then slotZ else if x = t then m.gV f else m.gV x) (m.gV f).prev t (m.gV f).next
def M.movF (m : M) (f t : Int) : Int:=if (m.gV f).prev = 0 then t else m.fst
theorem slotZ_R : slotRB slotZ = true:=by decide
theorem M.Inv.free (I : m.Inv P L) {t : Int} (ht : m.gE t = 0) (hz : m.gV t = slotZ) : t ∉ L ∧ t ≠ 0 ∧ m.eB t = true:=by
 refine ⟨fun h => (I.gE h).2 (by rw [hz]; rfl),there_ne0 (gE_there ht).1, ?_⟩
 unfold M.eB
 rw [if_pos ht,hz]
 exact Slot.isZ_iff.2 rfl
theorem M.Inv.mov_facts (I : m.Inv P L) {f t : Int} (hf : f ∈ L) (ht : m.gE t = 0) (hz : m.gV t = slotZ) {m' : M} (T : m.To m' m.gV m.fst) :
  m.To ((m'.pX t (m.gV f)).pX f slotZ) (fun x => if x = f then slotZ else if x = t then m.gV f else m.gV x) m.fst ∧
  (∀ x,x = 0 ∨ (x ∈ L ∧ x ≠ f) → x = 0 ∨ (m.gE x = 0 ∧ ((fun y => if y = f then slotZ else if y = t then m.gV f else m.gV y) x).cap.ty ≠ 0)) ∧
  ((m.gV f).prev = 0 ∨ ((m.gV f).prev ∈ L ∧ (m.gV f).prev ≠ f)) ∧ ((m.gV f).next = 0 ∨ ((m.gV f).next ∈ L ∧ (m.gV f).next ≠ f)):=by
 obtain ⟨htL,t0,_⟩:=I.free ht hz
 refine ⟨(T.pX ht (m.gV_u f)).pX (I.gE hf).1 slotZ_R,fun x hx => hx.imp id fun h => ?_, ?_, ?_⟩
 ·have h2 : x ≠ t:=fun e => htL (e ▸ h.1)
  simp only [if_neg h.2,if_neg h2]
  exact I.gE h.1
 ·rcases I.prev hf with h | h
  ·exact .inl h
  ·exact .inr ⟨h,I.irr_prev hf⟩
 ·rcases I.next hf with h | h
  ·exact .inl h
  ·exact .inr ⟨h,I.irr_next hf⟩
theorem M.Inv.mov_to (I : m.Inv P L) {f t : Int} (hf : f ∈ L) (ht : m.gE t = 0) (hz : m.gV t = slotZ) : (m.mov f t).1 = 0 ∧ m.To (m.mov f t).2 (m.movV f t) (m.movF f t):=by
 obtain ⟨htL,t0,heB⟩:=I.free ht hz
 have h1:=((M.To.refl m).gX f |>.gX t |>.liX (m.gV f))
 obtain ⟨k1,k2,k3,k4⟩:=I.mov_facts hf ht hz h1
 have hj:=k1.join I.len.1 (k2 _ k3) (k2 _ k4) (I.prev_next hf) (.inr (gE_there ht).1)
 unfold M.mov
 simp only [I.full f hf,if_true,gX_gE,ht,gX_eB,heB,gX_liB,I.listed hf]
 exact ⟨trivial,hj⟩
theorem M.Inv.rmov_to (I : m.Inv P L) {f t : Int} (hf : f ∈ L) (ht : m.gE t = 0) (hz : m.gV t = slotZ) : (m.rmov f t).1 = 0 ∧ m.To (m.rmov f t).2 (m.movV f t) (m.movF f t):=by
 obtain ⟨htL,t0,heB⟩:=I.free ht hz
 have hft:=(gE_there ht).1
 have key : ∀ {m' : M},m.To m' m.gV m.fst → m.To ((((m'.pX t (m.gV f)).pX f slotZ).lkX (m.gV f).prev t).bkX t (m.gV f).next) (m.movV f t) (m.movF f t):=fun T => by
  obtain ⟨k1,k2,k3,k4⟩:=I.mov_facts hf ht hz T
  have h1:=k1.lkX I.len.1 (k2 _ k3) (.inr hft)
  have hpn:=I.prev_next hf
  have h2:=h1.bk (n:=(m.gV f).next) (a:=t) ((k2 _ k4).imp id fun h => by
   refine ⟨h.1, ?_⟩
   have hne : (m.gV f).next ≠ (m.gV f).prev:=fun e => by
    rcases hpn with h3 | h3
    ·exact there_ne0 (gE_there h.1).1 h3
    ·exact h3 e.symm
   simp only [if_neg hne]
   exact h.2) (.inr hft)
  refine h2.val (fun x hx => ?_) rfl
  simp only [M.movV,jnV]
  by_cases c1 : x = (m.gV f).prev
  ·have c2 : ¬ x = (m.gV f).next:=fun e => by
    rcases hpn with h3 | h3
    ·exact hx (e.trans h3)
    ·exact h3 (c1.symm.trans e)
   simp only [if_pos c1,if_neg c2]
  ·by_cases c2 : x = (m.gV f).next
   ·have c3 : ¬ (m.gV f).next = (m.gV f).prev:=by rw [← c2]; exact c1
    simp only [if_neg c1,if_pos c2,if_neg c3]
   ·simp only [if_neg c1,if_neg c2]
 unfold M.rmov
 have hty : (m.gV t).cap.ty = 0:=by rw [hz]; rfl
 simp only [I.full f hf,if_true,gX_gE,ht,gX_gV,hty,gX_fst]
 by_cases h0 : (m.gV f).prev = 0
 ·have hfst:=(I.first hf).1 h0
  simp only [h0,hfst,if_true]
  refine ⟨trivial, ?_⟩
  have:=key ((M.To.refl m).gX f |>.gX t |>.fstX)
  rw [h0] at this
  exact this
 ·simp only [h0,if_false]
  exact ⟨trivial,key ((M.To.refl m).gX f |>.gX t)⟩
def rho (f t x : Int) : Int:=if x = f then t else x
theorem M.Inv.mov_inv (I : m.Inv P L) {f t : Int} (hf : f ∈ L) (ht : m.gE t = 0) (hz : m.gV t = slotZ) {m' : M} (T : m.To m' (m.movV f t) (m.movF f t)) : m'.Inv P (L.map (rho f t)):=by
 obtain ⟨htL,t0,heB⟩:=I.free ht hz
 have f0 : f ≠ 0:=fun e => I.no0 (e ▸ hf)
 have hpn:=I.prev_next hf
 have hft : f ≠ t:=fun e => htL (e ▸ hf)
 have hp : (m.gV f).prev ≠ f:=I.irr_prev hf
 have hn : (m.gV f).next ≠ f:=I.irr_next hf
 have hp' : (m.gV f).prev ≠ t:=fun e => by
  rcases I.prev hf with h | h
  ·exact t0 (e.symm.trans h)
  ·exact htL (e ▸ h)
 have hn' : (m.gV f).next ≠ t:=fun e => by
  rcases I.next hf with h | h
  ·exact t0 (e.symm.trans h)
  ·exact htL (e ▸ h)
 have hVt : m.movV f t t = m.gV f:=by
  unfold M.movV
  rw [jnV_out (Ne.symm hp') (Ne.symm hn')]
  simp only [if_neg (Ne.symm hft),if_true]
 have hVf : m.movV f t f = slotZ:=by
  unfold M.movV
  rw [jnV_out (Ne.symm hp) (Ne.symm hn)]
  simp only [if_true]
 have hVx : ∀ x,x ∈ L → x ≠ f → (m.movV f t x).cap = (m.gV x).cap ∧ (m.movV f t x).prev = rho f t (m.gV x).prev ∧ (m.movV f t x).next = rho f t (m.gV x).next:=fun x hx hxf => by
  have hxt : x ≠ t:=fun e => htL (e ▸ hx)
  have x0 : x ≠ 0:=fun e => I.no0 (e ▸ hx)
  unfold M.movV
  rw [jnV_cap,jnV_next,jnV_prev0 _ _ _ _ _ hpn x0]
  simp only [if_neg hxf,if_neg hxt]
  refine ⟨trivial, ?_, ?_⟩
  ·unfold rho
   have:=I.two_way hf hx
   by_cases c : x = (m.gV f).next
   ·rw [if_pos c,if_pos (this.1 c.symm)]
   ·rw [if_neg c,if_neg fun e => c (this.2 e).symm]
  ·unfold rho
   have:=I.two_way hx hf
   by_cases c : x = (m.gV f).prev
   ·rw [if_pos c,if_pos (this.2 c.symm)]
   ·rw [if_neg c,if_neg fun e => c (this.1 e).symm]
 have hr0 : rho f t 0 = 0:=by unfold rho; rw [if_neg (Ne.symm f0)]
 have hmem : ∀ y,y ∈ L.map (rho f t) → y = t ∨ (y ∈ L ∧ y ≠ f):=fun y hy => by
  obtain ⟨x,hx,rfl⟩:=List.mem_map.1 hy
  unfold rho
  split
  ·exact .inl rfl
  ·rename_i h; exact .inr ⟨hx,h⟩
 have htM : t ∈ L.map (rho f t):=List.mem_map.2 ⟨f,hf,by unfold rho; rw [if_pos rfl]⟩
 refine I.to T (nodup_map_on I.nd fun x y hx hy e => ?_) (fun y hy => ?_) ?_ ?_ (fun x hx hL => ?_)
 ·unfold rho at e
  split at e <;> split at e
  ·rename_i h1 h2; rw [h1,h2]
  ·rename_i h1 h2; exact absurd (e ▸ hy) htL
  ·rename_i h1 h2; exact absurd (e ▸ hx) htL
  ·exact e
 ·rcases hmem y hy with rfl | ⟨h1,h2⟩
  ·exact ⟨ht,by rw [hVt]; exact (I.gE hf).2⟩
  ·exact ⟨(I.gE h1).1,by rw [(hVx y h1 h2).1]; exact (I.gE h1).2⟩
 ·have:=chain_map (V':=m.movV f t) (ρ:=rho f t) (fun x hx => by
   by_cases c : x = f
   ·subst c
    have e : rho x t x = t:=by unfold rho; rw [if_pos rfl]
    rw [e,hVt]
    unfold rho
    rw [if_neg hp,if_neg hn]
    exact ⟨rfl,rfl⟩
   ·have e : rho f t x = x:=by unfold rho; rw [if_neg c]
    rw [e]
    exact ⟨(hVx x hx c).2.1,(hVx x hx c).2.2⟩) I.ch
  rw [hr0] at this
  exact this
 ·have:=headD_map (rho f t) L 0
  rw [hr0] at this
  rw [this,← I.fst]
  unfold M.movF rho
  by_cases c : (m.gV f).prev = 0
  ·rw [if_pos c,if_pos ((I.first hf).1 c)]
  ·rw [if_neg c,if_neg fun e => c ((I.first hf).2 e)]
 ·by_cases c : x = f
  ·rw [c,hVf]; exact ⟨rfl,rfl,rfl⟩
  ·have hxt : x ≠ t:=fun e => hL (e ▸ htM)
   have hxL : x ∉ L:=fun h => hL (List.mem_map.2 ⟨x,h,by unfold rho; rw [if_neg c]⟩)
   have x0:=there_ne0 (gE_there (I.out x hx).1).1
   have e1 : x ≠ (m.gV f).prev:=fun e => by
    rcases I.prev hf with h | h
    ·exact x0 (e.trans h)
    ·exact hxL (e ▸ h)
   have e2 : x ≠ (m.gV f).next:=fun e => by
    rcases I.next hf with h | h
    ·exact x0 (e.trans h)
    ·exact hxL (e ▸ h)
   unfold M.movV
   rw [jnV_out e1 e2]
   simp only [if_neg c,if_neg hxt]
   exact (I.out x hx).2 hxL
end

theorem oth_a {a b y : Int} (h : a ≠ b) : oth a b y = a ↔ y = b:=by
 unfold oth; split
 ·rename_i e
  constructor
  ·intro h2; exact absurd h2.symm h
  ·intro h2; exact absurd (e.symm.trans h2) h
 ·split
  ·rename_i e; exact ⟨fun _ => e,fun _ => rfl⟩
  ·rename_i e1 e2; exact ⟨fun h2 => absurd h2 e1,fun h2 => absurd h2 e2⟩
theorem oth_b {a b y : Int} (h : a ≠ b) : oth a b y = b ↔ y = a:=by
 unfold oth; split
 ·rename_i e; exact ⟨fun _ => e,fun _ => rfl⟩
 ·split
  ·rename_i e1 e; exact ⟨fun h2 => absurd h2 h,fun h2 => absurd h2 e1⟩
  ·rename_i e1 e2; exact ⟨fun h2 => absurd h2 e2,fun h2 => absurd h2 e1⟩
theorem oth_x {a b x y : Int} (h1 : x ≠ a) (h2 : x ≠ b) : oth a b y = x ↔ y = x:=by
 unfold oth; split
 ·rename_i e; exact ⟨fun h => absurd h.symm h2,fun h => absurd (h.symm.trans e) h1⟩
 ·split
  ·rename_i e1 e; exact ⟨fun h => absurd h.symm h1,fun h => absurd (h.symm.trans e) h2⟩
  ·exact Iff.rfl
theorem oth_of_a {a b : Int} : oth a b a = b:=by unfold oth; rw [if_pos rfl]
theorem oth_of_b {a b : Int} (h : a ≠ b) : oth a b b = a:=by unfold oth; rw [if_neg (Ne.symm h),if_pos rfl]
theorem oth_of {a b x : Int} (h1 : x ≠ a) (h2 : x ≠ b) : oth a b x = x:=by unfold oth; rw [if_neg h1,if_neg h2]
theorem oth_oth {a b : Int} (h : a ≠ b) (x : Int) : oth a b (oth a b x) = x:=by
 by_cases h1 : x = a
 ·rw [h1,oth_of_a,oth_of_b h]
 ·by_cases h2 : x = b
  ·rw [h2,oth_of_b h,oth_of_a]
  ·rw [oth_of h1 h2,oth_of h1 h2]

section
variable {m : M} {P : Int → Prop} {L : List Int}
def M.swV (m : M) (a b : Int) (x : Int) : Slot:=if x = a then (m.gV b).oth a b else if x = b then (m.gV a).oth a b else
 ⟨(m.gV x).cap,if x = (m.gV b).next then a else if x = (m.gV a).next then b else (m.gV x).prev,if x = (m.gV b).prev then a else if x = (m.gV a).prev then b else (m.gV x).next,(m.gV x).depth⟩
def M.swF (m : M) (a b : Int) : Int:=oth a b m.fst
theorem Slot.ext4 {s t : Slot} (h1 : s.cap = t.cap) (h2 : s.prev = t.prev) (h3 : s.next = t.next) (h4 : s.depth = t.depth) : s = t:=by
 cases s; cases t; simp only at h1 h2 h3 h4; subst h1; subst h2; subst h3; subst h4; rfl
structure SwF (m : M) (L : List Int) (a b : Int) : Prop where
 aL : a ∈ L
 bL : b ∈ L
 ne : a ≠ b
 a0 : a ≠ 0
 b0 : b ≠ 0
 o0 : oth a b 0 = 0
 oL : ∀ x,x = 0 ∨ x ∈ L → oth a b x = 0 ∨ oth a b x ∈ L
 pa : (m.gV a).prev = 0 ∨ (m.gV a).prev ∈ L
 na : (m.gV a).next = 0 ∨ (m.gV a).next ∈ L
 pb : (m.gV b).prev = 0 ∨ (m.gV b).prev ∈ L
 nb : (m.gV b).next = 0 ∨ (m.gV b).next ∈ L
 -- which neighbours are the other one
 ab : (m.gV a).next = b ↔ (m.gV b).prev = a
 ba : (m.gV b).next = a ↔ (m.gV a).prev = b
 paa : (m.gV a).prev ≠ a
 naa : (m.gV a).next ≠ a
 pbb : (m.gV b).prev ≠ b
 nbb : (m.gV b).next ≠ b
 pn : ∀ x,x ∈ L → x = (m.gV a).prev → x ≠ (m.gV b).prev
 nn : ∀ x,x ∈ L → x = (m.gV a).next → x ≠ (m.gV b).next
theorem M.Inv.swf (I : m.Inv P L) {a b : Int} (ha : a ∈ L) (hb : b ∈ L) (hne : a ≠ b) : SwF m L a b:=by
 have a0 : a ≠ 0:=fun e => I.no0 (e ▸ ha)
 have b0 : b ≠ 0:=fun e => I.no0 (e ▸ hb)
 have o0 : oth a b 0 = 0:=oth_of (Ne.symm a0) (Ne.symm b0)
 refine ⟨ha,hb,hne,a0,b0,o0,fun x hx => ?_,I.prev ha,I.next ha,I.prev hb,I.next hb,I.two_way ha hb,I.two_way hb ha,I.irr_prev ha,I.irr_next ha,I.irr_prev hb,I.irr_next hb,fun x hx e1 e2 => ?_,fun x hx e1 e2 => ?_⟩
 ·rcases hx with rfl | hx
  ·exact .inl o0
  ·right
   unfold oth
   split
   ·exact hb
   ·split
    ·exact ha
    ·exact hx
 ·exact hne (((I.two_way hx ha).2 e1.symm).symm.trans ((I.two_way hx hb).2 e2.symm))
 ·exact hne (((I.two_way ha hx).1 e1.symm).symm.trans ((I.two_way hb hx).1 e2.symm))
theorem SwF.ne0 {a b : Int} (S : SwF m L a b) {x : Int} (hx : x ≠ 0) (h : x = 0 ∨ x ∈ L) : x ∈ L:=h.resolve_left hx
theorem M.Inv.sw_R (I : m.Inv P L) {a b : Int} (S : SwF m L a b) {x : Int} (hx : x ∈ L) : slotRB ((m.gV x).oth a b) = true:=by
 have h2:=gV_links m x
 exact full_mk (I.full x hx) (I.link (S.oL _ (I.prev hx))) (I.link (S.oL _ (I.next hx))) h2.2.2.1 h2.2.2.2
def M.swV1 (m : M) (a b : Int) (x : Int) : Slot:=if x = b then (m.gV a).oth a b else if x = a then (m.gV b).oth a b else m.gV x
theorem M.Inv.sw_1 (I : m.Inv P L) {a b : Int} (S : SwF m L a b) {m' : M} (T : m.To m' m.gV m.fst) : m.To ((m'.pX a ((m.gV b).oth a b)).pX b ((m.gV a).oth a b)) (m.swV1 a b) m.fst :=
 (T.pX (I.gE S.aL).1 (I.sw_R S S.bL)).pX (I.gE S.bL).1 (I.sw_R S S.aL)
theorem M.Inv.sw_1f (I : m.Inv P L) {a b : Int} (S : SwF m L a b) {x : Int} (hx : x ∈ L) : m.gE x = 0 ∧ (m.swV1 a b x).cap.ty ≠ 0:=by
 refine ⟨(I.gE hx).1, ?_⟩
 unfold M.swV1
 split
 ·exact (I.gE S.aL).2
 ·split
  ·exact (I.gE S.bL).2
  ·exact (I.gE hx).2
theorem M.Inv.sw_to (I : m.Inv P L) {a b : Int} (ha : a ∈ L) (hb : b ∈ L) (hne : a ≠ b) : (m.swp a b).1 = 0 ∧ m.To (m.swp a b).2 (m.swV a b) (m.swF a b):=by
 have S:=I.swf ha hb hne
 have T1:=I.sw_1 S ((M.To.refl m).gX a |>.gX b |>.liX (m.gV a) |>.liX (m.gV b))
 have hx1:=S.oL _ S.pa
 have hx2:=S.oL _ S.na
 have hx3:=S.oL _ S.pb
 have hx4:=S.oL _ S.nb
 have hpn : ∀ {p n : Int},(n = 0 ∨ p ≠ n) → oth a b n = 0 ∨ oth a b p ≠ oth a b n:=fun h => by
  rcases h with h | h
  ·left; rw [h]; exact S.o0
  ·right; intro e; exact h ((oth_oth hne _).symm.trans ((congrArg (oth a b) e).trans (oth_oth hne _)))
 have hn1:=hpn (I.prev_next ha)
 have hn2:=hpn (I.prev_next hb)
 have T2:=T1.join I.len.1 (p:=oth a b (m.gV a).prev) (a:=b) (n:=oth a b (m.gV a).next) (hx1.imp id fun h => I.sw_1f S h) (hx2.imp id fun h => I.sw_1f S h) hn1 (.inr (fE_there (I.full b hb)))
 have T3:=T2.join I.len.1 (p:=oth a b (m.gV b).prev) (a:=a) (n:=oth a b (m.gV b).next) (hx3.imp id fun h => ⟨(I.gE h).1,by rw [jnV_cap]; exact (I.sw_1f S h).2⟩) (hx4.imp id fun h => ⟨(I.gE h).1,by rw [jnV_cap]; exact (I.sw_1f S h).2⟩) hn2 (.inr (fE_there (I.full a ha)))
 have key:=T3.val (V':=m.swV a b) (fun x hx => by
  refine Slot.ext4 ?_ ?_ ?_ ?_
  ·rw [jnV_cap,jnV_cap]
   unfold M.swV M.swV1
   by_cases c1 : x = b
   ·have : ¬ x = a:=fun e => hne (e.symm.trans c1)
    rw [if_pos c1,if_neg this,if_pos c1]
   ·rw [if_neg c1]
    by_cases c2 : x = a
    ·rw [if_pos c2,if_pos c2]
    ·rw [if_neg c2,if_neg c2,if_neg c1]
  ·rw [jnV_prev0 _ _ _ _ _ hn2 hx,jnV_prev0 _ _ _ _ _ hn1 hx]
   unfold M.swV M.swV1
   by_cases c2 : x = a
   ·subst c2
    rw [if_neg hne,if_pos rfl,if_pos rfl]
    have k1 : ¬ x = oth x b (m.gV b).next:=fun e => S.nbb ((oth_a hne).1 e.symm)
    rw [if_neg k1]
    by_cases k2 : x = oth x b (m.gV x).next
    ·rw [if_pos k2]
     have k3:=S.ab.1 ((oth_a hne).1 k2.symm)
     show b = oth x b (m.gV b).prev
     rw [k3,oth_of_a]
    ·rw [if_neg k2]
   ·by_cases c1 : x = b
    ·subst c1
     rw [if_pos rfl,if_neg c2,if_pos rfl]
     have k1 : ¬ x = oth a x (m.gV a).next:=fun e => S.naa ((oth_b hne).1 e.symm)
     rw [if_neg k1]
     by_cases k2 : x = oth a x (m.gV x).next
     ·rw [if_pos k2]
      have k3:=S.ba.1 ((oth_b hne).1 k2.symm)
      show a = oth a x (m.gV a).prev
      rw [k3,oth_of_b hne]
     ·rw [if_neg k2]
    ·rw [if_neg c1,if_neg c2,if_neg c2,if_neg c1]
     have e1 : (x = oth a b (m.gV b).next) = (x = (m.gV b).next):=propext ⟨fun e => ((oth_x c2 c1).1 e.symm).symm,fun e => ((oth_x c2 c1).2 e.symm).symm⟩
     have e2 : (x = oth a b (m.gV a).next) = (x = (m.gV a).next):=propext ⟨fun e => ((oth_x c2 c1).1 e.symm).symm,fun e => ((oth_x c2 c1).2 e.symm).symm⟩
     simp only [e1,e2]
  ·rw [jnV_next,jnV_next]
   unfold M.swV M.swV1
   by_cases c2 : x = a
   ·subst c2
    rw [if_neg hne,if_pos rfl,if_pos rfl]
    have k1 : ¬ x = oth x b (m.gV b).prev:=fun e => S.pbb ((oth_a hne).1 e.symm)
    rw [if_neg k1]
    by_cases k2 : x = oth x b (m.gV x).prev
    ·rw [if_pos k2]
     have k3:=S.ba.2 ((oth_a hne).1 k2.symm)
     show b = oth x b (m.gV b).next
     rw [k3,oth_of_a]
    ·rw [if_neg k2]
   ·by_cases c1 : x = b
    ·subst c1
     rw [if_pos rfl,if_neg c2,if_pos rfl]
     have k1 : ¬ x = oth a x (m.gV a).prev:=fun e => S.paa ((oth_b hne).1 e.symm)
     rw [if_neg k1]
     by_cases k2 : x = oth a x (m.gV x).prev
     ·rw [if_pos k2]
      have k3:=S.ab.2 ((oth_b hne).1 k2.symm)
      show a = oth a x (m.gV a).next
      rw [k3,oth_of_b hne]
     ·rw [if_neg k2]
    ·rw [if_neg c1,if_neg c2,if_neg c2,if_neg c1]
     have e1 : (x = oth a b (m.gV b).prev) = (x = (m.gV b).prev):=propext ⟨fun e => ((oth_x c2 c1).1 e.symm).symm,fun e => ((oth_x c2 c1).2 e.symm).symm⟩
     have e2 : (x = oth a b (m.gV a).prev) = (x = (m.gV a).prev):=propext ⟨fun e => ((oth_x c2 c1).1 e.symm).symm,fun e => ((oth_x c2 c1).2 e.symm).symm⟩
     simp only [e1,e2]
  ·rw [jnV_depth,jnV_depth]
   unfold M.swV M.swV1
   by_cases c1 : x = b
   ·have : ¬ x = a:=fun e => hne (e.symm.trans c1)
    rw [if_pos c1,if_neg this,if_pos c1]
   ·rw [if_neg c1]
    by_cases c2 : x = a
    ·rw [if_pos c2,if_pos c2]
    ·rw [if_neg c2,if_neg c2,if_neg c1]) (F':=m.swF a b) (by
  have hz : ∀ y,oth a b y = 0 ↔ y = 0:=fun y => oth_x (Ne.symm S.a0) (Ne.symm S.b0)
  have f1:=I.first ha
  have f2:=I.first hb
  simp only [hz,M.swF]
  by_cases k2 : (m.gV b).prev = 0
  ·rw [if_pos k2,f2.1 k2,oth_of_b hne]
  ·rw [if_neg k2]
   by_cases k1 : (m.gV a).prev = 0
   ·rw [if_pos k1,f1.1 k1,oth_of_a]
   ·rw [if_neg k1,oth_of (fun e => k1 (f1.2 e)) (fun e => k2 (f2.2 e))])
 unfold M.swp
 simp only [I.full a ha,if_true,gX_fE,I.full b hb,hne,if_false,gX_gV,gX_liB,I.listed ha,liX_liB,I.listed hb]
 refine ⟨trivial, ?_⟩
 simp only [M.swap2,if_true]
 exact key

def upN (V : Int → Slot) (c : Bool) (p a : Int) (z : Int) : Slot:=if c = true ∧ z = p then (V z).toN a else V z
def upP (V : Int → Slot) (c : Bool) (p a : Int) (z : Int) : Slot:=if c = true ∧ z = p then (V z).toP a else V z
theorem upN_cap (V : Int → Slot) (c : Bool) (p a z : Int) : (upN V c p a z).cap = (V z).cap:=by unfold upN; split <;> rfl
theorem upN_prev (V : Int → Slot) (c : Bool) (p a z : Int) : (upN V c p a z).prev = (V z).prev:=by unfold upN; split <;> rfl
theorem upN_depth (V : Int → Slot) (c : Bool) (p a z : Int) : (upN V c p a z).depth = (V z).depth:=by unfold upN; split <;> rfl
theorem upN_next (V : Int → Slot) (c : Bool) (p a z : Int) : (upN V c p a z).next = if c = true ∧ z = p then a else (V z).next:=by unfold upN; split <;> rfl
theorem upP_cap (V : Int → Slot) (c : Bool) (p a z : Int) : (upP V c p a z).cap = (V z).cap:=by unfold upP; split <;> rfl
theorem upP_next (V : Int → Slot) (c : Bool) (p a z : Int) : (upP V c p a z).next = (V z).next:=by unfold upP; split <;> rfl
theorem upP_depth (V : Int → Slot) (c : Bool) (p a z : Int) : (upP V c p a z).depth = (V z).depth:=by unfold upP; split <;> rfl
theorem upP_prev (V : Int → Slot) (c : Bool) (p a z : Int) : (upP V c p a z).prev = if c = true ∧ z = p then a else (V z).prev:=by unfold upP; split <;> rfl
def stp (p v : Int) : Bool:=decide (¬ p = 0 ∧ ¬ p = v)
theorem M.To.r15 {m' : M} {V : Int → Slot} {F : Int} (T : m.To m' V F) {u v : Int} {x : Slot} (hp : x.prev = 0 ∨ (m.gE x.prev = 0 ∧ (V x.prev).cap.ty ≠ 0)) (hu : thereB m u = true) : m.To (m'.r15 u v x) (upN V (stp x.prev v) x.prev u) F:=by
 unfold M.r15
 by_cases c : ¬ x.prev = 0 ∧ ¬ x.prev = v
 ·rw [if_pos c]
  have hc : stp x.prev v = true:=decide_eq_true c
  refine (T.nk (hp.resolve_left c.1) (.inr hu)).val (fun z hz => ?_) rfl
  unfold upN
  by_cases e : z = x.prev
  ·rw [if_pos e,if_pos ⟨hc,e⟩,e]
  ·rw [if_neg e,if_neg fun h => e h.2]
 ·rw [if_neg c]
  have hc : stp x.prev v = false:=decide_eq_false c
  refine T.val (fun z hz => ?_) rfl
  unfold upN
  rw [if_neg fun h => (by rw [hc] at h; cases h.1)]
theorem M.To.r16 {m' : M} {V : Int → Slot} {F : Int} (T : m.To m' V F) {u v : Int} {x : Slot} (hp : x.next = 0 ∨ (m.gE x.next = 0 ∧ (V x.next).cap.ty ≠ 0)) (hu : thereB m u = true) : m.To (m'.r16 u v x) (upP V (stp x.next v) x.next u) F:=by
 unfold M.r16
 by_cases c : ¬ x.next = 0 ∧ ¬ x.next = v
 ·rw [if_pos c]
  have hc : stp x.next v = true:=decide_eq_true c
  refine (T.bk (n:=x.next) (.inr (hp.resolve_left c.1)) (.inr hu)).val (fun z hz => ?_) rfl
  unfold upP
  by_cases e : z = x.next
  ·rw [if_pos e,if_pos ⟨hc,e⟩,e]
  ·rw [if_neg e,if_neg fun h => e h.2]
 ·rw [if_neg c]
  have hc : stp x.next v = false:=decide_eq_false c
  refine T.val (fun z hz => ?_) rfl
  unfold upP
  rw [if_neg fun h => (by rw [hc] at h; cases h.1)]
theorem M.Inv.rsw_to (I : m.Inv P L) {a b : Int} (ha : a ∈ L) (hb : b ∈ L) (hne : a ≠ b) : (m.rswp a b).1 = 0 ∧ m.To (m.rswp a b).2 (m.swV a b) (m.swF a b):=by
 have S:=I.swf ha hb hne
 have hz : ∀ y,oth a b y = 0 ↔ y = 0:=fun y => oth_x (Ne.symm S.a0) (Ne.symm S.b0)
 have rx : (m.gV b).rt a b = (m.gV b).oth a b:=by
  refine Slot.ext4 rfl ?_ ?_ rfl
  ·show (if (m.gV b).prev = a then b else (m.gV b).prev) = oth a b (m.gV b).prev
   unfold oth
   split
   ·rfl
   ·rw [if_neg S.pbb]
  ·show (if (m.gV b).next = a then b else (m.gV b).next) = oth a b (m.gV b).next
   unfold oth
   split
   ·rfl
   ·rw [if_neg S.nbb]
 have ry : (m.gV a).rt b a = (m.gV a).oth a b:=by
  refine Slot.ext4 rfl ?_ ?_ rfl
  ·show (if (m.gV a).prev = b then a else (m.gV a).prev) = oth a b (m.gV a).prev
   unfold oth
   rw [if_neg S.paa]
  ·show (if (m.gV a).next = b then a else (m.gV a).next) = oth a b (m.gV a).next
   unfold oth
   rw [if_neg S.naa]
 have ta:=fE_there (I.full a ha)
 have tb:=fE_there (I.full b hb)
 have T1:=I.sw_1 S ((M.To.refl m).gX a |>.gX b |>.fstX)
 have T2:=T1.r15 (u:=a) (v:=b) (x:=(m.gV b).oth a b) ((S.oL _ S.pb).imp id fun h => I.sw_1f S h) ta
 have T3:=T2.r16 (u:=a) (v:=b) (x:=(m.gV b).oth a b) ((S.oL _ S.nb).imp id fun h => ⟨(I.gE h).1,by rw [upN_cap]; exact (I.sw_1f S h).2⟩) ta
 have T4:=T3.r15 (u:=b) (v:=a) (x:=(m.gV a).oth a b) ((S.oL _ S.pa).imp id fun h => ⟨(I.gE h).1,by rw [upP_cap,upN_cap]; exact (I.sw_1f S h).2⟩) tb
 have T5:=T4.r16 (u:=b) (v:=a) (x:=(m.gV a).oth a b) ((S.oL _ S.na).imp id fun h => ⟨(I.gE h).1,by rw [upN_cap,upP_cap,upN_cap]; exact (I.sw_1f S h).2⟩) tb
 have st1 : ∀ y v,stp (oth a b y) v = true ↔ y ≠ 0 ∧ oth a b y ≠ v:=fun y v => by
  unfold stp
  rw [decide_eq_true_iff]
  exact ⟨fun h => ⟨fun e => h.1 ((hz y).2 e),h.2⟩,fun h => ⟨fun e => h.1 ((hz y).1 e),h.2⟩⟩
 have T6:=T5.val (V':=m.swV a b) (fun x hx => by
  refine Slot.ext4 ?_ ?_ ?_ ?_
  ·rw [upP_cap,upN_cap,upP_cap,upN_cap]
   unfold M.swV M.swV1
   by_cases c1 : x = b
   ·have : ¬ x = a:=fun e => hne (e.symm.trans c1)
    rw [if_pos c1,if_neg this,if_pos c1]
   ·rw [if_neg c1]
    by_cases c2 : x = a
    ·rw [if_pos c2,if_pos c2]
    ·rw [if_neg c2,if_neg c2,if_neg c1]
  ·rw [upP_prev,upN_prev,upP_prev,upN_prev]
   show (if stp (oth a b (m.gV a).next) a = true ∧ x = oth a b (m.gV a).next then b else if stp (oth a b (m.gV b).next) b = true ∧ x = oth a b (m.gV b).next then a else (m.swV1 a b x).prev) = _
   simp only [st1]
   unfold M.swV M.swV1
   by_cases c2 : x = a
   ·subst c2
    have k1 : ¬ (((m.gV x).next ≠ 0 ∧ oth x b (m.gV x).next ≠ x) ∧ x = oth x b (m.gV x).next):=fun h => h.1.2 h.2.symm
    have k2 : ¬ (((m.gV b).next ≠ 0 ∧ oth x b (m.gV b).next ≠ b) ∧ x = oth x b (m.gV b).next):=fun h => S.nbb ((oth_a hne).1 h.2.symm)
    rw [if_neg k1,if_neg k2,if_neg hne,if_pos rfl,if_pos rfl]
   ·by_cases c1 : x = b
    ·subst c1
     have k1 : ¬ (((m.gV a).next ≠ 0 ∧ oth a x (m.gV a).next ≠ a) ∧ x = oth a x (m.gV a).next):=fun h => S.naa ((oth_b hne).1 h.2.symm)
     have k2 : ¬ (((m.gV x).next ≠ 0 ∧ oth a x (m.gV x).next ≠ x) ∧ x = oth a x (m.gV x).next):=fun h => h.1.2 h.2.symm
     rw [if_neg k1,if_neg k2,if_pos rfl,if_neg c2,if_pos rfl]
    ·rw [if_neg c1,if_neg c2,if_neg c2,if_neg c1]
     have e1 : (((m.gV b).next ≠ 0 ∧ oth a b (m.gV b).next ≠ b) ∧ x = oth a b (m.gV b).next) = (x = (m.gV b).next):=propext ⟨fun e => ((oth_x c2 c1).1 e.2.symm).symm,fun e => ⟨⟨e ▸ hx,fun h => c1 (((oth_x c2 c1).2 e.symm).symm.trans h)⟩,((oth_x c2 c1).2 e.symm).symm⟩⟩
     have e2 : (((m.gV a).next ≠ 0 ∧ oth a b (m.gV a).next ≠ a) ∧ x = oth a b (m.gV a).next) = (x = (m.gV a).next):=propext ⟨fun e => ((oth_x c2 c1).1 e.2.symm).symm,fun e => ⟨⟨e ▸ hx,fun h => c2 (((oth_x c2 c1).2 e.symm).symm.trans h)⟩,((oth_x c2 c1).2 e.symm).symm⟩⟩
     simp only [e1,e2]
     by_cases d1 : x = (m.gV a).next
     ·have d2 : ¬ x = (m.gV b).next:=S.nn x (S.ne0 hx (d1 ▸ S.na)) d1
      rw [if_pos d1,if_neg d2,if_pos d1]
     ·rw [if_neg d1,if_neg d1]
  ·rw [upP_next,upN_next,upP_next,upN_next]
   show (if stp (oth a b (m.gV a).prev) a = true ∧ x = oth a b (m.gV a).prev then b else if stp (oth a b (m.gV b).prev) b = true ∧ x = oth a b (m.gV b).prev then a else (m.swV1 a b x).next) = _
   simp only [st1]
   unfold M.swV M.swV1
   by_cases c2 : x = a
   ·subst c2
    have k1 : ¬ (((m.gV x).prev ≠ 0 ∧ oth x b (m.gV x).prev ≠ x) ∧ x = oth x b (m.gV x).prev):=fun h => h.1.2 h.2.symm
    have k2 : ¬ (((m.gV b).prev ≠ 0 ∧ oth x b (m.gV b).prev ≠ b) ∧ x = oth x b (m.gV b).prev):=fun h => S.pbb ((oth_a hne).1 h.2.symm)
    rw [if_neg k1,if_neg k2,if_neg hne,if_pos rfl,if_pos rfl]
   ·by_cases c1 : x = b
    ·subst c1
     have k1 : ¬ (((m.gV a).prev ≠ 0 ∧ oth a x (m.gV a).prev ≠ a) ∧ x = oth a x (m.gV a).prev):=fun h => S.paa ((oth_b hne).1 h.2.symm)
     have k2 : ¬ (((m.gV x).prev ≠ 0 ∧ oth a x (m.gV x).prev ≠ x) ∧ x = oth a x (m.gV x).prev):=fun h => h.1.2 h.2.symm
     rw [if_neg k1,if_neg k2,if_pos rfl,if_neg c2,if_pos rfl]
    ·rw [if_neg c1,if_neg c2,if_neg c2,if_neg c1]
     have e1 : (((m.gV b).prev ≠ 0 ∧ oth a b (m.gV b).prev ≠ b) ∧ x = oth a b (m.gV b).prev) = (x = (m.gV b).prev):=propext ⟨fun e => ((oth_x c2 c1).1 e.2.symm).symm,fun e => ⟨⟨e ▸ hx,fun h => c1 (((oth_x c2 c1).2 e.symm).symm.trans h)⟩,((oth_x c2 c1).2 e.symm).symm⟩⟩
     have e2 : (((m.gV a).prev ≠ 0 ∧ oth a b (m.gV a).prev ≠ a) ∧ x = oth a b (m.gV a).prev) = (x = (m.gV a).prev):=propext ⟨fun e => ((oth_x c2 c1).1 e.2.symm).symm,fun e => ⟨⟨e ▸ hx,fun h => c2 (((oth_x c2 c1).2 e.symm).symm.trans h)⟩,((oth_x c2 c1).2 e.symm).symm⟩⟩
     simp only [e1,e2]
     by_cases d1 : x = (m.gV a).prev
     ·have d2 : ¬ x = (m.gV b).prev:=S.pn x (S.ne0 hx (d1 ▸ S.pa)) d1
      rw [if_pos d1,if_neg d2,if_pos d1]
     ·rw [if_neg d1,if_neg d1]
  ·rw [upP_depth,upN_depth,upP_depth,upN_depth]
   unfold M.swV M.swV1
   by_cases c1 : x = b
   ·have : ¬ x = a:=fun e => hne (e.symm.trans c1)
    rw [if_pos c1,if_neg this,if_pos c1]
   ·rw [if_neg c1]
    by_cases c2 : x = a
    ·rw [if_pos c2,if_pos c2]
    ·rw [if_neg c2,if_neg c2,if_neg c1]) rfl
 have T8 : ∀ {m' : M},m.To m' (m.swV a b) m.fst → m.To ((m'.r19 m.fst a b).r19 m.fst b a) (m.swV a b) (m.swF a b):=fun T => by
  unfold M.r19 M.swF oth
  by_cases k1 : m.fst = a
  ·have k2 : ¬ m.fst = b:=fun e => hne (k1.symm.trans e)
   rw [if_pos k1,if_neg k2,if_pos k1]
   exact T.sfX I.len.1 (.inr tb)
  ·by_cases k2 : m.fst = b
   ·rw [if_neg k1,if_pos k2,if_neg k1,if_pos k2]
    exact T.sfX I.len.1 (.inr ta)
   ·rw [if_neg k1,if_neg k2,if_neg k1,if_neg k2]
    exact T
 unfold M.rswp
 simp only [I.full a ha,if_true,gX_fE,I.full b hb,hne,if_false,gX_gV,gX_fst,rx,ry]
 refine ⟨trivial, ?_⟩
 exact T8 T6
theorem M.Inv.sw_inv (I : m.Inv P L) {a b : Int} (ha : a ∈ L) (hb : b ∈ L) (hne : a ≠ b) {m' : M} (T : m.To m' (m.swV a b) (m.swF a b)) : m'.Inv P (L.map (oth a b)):=by
 have S:=I.swf ha hb hne
 have hmem : ∀ y,y ∈ L.map (oth a b) ↔ y ∈ L:=fun y => by
  constructor
  ·intro hy
   obtain ⟨x,hx,rfl⟩:=List.mem_map.1 hy
   unfold oth
   split
   ·exact hb
   ·split
    ·exact ha
    ·exact hx
  ·intro hy
   refine List.mem_map.2 ⟨oth a b y, ?_,oth_oth hne y⟩
   unfold oth
   split
   ·exact hb
   ·split
    ·exact ha
    ·exact hy
 have hVa : m.swV a b a = (m.gV b).oth a b:=by unfold M.swV; rw [if_pos rfl]
 have hVb : m.swV a b b = (m.gV a).oth a b:=by unfold M.swV; rw [if_neg (Ne.symm hne),if_pos rfl]
 refine I.to T (nodup_map_on I.nd fun x y _ _ e => (oth_oth hne _).symm.trans ((congrArg (oth a b) e).trans (oth_oth hne _))) (fun y hy => ?_) ?_ ?_ (fun x hx hL => ?_)
 ·have hy:=(hmem y).1 hy
  refine ⟨(I.gE hy).1, ?_⟩
  unfold M.swV
  split
  ·exact (I.gE hb).2
  ·split
   ·exact (I.gE ha).2
   ·exact (I.gE hy).2
 ·have:=chain_map (V':=m.swV a b) (ρ:=oth a b) (fun x hx => by
   by_cases c1 : x = a
   ·subst c1
    rw [oth_of_a,hVb]
    exact ⟨rfl,rfl⟩
   ·by_cases c2 : x = b
    ·subst c2
     rw [oth_of_b hne,hVa]
     exact ⟨rfl,rfl⟩
    ·rw [oth_of c1 c2]
     unfold M.swV
     rw [if_neg c1,if_neg c2]
     refine ⟨?_, ?_⟩
     ·show (if x = (m.gV b).next then a else if x = (m.gV a).next then b else (m.gV x).prev) = oth a b (m.gV x).prev
      have t1:=I.two_way hb hx
      have t2:=I.two_way ha hx
      by_cases d1 : x = (m.gV b).next
      ·rw [if_pos d1,t1.1 d1.symm,oth_of_b hne]
      ·rw [if_neg d1]
       by_cases d2 : x = (m.gV a).next
       ·rw [if_pos d2,t2.1 d2.symm,oth_of_a]
       ·rw [if_neg d2,oth_of (fun e => d2 (t2.2 e).symm) (fun e => d1 (t1.2 e).symm)]
     ·show (if x = (m.gV b).prev then a else if x = (m.gV a).prev then b else (m.gV x).next) = oth a b (m.gV x).next
      have t1:=I.two_way hx hb
      have t2:=I.two_way hx ha
      by_cases d1 : x = (m.gV b).prev
      ·rw [if_pos d1,t1.2 d1.symm,oth_of_b hne]
      ·rw [if_neg d1]
       by_cases d2 : x = (m.gV a).prev
       ·rw [if_pos d2,t2.2 d2.symm,oth_of_a]
       ·rw [if_neg d2,oth_of (fun e => d2 (t2.1 e).symm) (fun e => d1 (t1.1 e).symm)]) I.ch
  rw [S.o0] at this
  exact this
 ·have:=headD_map (oth a b) L 0
  rw [S.o0] at this
  rw [this,← I.fst]
  rfl
 ·have hxL : x ∉ L:=fun h => hL ((hmem x).2 h)
  have x0:=there_ne0 (gE_there (I.out x hx).1).1
  have nm : ∀ y,y = 0 ∨ y ∈ L → x ≠ y:=fun y hy e => by
   rcases hy with h | h
   ·exact x0 (e.trans h)
   ·exact hxL (e ▸ h)
  unfold M.swV
  rw [if_neg (nm a (.inr ha)),if_neg (nm b (.inr hb))]
  simp only [if_neg (nm _ S.pa),if_neg (nm _ S.pb),if_neg (nm _ S.na),if_neg (nm _ S.nb)]
  exact (I.out x hx).2 hxL
end

def i64b (n : Int) : Prop:=-9223372036854775808 ≤ n ∧ n < 9223372036854775808
theorem len_sub : ∀ {L Q : List Int},L.Nodup → (∀ x,x ∈ L → x ∈ Q) → L.length ≤ Q.length
 | [],_,_,_ => Nat.zero_le _
 | x :: L,Q,hn,h => by
  obtain ⟨h1,h2⟩:=List.nodup_cons.1 hn
  have hx:=h x List.mem_cons_self
  have h3:=len_sub (L:=L) (Q:=Q.erase x) h2 fun y hy => by
   have hne : y ≠ x:=fun e => h1 (e ▸ hy)
   exact (List.mem_erase_of_ne hne).2 (h y (List.mem_cons_of_mem _ hy))
  have h4:=List.length_erase_of_mem hx
  have h5:=List.length_pos_of_mem hx
  simp only [List.length_cons]
  omega
theorem gV_fun {m m' : M} (e : m'.w = m.w) : m'.gV = m.gV:=funext fun x => gV_w e x
theorem M.Inv.of_w {m m' : M} {P : Int → Prop} {L : List Int} (I : m.Inv P L) (e : m'.w = m.w) : m'.Inv P L:=by
 refine ⟨by rw [e]; exact I.len,by rw [at_w e,fst_w e]; exact I.two,I.nd,fun x hx => by rw [fE_w e]; exact I.full x hx,by rw [gV_fun e]; exact I.ch,by rw [fst_w e]; exact I.fst,fun x hx => ?_⟩
 rw [gE_w e,gV_w e]
 exact I.out x hx
def deep (V : Int → Slot) (d : Int) (L : List Int) : List Int:=L.takeWhile fun y => decide (d < (V y).depth)
def allS (n : Nat) : List Int:=(List.range (n / 4)).map fun (i : Nat) => (4 * i : Int)
theorem allS_len (n : Nat) : (allS n).length = n / 4:=by simp [allS]
theorem there_all {m : M} {x : Int} (h : thereB m x = true) : x ∈ allS m.w.length:=by
 have hb:=there_iff.1 h
 rw [Int.tmod_eq_emod_of_nonneg (by omega)] at hb
 refine List.mem_map.2 ⟨(x / 4).toNat,List.mem_range.2 (by omega),by omega⟩
theorem M.Inv.llen {m : M} {P : Int → Prop} {L : List Int} (I : m.Inv P L) : L.length < m.w.length / 4:=by
 have h0 : (0 : Int) ∉ L:=I.no0
 have hl:=I.len
 have h1:=len_sub (L:=0 :: L) (Q:=allS m.w.length) (List.nodup_cons.2 ⟨h0,I.nd⟩) fun x hx => by
  rcases List.mem_cons.1 hx with rfl | hx
  ·exact List.mem_map.2 ⟨0,List.mem_range.2 (by omega),by simp⟩
  ·exact there_all (fE_there (I.full x hx))
 rw [allS_len] at h1
 simp only [List.length_cons] at h1
 omega

def slA (n : Nat) (l : List Int) (c : Nat) : S:=match l with
 | [] => .ns
 | _ :: l => .sl (.g n) 0 (l.length + 1) c
def bkA (l : List Int) (c : Nat) : List Blk:=match l with
 | [] => []
 | x :: l => [⟨.rw,intsB (x :: l),c⟩]
theorem slA_is (h X : List Blk) (l : List Int) (c : Nat) : IsArr In.c (h ++ (bkA l c ++ X)) (slA h.length l c) l:=by
 cases l with
 | nil => exact .inl ⟨.inl rfl,rfl⟩
 | cons x l => exact .inr ⟨h.length,c, .rw,c,rfl,by rw [arr_ints]; simp [bkA],fun _ h => by cases h⟩
theorem slA_sl (n : Nat) (l : List Int) (c : Nat) : IsSl (n + 1) (slA n l c) l.length:=by
 cases l with
 | nil => exact .inl ⟨rfl,rfl⟩
 | cons x l => exact .inr (.inr ⟨n,0,c,rfl,by omega⟩)
theorem slA_len {n : Nat} {l : List Int} {c : Nat} {ls h : List Blk} : lenR (.s (slA n l c)) ls h = .ok (.s (.i .i64 l.length)) ls h:=(slA_sl n l c).len
theorem slA_known {n : Nat} {l : List Int} {c : Nat} : V.known (.s (slA n l c)) = true:=(slA_sl n l c).known
theorem slA_noL {n : Nat} {l : List Int} {c : Nat} : (slA n l c).noL = true:=(slA_sl n l c).noL
theorem slA_Cknown {n : Nat} {l : List Int} {c : Nat} : C.known (.s (slA n l c)) = true:=by cases l <;> rfl
theorem slA_below {n : Nat} {l : List Int} {c m : Nat} : (slA n l c).below m = true:=(slA_sl n l c).below m
def lisA (st : M → List Blk) (l : List Int) (e : Int) (m : M) : Res:=.all l.length fun c => .ok (.tup [.s (slA (st m).length l c), .s (.i .i64 e)]) [] (st m ++ bkA l c)
def erO (o : Option (List Int)) : Int:=match o with
 | none => 110
 | some _ => 0
theorem dscR_of {st : M → List Blk} {o : Option (List Int)} {m : M} {K : V → List Blk → Prop} (h : (lisA st (o.getD []) (erO o) m).spec K) : (dscR st (o,m)).spec K:=by
 cases o with
 | none =>
  have:=h 0 (Nat.zero_le _)
  simp only [slA,bkA,Option.getD_none,List.append_nil,erO] at this
  exact this
 | some l =>
  cases l with
  | nil =>
   have:=h 0 (Nat.zero_le _)
   simp only [slA,bkA,Option.getD_some,List.append_nil,erO] at this
   exact this
  | cons x l => exact h
def M.dsE (m : M) (x : Int) : Int:=if m.fE x = 0 then erO (m.dsO x).1 else m.fE x
def M.rdsE (m : M) (x : Int) : Int:=if m.fE x = 0 then erO (m.rdsO x).1 else m.fE x
def dscAM (b : Nat) (m : M) (st : M → List Blk) : List V → Res
 | [.s (.i .i64 x)] => lisA st (m.dsL x) (m.dsE x) (m.dsO x).2
 | _ => .bad
noncomputable def dscA:=memF dscAM
def rdscAM (b : Nat) (m : M) (st : M → List Blk) : List V → Res
 | [.s (.i .i64 x)] => lisA st (m.rdsL x) (m.rdsE x) (m.rdsO x).2
 | _ => .bad
noncomputable def rdscA:=memF rdscAM
def M.lis (m : M) : Option (List Int) × M:=dsW (-1) (m.w.length / 4) m.fst m.fstX []
def M.rlis (m : M) : Option (List Int) × M:=rdW (-1) (m.w.length / 4) (m.w.length / 4 + 2) m.fst m.fstX []
def lisAM (b : Nat) (m : M) (st : M → List Blk) : List V → Res
 | [] => lisA st (m.lis.1.getD []) (erO m.lis.1) m.lis.2
 | _ => .bad
noncomputable def lisAG:=memF lisAM
def rlisAM (b : Nat) (m : M) (st : M → List Blk) : List V → Res
 | [] => lisA st (m.rlis.1.getD []) (erO m.rlis.1) m.rlis.2
 | _ => .bad
noncomputable def rlisAG:=memF rlisAM
theorem dscA_snd : Snd Tryz.prog 47 (FSpec.of dscA):=dsc_snd.weaken fun args h K _ hS => by
 obtain ⟨a,b,m,rest,rfl,H,hS1⟩:=memF_spec (f:=dscAM) hS
 clear hS
 have hS:=hS1
 clear hS1
 show (memF dscM _ _).spec K
 rw [memF_eq H]
 unfold dscAM at hS
 split at hS
 ·rename_i x
  simp only [dscM,spec_br,spec_ok]
  unfold M.dsL M.dsE M.dsO at hS
  by_cases hf : m.fE x = 0
  ·simp only [hf,if_true] at hS
   refine ⟨fun _ => dscR_of hS,fun h => ?_⟩
   simp [hf] at h
  ·simp only [hf,if_false,Option.getD_none] at hS
   refine ⟨fun h => ?_,fun _ => ?_⟩
   ·simp [hf] at h
   ·have:=hS 0 (Nat.zero_le _)
    simp only [slA,bkA,List.append_nil] at this
    exact this
 ·exact hS.elim
theorem rdscA_snd : Snd Tryz.prog 129 (FSpec.of rdscA):=rdsc_snd.weaken fun args h K _ hS => by
 obtain ⟨a,b,m,rest,rfl,H,hS1⟩:=memF_spec (f:=rdscAM) hS
 clear hS
 have hS:=hS1
 clear hS1
 show (memF rdscM _ _).spec K
 rw [memF_eq H]
 unfold rdscAM at hS
 split at hS
 ·rename_i x
  simp only [rdscM,spec_br,spec_ok]
  unfold M.rdsL M.rdsE M.rdsO at hS
  by_cases hf : m.fE x = 0
  ·simp only [hf,if_true] at hS
   refine ⟨fun _ => dscR_of hS,fun h => ?_⟩
   simp [hf] at h
  ·simp only [hf,if_false,Option.getD_none] at hS
   refine ⟨fun h => ?_,fun _ => ?_⟩
   ·simp [hf] at h
   ·have:=hS 0 (Nat.zero_le _)
    simp only [slA,bkA,List.append_nil] at this
    exact this
 ·exact hS.elim
theorem lisA_snd : Snd Tryz.prog 33 (FSpec.of lisAG):=lis_snd.weaken fun args h K _ hS => by
 obtain ⟨a,b,m,rest,rfl,H,hS1⟩:=memF_spec (f:=lisAM) hS
 clear hS
 have hS:=hS1
 clear hS1
 show (memF lisM _ _).spec K
 rw [memF_eq H]
 unfold lisAM at hS
 split at hS
 ·exact dscR_of hS
 ·exact hS.elim
theorem rlisA_snd : Snd Tryz.prog 120 (FSpec.of rlisAG):=rlis_snd.weaken fun args h K _ hS => by
 obtain ⟨a,b,m,rest,rfl,H,hS1⟩:=memF_spec (f:=rlisAM) hS
 clear hS
 have hS:=hS1
 clear hS1
 show (memF rlisM _ _).spec K
 rw [memF_eq H]
 unfold rlisAM at hS
 split at hS
 ·exact dscR_of hS
 ·exact hS.elim
end Go.Proofs.YtcdfofeolgbnbaaGreat

