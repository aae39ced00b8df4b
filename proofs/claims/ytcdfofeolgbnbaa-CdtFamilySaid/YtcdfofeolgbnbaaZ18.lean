/- Remove,of the code and of the document,at a slot of a list that is in order. -/
import Derived.Test.YtcdfofeolgbnbaaZ17
import Derived.Test.YtcdfofeolgbnbaaZ16
import Derived.Test.YtcdfofeolgbnbaaZ8
/- Swap,of the code and of the document,tells the same of a memory in order; and it stays in order. -/
namespace Go.Proofs.Ytcdfofeolgbnbaa
open Go.D
set_option linter.all false
set_option maxRecDepth 100000
set_option maxHeartbeats 4000000

theorem oth_a {a b y : Int} (h : a ≠ b) : oth a b y = a ↔ y = b:=by
 unfold oth; split
 ·rename_i e
  constructor
  ·intro h2; exact absurd h2.symm h
  ·intro h2; exact absurd (e.symm.trans h2) h
 ·split
  ·rename_i e; exact ⟨fun _ => e,fun _ => rfl⟩
  ·rename_i e1 e2; exact ⟨fun h2 => absurd h2 e1,fun h2 => absurd h2 e2⟩
theorem oth_b {a b y : Int} (h : a ≠ b) : oth a b y = b ↔ y = a:=by
 unfold oth; split
 ·rename_i e; exact ⟨fun _ => e,fun _ => rfl⟩
 ·split
  ·rename_i e1 e; exact ⟨fun h2 => absurd h2 h,fun h2 => absurd h2 e1⟩
  ·rename_i e1 e2; exact ⟨fun h2 => absurd h2 e2,fun h2 => absurd h2 e1⟩
theorem oth_x {a b x y : Int} (h1 : x ≠ a) (h2 : x ≠ b) : oth a b y = x ↔ y = x:=by
 unfold oth; split
 ·rename_i e; exact ⟨fun h => absurd h.symm h2,fun h => absurd (h.symm.trans e) h1⟩
 ·split
  ·rename_i e1 e; exact ⟨fun h => absurd h.symm h1,fun h => absurd (h.symm.trans e) h2⟩
  ·exact Iff.rfl
theorem oth_of_a {a b : Int} : oth a b a = b:=by unfold oth; rw [if_pos rfl]
theorem oth_of_b {a b : Int} (h : a ≠ b) : oth a b b = a:=by unfold oth; rw [if_neg (Ne.symm h),if_pos rfl]
theorem oth_of {a b x : Int} (h1 : x ≠ a) (h2 : x ≠ b) : oth a b x = x:=by unfold oth; rw [if_neg h1,if_neg h2]
theorem oth_oth {a b : Int} (h : a ≠ b) (x : Int) : oth a b (oth a b x) = x:=by
 by_cases h1 : x = a
 ·rw [h1,oth_of_a,oth_of_b h]
 ·by_cases h2 : x = b
  ·rw [h2,oth_of_b h,oth_of_a]
  ·rw [oth_of h1 h2,oth_of h1 h2]

section
variable {m : M} {P : Int → Prop} {L : List Int}
def M.swV (m : M) (a b : Int) (x : Int) : Slot:=if x = a then (m.gV b).oth a b else if x = b then (m.gV a).oth a b else
 ⟨(m.gV x).cap,if x = (m.gV b).next then a else if x = (m.gV a).next then b else (m.gV x).prev,if x = (m.gV b).prev then a else if x = (m.gV a).prev then b else (m.gV x).next,(m.gV x).depth⟩
def M.swF (m : M) (a b : Int) : Int:=oth a b m.fst
theorem Slot.ext4 {s t : Slot} (h1 : s.cap = t.cap) (h2 : s.prev = t.prev) (h3 : s.next = t.next) (h4 : s.depth = t.depth) : s = t:=by
 cases s; cases t; simp only at h1 h2 h3 h4; subst h1; subst h2; subst h3; subst h4; rfl
structure SwF (m : M) (L : List Int) (a b : Int) : Prop where
 aL : a ∈ L
 bL : b ∈ L
 ne : a ≠ b
 a0 : a ≠ 0
 b0 : b ≠ 0
 o0 : oth a b 0 = 0
 oL : ∀ x,x = 0 ∨ x ∈ L → oth a b x = 0 ∨ oth a b x ∈ L
 pa : (m.gV a).prev = 0 ∨ (m.gV a).prev ∈ L
 na : (m.gV a).next = 0 ∨ (m.gV a).next ∈ L
 pb : (m.gV b).prev = 0 ∨ (m.gV b).prev ∈ L
 nb : (m.gV b).next = 0 ∨ (m.gV b).next ∈ L
 -- which neighbours are the other one
 ab : (m.gV a).next = b ↔ (m.gV b).prev = a
 ba : (m.gV b).next = a ↔ (m.gV a).prev = b
 paa : (m.gV a).prev ≠ a
 naa : (m.gV a).next ≠ a
 pbb : (m.gV b).prev ≠ b
 nbb : (m.gV b).next ≠ b
 pn : ∀ x,x ∈ L → x = (m.gV a).prev → x ≠ (m.gV b).prev
 nn : ∀ x,x ∈ L → x = (m.gV a).next → x ≠ (m.gV b).next
theorem M.Inv.swf (I : m.Inv P L) {a b : Int} (ha : a ∈ L) (hb : b ∈ L) (hne : a ≠ b) : SwF m L a b:=by
 have a0 : a ≠ 0:=fun e => I.no0 (e ▸ ha)
 have b0 : b ≠ 0:=fun e => I.no0 (e ▸ hb)
 have o0 : oth a b 0 = 0:=oth_of (Ne.symm a0) (Ne.symm b0)
 refine ⟨ha,hb,hne,a0,b0,o0,fun x hx => ?_,I.prev ha,I.next ha,I.prev hb,I.next hb,I.two_way ha hb,I.two_way hb ha,I.irr_prev ha,I.irr_next ha,I.irr_prev hb,I.irr_next hb,fun x hx e1 e2 => ?_,fun x hx e1 e2 => ?_⟩
 ·rcases hx with rfl | hx
  ·exact .inl o0
  ·right
   unfold oth
   split
   ·exact hb
   ·split
    ·exact ha
    ·exact hx
 ·exact hne (((I.two_way hx ha).2 e1.symm).symm.trans ((I.two_way hx hb).2 e2.symm))
 ·exact hne (((I.two_way ha hx).1 e1.symm).symm.trans ((I.two_way hb hx).1 e2.symm))
theorem SwF.ne0 {a b : Int} (S : SwF m L a b) {x : Int} (hx : x ≠ 0) (h : x = 0 ∨ x ∈ L) : x ∈ L:=h.resolve_left hx
theorem M.Inv.sw_R (I : m.Inv P L) {a b : Int} (S : SwF m L a b) {x : Int} (hx : x ∈ L) : slotRB ((m.gV x).oth a b) = true:=by
 have h2:=gV_links m x
 exact full_mk (I.full x hx) (I.link (S.oL _ (I.prev hx))) (I.link (S.oL _ (I.next hx))) h2.2.2.1 h2.2.2.2
def M.swV1 (m : M) (a b : Int) (x : Int) : Slot:=if x = b then (m.gV a).oth a b else if x = a then (m.gV b).oth a b else m.gV x
theorem M.Inv.sw_1 (I : m.Inv P L) {a b : Int} (S : SwF m L a b) {m' : M} (T : m.To m' m.gV m.fst) : m.To ((m'.pX a ((m.gV b).oth a b)).pX b ((m.gV a).oth a b)) (m.swV1 a b) m.fst :=
 (T.pX (I.gE S.aL).1 (I.sw_R S S.bL)).pX (I.gE S.bL).1 (I.sw_R S S.aL)
theorem M.Inv.sw_1f (I : m.Inv P L) {a b : Int} (S : SwF m L a b) {x : Int} (hx : x ∈ L) : m.gE x = 0 ∧ (m.swV1 a b x).cap.ty ≠ 0:=by
 refine ⟨(I.gE hx).1, ?_⟩
 unfold M.swV1
 split
 ·exact (I.gE S.aL).2
 ·split
  ·exact (I.gE S.bL).2
  ·exact (I.gE hx).2
theorem M.Inv.sw_to (I : m.Inv P L) {a b : Int} (ha : a ∈ L) (hb : b ∈ L) (hne : a ≠ b) : (m.swp a b).1 = 0 ∧ m.To (m.swp a b).2 (m.swV a b) (m.swF a b):=by
 have S:=I.swf ha hb hne
 have T1:=I.sw_1 S ((M.To.refl m).gX a |>.gX b |>.liX (m.gV a) |>.liX (m.gV b))
 have hx1:=S.oL _ S.pa
 have hx2:=S.oL _ S.na
 have hx3:=S.oL _ S.pb
 have hx4:=S.oL _ S.nb
 have hpn : ∀ {p n : Int},(n = 0 ∨ p ≠ n) → oth a b n = 0 ∨ oth a b p ≠ oth a b n:=fun h => by
  rcases h with h | h
  ·left; rw [h]; exact S.o0
  ·right; intro e; exact h ((oth_oth hne _).symm.trans ((congrArg (oth a b) e).trans (oth_oth hne _)))
 have hn1:=hpn (I.prev_next ha)
 have hn2:=hpn (I.prev_next hb)
 have T2:=T1.join I.len.1 (p:=oth a b (m.gV a).prev) (a:=b) (n:=oth a b (m.gV a).next) (hx1.imp id fun h => I.sw_1f S h) (hx2.imp id fun h => I.sw_1f S h) hn1 (.inr (fE_there (I.full b hb)))
 have T3:=T2.join I.len.1 (p:=oth a b (m.gV b).prev) (a:=a) (n:=oth a b (m.gV b).next) (hx3.imp id fun h => ⟨(I.gE h).1,by rw [jnV_cap]; exact (I.sw_1f S h).2⟩) (hx4.imp id fun h => ⟨(I.gE h).1,by rw [jnV_cap]; exact (I.sw_1f S h).2⟩) hn2 (.inr (fE_there (I.full a ha)))
 have key:=T3.val (V':=m.swV a b) (fun x hx => by
  refine Slot.ext4 ?_ ?_ ?_ ?_
  ·rw [jnV_cap,jnV_cap]
   unfold M.swV M.swV1
   by_cases c1 : x = b
   ·have : ¬ x = a:=fun e => hne (e.symm.trans c1)
    rw [if_pos c1,if_neg this,if_pos c1]
   ·rw [if_neg c1]
    by_cases c2 : x = a
    ·rw [if_pos c2,if_pos c2]
    ·rw [if_neg c2,if_neg c2,if_neg c1]
  ·rw [jnV_prev0 _ _ _ _ _ hn2 hx,jnV_prev0 _ _ _ _ _ hn1 hx]
   unfold M.swV M.swV1
   by_cases c2 : x = a
   ·subst c2
    rw [if_neg hne,if_pos rfl,if_pos rfl]
    have k1 : ¬ x = oth x b (m.gV b).next:=fun e => S.nbb ((oth_a hne).1 e.symm)
    rw [if_neg k1]
    by_cases k2 : x = oth x b (m.gV x).next
    ·rw [if_pos k2]
     have k3:=S.ab.1 ((oth_a hne).1 k2.symm)
     show b = oth x b (m.gV b).prev
     rw [k3,oth_of_a]
    ·rw [if_neg k2]
   ·by_cases c1 : x = b
    ·subst c1
     rw [if_pos rfl,if_neg c2,if_pos rfl]
     have k1 : ¬ x = oth a x (m.gV a).next:=fun e => S.naa ((oth_b hne).1 e.symm)
     rw [if_neg k1]
     by_cases k2 : x = oth a x (m.gV x).next
     ·rw [if_pos k2]
      have k3:=S.ba.1 ((oth_b hne).1 k2.symm)
      show a = oth a x (m.gV a).prev
      rw [k3,oth_of_b hne]
     ·rw [if_neg k2]
    ·rw [if_neg c1,if_neg c2,if_neg c2,if_neg c1]
     have e1 : (x = oth a b (m.gV b).next) = (x = (m.gV b).next):=propext ⟨fun e => ((oth_x c2 c1).1 e.symm).symm,fun e => ((oth_x c2 c1).2 e.symm).symm⟩
     have e2 : (x = oth a b (m.gV a).next) = (x = (m.gV a).next):=propext ⟨fun e => ((oth_x c2 c1).1 e.symm).symm,fun e => ((oth_x c2 c1).2 e.symm).symm⟩
     simp only [e1,e2]
  ·rw [jnV_next,jnV_next]
   unfold M.swV M.swV1
   by_cases c2 : x = a
   ·subst c2
    rw [if_neg hne,if_pos rfl,if_pos rfl]
    have k1 : ¬ x = oth x b (m.gV b).prev:=fun e => S.pbb ((oth_a hne).1 e.symm)
    rw [if_neg k1]
    by_cases k2 : x = oth x b (m.gV x).prev
    ·rw [if_pos k2]
     have k3:=S.ba.2 ((oth_a hne).1 k2.symm)
     show b = oth x b (m.gV b).next
     rw [k3,oth_of_a]
    ·rw [if_neg k2]
   ·by_cases c1 : x = b
    ·subst c1
     rw [if_pos rfl,if_neg c2,if_pos rfl]
     have k1 : ¬ x = oth a x (m.gV a).prev:=fun e => S.paa ((oth_b hne).1 e.symm)
     rw [if_neg k1]
     by_cases k2 : x = oth a x (m.gV x).prev
     ·rw [if_pos k2]
      have k3:=S.ab.2 ((oth_b hne).1 k2.symm)
      show a = oth a x (m.gV a).next
      rw [k3,oth_of_b hne]
     ·rw [if_neg k2]
    ·rw [if_neg c1,if_neg c2,if_neg c2,if_neg c1]
     have e1 : (x = oth a b (m.gV b).prev) = (x = (m.gV b).prev):=propext ⟨fun e => ((oth_x c2 c1).1 e.symm).symm,fun e => ((oth_x c2 c1).2 e.symm).symm⟩
     have e2 : (x = oth a b (m.gV a).prev) = (x = (m.gV a).prev):=propext ⟨fun e => ((oth_x c2 c1).1 e.symm).symm,fun e => ((oth_x c2 c1).2 e.symm).symm⟩
     simp only [e1,e2]
  ·rw [jnV_depth,jnV_depth]
   unfold M.swV M.swV1
   by_cases c1 : x = b
   ·have : ¬ x = a:=fun e => hne (e.symm.trans c1)
    rw [if_pos c1,if_neg this,if_pos c1]
   ·rw [if_neg c1]
    by_cases c2 : x = a
    ·rw [if_pos c2,if_pos c2]
    ·rw [if_neg c2,if_neg c2,if_neg c1]) (F':=m.swF a b) (by
  have hz : ∀ y,oth a b y = 0 ↔ y = 0:=fun y => oth_x (Ne.symm S.a0) (Ne.symm S.b0)
  have f1:=I.first ha
  have f2:=I.first hb
  simp only [hz,M.swF]
  by_cases k2 : (m.gV b).prev = 0
  ·rw [if_pos k2,f2.1 k2,oth_of_b hne]
  ·rw [if_neg k2]
   by_cases k1 : (m.gV a).prev = 0
   ·rw [if_pos k1,f1.1 k1,oth_of_a]
   ·rw [if_neg k1,oth_of (fun e => k1 (f1.2 e)) (fun e => k2 (f2.2 e))])
 unfold M.swp
 simp only [I.full a ha,if_true,gX_fE,I.full b hb,hne,if_false,gX_gV,gX_liB,I.listed ha,liX_liB,I.listed hb]
 refine ⟨trivial, ?_⟩
 simp only [M.swap2,if_true]
 exact key

def upN (V : Int → Slot) (c : Bool) (p a : Int) (z : Int) : Slot:=if c = true ∧ z = p then (V z).toN a else V z
def upP (V : Int → Slot) (c : Bool) (p a : Int) (z : Int) : Slot:=if c = true ∧ z = p then (V z).toP a else V z
theorem upN_cap (V : Int → Slot) (c : Bool) (p a z : Int) : (upN V c p a z).cap = (V z).cap:=by unfold upN; split <;> rfl
theorem upN_prev (V : Int → Slot) (c : Bool) (p a z : Int) : (upN V c p a z).prev = (V z).prev:=by unfold upN; split <;> rfl
theorem upN_depth (V : Int → Slot) (c : Bool) (p a z : Int) : (upN V c p a z).depth = (V z).depth:=by unfold upN; split <;> rfl
theorem upN_next (V : Int → Slot) (c : Bool) (p a z : Int) : (upN V c p a z).next = if c = true ∧ z = p then a else (V z).next:=by unfold upN; split <;> rfl
theorem upP_cap (V : Int → Slot) (c : Bool) (p a z : Int) : (upP V c p a z).cap = (V z).cap:=by unfold upP; split <;> rfl
theorem upP_next (V : Int → Slot) (c : Bool) (p a z : Int) : (upP V c p a z).next = (V z).next:=by unfold upP; split <;> rfl
theorem upP_depth (V : Int → Slot) (c : Bool) (p a z : Int) : (upP V c p a z).depth = (V z).depth:=by unfold upP; split <;> rfl
theorem upP_prev (V : Int → Slot) (c : Bool) (p a z : Int) : (upP V c p a z).prev = if c = true ∧ z = p then a else (V z).prev:=by unfold upP; split <;> rfl
def stp (p v : Int) : Bool:=decide (¬ p = 0 ∧ ¬ p = v)
theorem M.To.r15 {m' : M} {V : Int → Slot} {F : Int} (T : m.To m' V F) {u v : Int} {x : Slot} (hp : x.prev = 0 ∨ (m.gE x.prev = 0 ∧ (V x.prev).cap.ty ≠ 0)) (hu : thereB m u = true) : m.To (m'.r15 u v x) (upN V (stp x.prev v) x.prev u) F:=by
 unfold M.r15
 by_cases c : ¬ x.prev = 0 ∧ ¬ x.prev = v
 ·rw [if_pos c]
  have hc : stp x.prev v = true:=decide_eq_true c
  refine (T.nk (hp.resolve_left c.1) (.inr hu)).val (fun z hz => ?_) rfl
  unfold upN
  by_cases e : z = x.prev
  ·rw [if_pos e,if_pos ⟨hc,e⟩,e]
  ·rw [if_neg e,if_neg fun h => e h.2]
 ·rw [if_neg c]
  have hc : stp x.prev v = false:=decide_eq_false c
  refine T.val (fun z hz => ?_) rfl
  unfold upN
  rw [if_neg fun h => (by rw [hc] at h; cases h.1)]
theorem M.To.r16 {m' : M} {V : Int → Slot} {F : Int} (T : m.To m' V F) {u v : Int} {x : Slot} (hp : x.next = 0 ∨ (m.gE x.next = 0 ∧ (V x.next).cap.ty ≠ 0)) (hu : thereB m u = true) : m.To (m'.r16 u v x) (upP V (stp x.next v) x.next u) F:=by
 unfold M.r16
 by_cases c : ¬ x.next = 0 ∧ ¬ x.next = v
 ·rw [if_pos c]
  have hc : stp x.next v = true:=decide_eq_true c
  refine (T.bk (n:=x.next) (.inr (hp.resolve_left c.1)) (.inr hu)).val (fun z hz => ?_) rfl
  unfold upP
  by_cases e : z = x.next
  ·rw [if_pos e,if_pos ⟨hc,e⟩,e]
  ·rw [if_neg e,if_neg fun h => e h.2]
 ·rw [if_neg c]
  have hc : stp x.next v = false:=decide_eq_false c
  refine T.val (fun z hz => ?_) rfl
  unfold upP
  rw [if_neg fun h => (by rw [hc] at h; cases h.1)]
theorem M.Inv.rsw_to (I : m.Inv P L) {a b : Int} (ha : a ∈ L) (hb : b ∈ L) (hne : a ≠ b) : (m.rswp a b).1 = 0 ∧ m.To (m.rswp a b).2 (m.swV a b) (m.swF a b):=by
 have S:=I.swf ha hb hne
 have hz : ∀ y,oth a b y = 0 ↔ y = 0:=fun y => oth_x (Ne.symm S.a0) (Ne.symm S.b0)
 have rx : (m.gV b).rt a b = (m.gV b).oth a b:=by
  refine Slot.ext4 rfl ?_ ?_ rfl
  ·show (if (m.gV b).prev = a then b else (m.gV b).prev) = oth a b (m.gV b).prev
   unfold oth
   split
   ·rfl
   ·rw [if_neg S.pbb]
  ·show (if (m.gV b).next = a then b else (m.gV b).next) = oth a b (m.gV b).next
   unfold oth
   split
   ·rfl
   ·rw [if_neg S.nbb]
 have ry : (m.gV a).rt b a = (m.gV a).oth a b:=by
  refine Slot.ext4 rfl ?_ ?_ rfl
  ·show (if (m.gV a).prev = b then a else (m.gV a).prev) = oth a b (m.gV a).prev
   unfold oth
   rw [if_neg S.paa]
  ·show (if (m.gV a).next = b then a else (m.gV a).next) = oth a b (m.gV a).next
   unfold oth
   rw [if_neg S.naa]
 have ta:=fE_there (I.full a ha)
 have tb:=fE_there (I.full b hb)
 have T1:=I.sw_1 S ((M.To.refl m).gX a |>.gX b |>.fstX)
 have T2:=T1.r15 (u:=a) (v:=b) (x:=(m.gV b).oth a b) ((S.oL _ S.pb).imp id fun h => I.sw_1f S h) ta
 have T3:=T2.r16 (u:=a) (v:=b) (x:=(m.gV b).oth a b) ((S.oL _ S.nb).imp id fun h => ⟨(I.gE h).1,by rw [upN_cap]; exact (I.sw_1f S h).2⟩) ta
 have T4:=T3.r15 (u:=b) (v:=a) (x:=(m.gV a).oth a b) ((S.oL _ S.pa).imp id fun h => ⟨(I.gE h).1,by rw [upP_cap,upN_cap]; exact (I.sw_1f S h).2⟩) tb
 have T5:=T4.r16 (u:=b) (v:=a) (x:=(m.gV a).oth a b) ((S.oL _ S.na).imp id fun h => ⟨(I.gE h).1,by rw [upN_cap,upP_cap,upN_cap]; exact (I.sw_1f S h).2⟩) tb
 have st1 : ∀ y v,stp (oth a b y) v = true ↔ y ≠ 0 ∧ oth a b y ≠ v:=fun y v => by
  unfold stp
  rw [decide_eq_true_iff]
  exact ⟨fun h => ⟨fun e => h.1 ((hz y).2 e),h.2⟩,fun h => ⟨fun e => h.1 ((hz y).1 e),h.2⟩⟩
 have T6:=T5.val (V':=m.swV a b) (fun x hx => by
  refine Slot.ext4 ?_ ?_ ?_ ?_
  ·rw [upP_cap,upN_cap,upP_cap,upN_cap]
   unfold M.swV M.swV1
   by_cases c1 : x = b
   ·have : ¬ x = a:=fun e => hne (e.symm.trans c1)
    rw [if_pos c1,if_neg this,if_pos c1]
   ·rw [if_neg c1]
    by_cases c2 : x = a
    ·rw [if_pos c2,if_pos c2]
    ·rw [if_neg c2,if_neg c2,if_neg c1]
  ·rw [upP_prev,upN_prev,upP_prev,upN_prev]
   show (if stp (oth a b (m.gV a).next) a = true ∧ x = oth a b (m.gV a).next then b else if stp (oth a b (m.gV b).next) b = true ∧ x = oth a b (m.gV b).next then a else (m.swV1 a b x).prev) = _
   simp only [st1]
   unfold M.swV M.swV1
   by_cases c2 : x = a
   ·subst c2
    have k1 : ¬ (((m.gV x).next ≠ 0 ∧ oth x b (m.gV x).next ≠ x) ∧ x = oth x b (m.gV x).next):=fun h => h.1.2 h.2.symm
    have k2 : ¬ (((m.gV b).next ≠ 0 ∧ oth x b (m.gV b).next ≠ b) ∧ x = oth x b (m.gV b).next):=fun h => S.nbb ((oth_a hne).1 h.2.symm)
    rw [if_neg k1,if_neg k2,if_neg hne,if_pos rfl,if_pos rfl]
   ·by_cases c1 : x = b
    ·subst c1
     have k1 : ¬ (((m.gV a).next ≠ 0 ∧ oth a x (m.gV a).next ≠ a) ∧ x = oth a x (m.gV a).next):=fun h => S.naa ((oth_b hne).1 h.2.symm)
     have k2 : ¬ (((m.gV x).next ≠ 0 ∧ oth a x (m.gV x).next ≠ x) ∧ x = oth a x (m.gV x).next):=fun h => h.1.2 h.2.symm
     rw [if_neg k1,if_neg k2,if_pos rfl,if_neg c2,if_pos rfl]
    ·rw [if_neg c1,if_neg c2,if_neg c2,if_neg c1]
     have e1 : (((m.gV b).next ≠ 0 ∧ oth a b (m.gV b).next ≠ b) ∧ x = oth a b (m.gV b).next) = (x = (m.gV b).next):=propext ⟨fun e => ((oth_x c2 c1).1 e.2.symm).symm,fun e => ⟨⟨e ▸ hx,fun h => c1 (((oth_x c2 c1).2 e.symm).symm.trans h)⟩,((oth_x c2 c1).2 e.symm).symm⟩⟩
     have e2 : (((m.gV a).next ≠ 0 ∧ oth a b (m.gV a).next ≠ a) ∧ x = oth a b (m.gV a).next) = (x = (m.gV a).next):=propext ⟨fun e => ((oth_x c2 c1).1 e.2.symm).symm,fun e => ⟨⟨e ▸ hx,fun h => c2 (((oth_x c2 c1).2 e.symm).symm.trans h)⟩,((oth_x c2 c1).2 e.symm).symm⟩⟩
     simp only [e1,e2]
     by_cases d1 : x = (m.gV a).next
     ·have d2 : ¬ x = (m.gV b).next:=S.nn x (S.ne0 hx (d1 ▸ S.na)) d1
      rw [if_pos d1,if_neg d2,if_pos d1]
     ·rw [if_neg d1,if_neg d1]
  ·rw [upP_next,upN_next,upP_next,upN_next]
   show (if stp (oth a b (m.gV a).prev) a = true ∧ x = oth a b (m.gV a).prev then b else if stp (oth a b (m.gV b).prev) b = true ∧ x = oth a b (m.gV b).prev then a else (m.swV1 a b x).next) = _
   simp only [st1]
   unfold M.swV M.swV1
   by_cases c2 : x = a
   ·subst c2
    have k1 : ¬ (((m.gV x).prev ≠ 0 ∧ oth x b (m.gV x).prev ≠ x) ∧ x = oth x b (m.gV x).prev):=fun h => h.1.2 h.2.symm
    have k2 : ¬ (((m.gV b).prev ≠ 0 ∧ oth x b (m.gV b).prev ≠ b) ∧ x = oth x b (m.gV b).prev):=fun h => S.pbb ((oth_a hne).1 h.2.symm)
    rw [if_neg k1,if_neg k2,if_neg hne,if_pos rfl,if_pos rfl]
   ·by_cases c1 : x = b
    ·subst c1
     have k1 : ¬ (((m.gV a).prev ≠ 0 ∧ oth a x (m.gV a).prev ≠ a) ∧ x = oth a x (m.gV a).prev):=fun h => S.paa ((oth_b hne).1 h.2.symm)
     have k2 : ¬ (((m.gV x).prev ≠ 0 ∧ oth a x (m.gV x).prev ≠ x) ∧ x = oth a x (m.gV x).prev):=fun h => h.1.2 h.2.symm
     rw [if_neg k1,if_neg k2,if_pos rfl,if_neg c2,if_pos rfl]
    ·rw [if_neg c1,if_neg c2,if_neg c2,if_neg c1]
     have e1 : (((m.gV b).prev ≠ 0 ∧ oth a b (m.gV b).prev ≠ b) ∧ x = oth a b (m.gV b).prev) = (x = (m.gV b).prev):=propext ⟨fun e => ((oth_x c2 c1).1 e.2.symm).symm,fun e => ⟨⟨e ▸ hx,fun h => c1 (((oth_x c2 c1).2 e.symm).symm.trans h)⟩,((oth_x c2 c1).2 e.symm).symm⟩⟩
     have e2 : (((m.gV a).prev ≠ 0 ∧ oth a b (m.gV a).prev ≠ a) ∧ x = oth a b (m.gV a).prev) = (x = (m.gV a).prev):=propext ⟨fun e => ((oth_x c2 c1).1 e.2.symm).symm,fun e => ⟨⟨e ▸ hx,fun h => c2 (((oth_x c2 c1).2 e.symm).symm.trans h)⟩,((oth_x c2 c1).2 e.symm).symm⟩⟩
     simp only [e1,e2]
     by_cases d1 : x = (m.gV a).prev
     ·have d2 : ¬ x = (m.gV b).prev:=S.pn x (S.ne0 hx (d1 ▸ S.pa)) d1
      rw [if_pos d1,if_neg d2,if_pos d1]
     ·rw [if_neg d1,if_neg d1]
  ·rw [upP_depth,upN_depth,upP_depth,upN_depth]
   unfold M.swV M.swV1
   by_cases c1 : x = b
   ·have : ¬ x = a:=fun e => hne (e.symm.trans c1)
    rw [if_pos c1,if_neg this,if_pos c1]
   ·rw [if_neg c1]
    by_cases c2 : x = a
    ·rw [if_pos c2,if_pos c2]
    ·rw [if_neg c2,if_neg c2,if_neg c1]) rfl
 have T8 : ∀ {m' : M},m.To m' (m.swV a b) m.fst → m.To ((m'.r19 m.fst a b).r19 m.fst b a) (m.swV a b) (m.swF a b):=fun T => by
  unfold M.r19 M.swF oth
  by_cases k1 : m.fst = a
  ·have k2 : ¬ m.fst = b:=fun e => hne (k1.symm.trans e)
   rw [if_pos k1,if_neg k2,if_pos k1]
   exact T.sfX I.len.1 (.inr tb)
  ·by_cases k2 : m.fst = b
   ·rw [if_neg k1,if_pos k2,if_neg k1,if_pos k2]
    exact T.sfX I.len.1 (.inr ta)
   ·rw [if_neg k1,if_neg k2,if_neg k1,if_neg k2]
    exact T
 unfold M.rswp
 simp only [I.full a ha,if_true,gX_fE,I.full b hb,hne,if_false,gX_gV,gX_fst,rx,ry]
 refine ⟨trivial, ?_⟩
 exact T8 T6
theorem M.Inv.sw_inv (I : m.Inv P L) {a b : Int} (ha : a ∈ L) (hb : b ∈ L) (hne : a ≠ b) {m' : M} (T : m.To m' (m.swV a b) (m.swF a b)) : m'.Inv P (L.map (oth a b)):=by
 have S:=I.swf ha hb hne
 have hmem : ∀ y,y ∈ L.map (oth a b) ↔ y ∈ L:=fun y => by
  constructor
  ·intro hy
   obtain ⟨x,hx,rfl⟩:=List.mem_map.1 hy
   unfold oth
   split
   ·exact hb
   ·split
    ·exact ha
    ·exact hx
  ·intro hy
   refine List.mem_map.2 ⟨oth a b y, ?_,oth_oth hne y⟩
   unfold oth
   split
   ·exact hb
   ·split
    ·exact ha
    ·exact hy
 have hVa : m.swV a b a = (m.gV b).oth a b:=by unfold M.swV; rw [if_pos rfl]
 have hVb : m.swV a b b = (m.gV a).oth a b:=by unfold M.swV; rw [if_neg (Ne.symm hne),if_pos rfl]
 refine I.to T (nodup_map_on I.nd fun x y _ _ e => (oth_oth hne _).symm.trans ((congrArg (oth a b) e).trans (oth_oth hne _))) (fun y hy => ?_) ?_ ?_ (fun x hx hL => ?_)
 ·have hy:=(hmem y).1 hy
  refine ⟨(I.gE hy).1, ?_⟩
  unfold M.swV
  split
  ·exact (I.gE hb).2
  ·split
   ·exact (I.gE ha).2
   ·exact (I.gE hy).2
 ·have:=chain_map (V':=m.swV a b) (ρ:=oth a b) (fun x hx => by
   by_cases c1 : x = a
   ·subst c1
    rw [oth_of_a,hVb]
    exact ⟨rfl,rfl⟩
   ·by_cases c2 : x = b
    ·subst c2
     rw [oth_of_b hne,hVa]
     exact ⟨rfl,rfl⟩
    ·rw [oth_of c1 c2]
     unfold M.swV
     rw [if_neg c1,if_neg c2]
     refine ⟨?_, ?_⟩
     ·show (if x = (m.gV b).next then a else if x = (m.gV a).next then b else (m.gV x).prev) = oth a b (m.gV x).prev
      have t1:=I.two_way hb hx
      have t2:=I.two_way ha hx
      by_cases d1 : x = (m.gV b).next
      ·rw [if_pos d1,t1.1 d1.symm,oth_of_b hne]
      ·rw [if_neg d1]
       by_cases d2 : x = (m.gV a).next
       ·rw [if_pos d2,t2.1 d2.symm,oth_of_a]
       ·rw [if_neg d2,oth_of (fun e => d2 (t2.2 e).symm) (fun e => d1 (t1.2 e).symm)]
     ·show (if x = (m.gV b).prev then a else if x = (m.gV a).prev then b else (m.gV x).next) = oth a b (m.gV x).next
      have t1:=I.two_way hx hb
      have t2:=I.two_way hx ha
      by_cases d1 : x = (m.gV b).prev
      ·rw [if_pos d1,t1.2 d1.symm,oth_of_b hne]
      ·rw [if_neg d1]
       by_cases d2 : x = (m.gV a).prev
       ·rw [if_pos d2,t2.2 d2.symm,oth_of_a]
       ·rw [if_neg d2,oth_of (fun e => d2 (t2.1 e).symm) (fun e => d1 (t1.1 e).symm)]) I.ch
  rw [S.o0] at this
  exact this
 ·have:=headD_map (oth a b) L 0
  rw [S.o0] at this
  rw [this,← I.fst]
  rfl
 ·have hxL : x ∉ L:=fun h => hL ((hmem x).2 h)
  have x0:=there_ne0 (gE_there (I.out x hx).1).1
  have nm : ∀ y,y = 0 ∨ y ∈ L → x ≠ y:=fun y hy e => by
   rcases hy with h | h
   ·exact x0 (e.trans h)
   ·exact hxL (e ▸ h)
  unfold M.swV
  rw [if_neg (nm a (.inr ha)),if_neg (nm b (.inr hb))]
  simp only [if_neg (nm _ S.pa),if_neg (nm _ S.pb),if_neg (nm _ S.na),if_neg (nm _ S.nb)]
  exact (I.out x hx).2 hxL
end

def i64b (n : Int) : Prop:=-9223372036854775808 ≤ n ∧ n < 9223372036854775808
theorem len_sub : ∀ {L Q : List Int},L.Nodup → (∀ x,x ∈ L → x ∈ Q) → L.length ≤ Q.length
 | [],_,_,_ => Nat.zero_le _
 | x :: L,Q,hn,h => by
  obtain ⟨h1,h2⟩:=List.nodup_cons.1 hn
  have hx:=h x List.mem_cons_self
  have h3:=len_sub (L:=L) (Q:=Q.erase x) h2 fun y hy => by
   have hne : y ≠ x:=fun e => h1 (e ▸ hy)
   exact (List.mem_erase_of_ne hne).2 (h y (List.mem_cons_of_mem _ hy))
  have h4:=List.length_erase_of_mem hx
  have h5:=List.length_pos_of_mem hx
  simp only [List.length_cons]
  omega
theorem gV_fun {m m' : M} (e : m'.w = m.w) : m'.gV = m.gV:=funext fun x => gV_w e x
theorem M.Inv.of_w {m m' : M} {P : Int → Prop} {L : List Int} (I : m.Inv P L) (e : m'.w = m.w) : m'.Inv P L:=by
 refine ⟨by rw [e]; exact I.len,by rw [at_w e,fst_w e]; exact I.two,I.nd,fun x hx => by rw [fE_w e]; exact I.full x hx,by rw [gV_fun e]; exact I.ch,by rw [fst_w e]; exact I.fst,fun x hx => ?_⟩
 rw [gE_w e,gV_w e]
 exact I.out x hx
def deep (V : Int → Slot) (d : Int) (L : List Int) : List Int:=L.takeWhile fun y => decide (d < (V y).depth)
def allS (n : Nat) : List Int:=(List.range (n / 4)).map fun (i : Nat) => (4 * i : Int)
theorem allS_len (n : Nat) : (allS n).length = n / 4:=by simp [allS]
theorem there_all {m : M} {x : Int} (h : thereB m x = true) : x ∈ allS m.w.length:=by
 have hb:=there_iff.1 h
 rw [Int.tmod_eq_emod_of_nonneg (by omega)] at hb
 refine List.mem_map.2 ⟨(x / 4).toNat,List.mem_range.2 (by omega),by omega⟩
theorem M.Inv.llen {m : M} {P : Int → Prop} {L : List Int} (I : m.Inv P L) : L.length < m.w.length / 4:=by
 have h0 : (0 : Int) ∉ L:=I.no0
 have hl:=I.len
 have h1:=len_sub (L:=0 :: L) (Q:=allS m.w.length) (List.nodup_cons.2 ⟨h0,I.nd⟩) fun x hx => by
  rcases List.mem_cons.1 hx with rfl | hx
  ·exact List.mem_map.2 ⟨0,List.mem_range.2 (by omega),by simp⟩
  ·exact there_all (fE_there (I.full x hx))
 rw [allS_len] at h1
 simp only [List.length_cons] at h1
 omega

def slA (n : Nat) (l : List Int) (c : Nat) : S:=match l with
 | [] => .ns
 | _ :: l => .sl (.g n) 0 (l.length + 1) c
def bkA (l : List Int) (c : Nat) : List Blk:=match l with
 | [] => []
 | x :: l => [⟨.rw,intsB (x :: l),c⟩]
theorem slA_sl (n : Nat) (l : List Int) (c : Nat) : IsSl (n + 1) (slA n l c) l.length:=by
 cases l with
 | nil => exact .inl ⟨rfl,rfl⟩
 | cons x l => exact .inr (.inr ⟨n,0,c,rfl,by omega⟩)
theorem slA_len {n : Nat} {l : List Int} {c : Nat} {ls h : List Blk} : lenR (.s (slA n l c)) ls h = .ok (.s (.i .i64 l.length)) ls h:=(slA_sl n l c).len
theorem slA_known {n : Nat} {l : List Int} {c : Nat} : V.known (.s (slA n l c)) = true:=(slA_sl n l c).known
theorem slA_noL {n : Nat} {l : List Int} {c : Nat} : (slA n l c).noL = true:=(slA_sl n l c).noL
theorem slA_Cknown {n : Nat} {l : List Int} {c : Nat} : C.known (.s (slA n l c)) = true:=by cases l <;> rfl
theorem slA_below {n : Nat} {l : List Int} {c m : Nat} : (slA n l c).below m = true:=(slA_sl n l c).below m
def lisA (st : M → List Blk) (l : List Int) (e : Int) (m : M) : Res:=.all l.length fun c => .ok (.tup [.s (slA (st m).length l c), .s (.i .i64 e)]) [] (st m ++ bkA l c)
def erO (o : Option (List Int)) : Int:=match o with
 | none => 110
 | some _ => 0
theorem dscR_of {st : M → List Blk} {o : Option (List Int)} {m : M} {K : V → List Blk → Prop} (h : (lisA st (o.getD []) (erO o) m).spec K) : (dscR st (o,m)).spec K:=by
 cases o with
 | none =>
  have:=h 0 (Nat.zero_le _)
  simp only [slA,bkA,Option.getD_none,List.append_nil,erO] at this
  exact this
 | some l =>
  cases l with
  | nil =>
   have:=h 0 (Nat.zero_le _)
   simp only [slA,bkA,Option.getD_some,List.append_nil,erO] at this
   exact this
  | cons x l => exact h
def M.dsE (m : M) (x : Int) : Int:=if m.fE x = 0 then erO (m.dsO x).1 else m.fE x
def M.rdsE (m : M) (x : Int) : Int:=if m.fE x = 0 then erO (m.rdsO x).1 else m.fE x
def dscAM (b : Nat) (m : M) (st : M → List Blk) : List V → Res
 | [.s (.i .i64 x)] => lisA st (m.dsL x) (m.dsE x) (m.dsO x).2
 | _ => .bad
noncomputable def dscA:=memF dscAM
def M.lis (m : M) : Option (List Int) × M:=dsW (-1) (m.w.length / 4) m.fst m.fstX []
def M.rlis (m : M) : Option (List Int) × M:=rdW (-1) (m.w.length / 4) (m.w.length / 4 + 2) m.fst m.fstX []
def lisAM (b : Nat) (m : M) (st : M → List Blk) : List V → Res
 | [] => lisA st (m.lis.1.getD []) (erO m.lis.1) m.lis.2
 | _ => .bad
noncomputable def lisAG:=memF lisAM
theorem dscA_snd : Snd Try.prog 13 (FSpec.of dscA):=dsc_snd.weaken fun args h K _ hS => by
 obtain ⟨a,b,m,rest,rfl,H,hS1⟩:=memF_spec (f:=dscAM) hS
 clear hS
 have hS:=hS1
 clear hS1
 show (memF dscM _ _).spec K
 rw [memF_eq H]
 unfold dscAM at hS
 split at hS
 ·rename_i x
  simp only [dscM,spec_br,spec_ok]
  unfold M.dsL M.dsE M.dsO at hS
  by_cases hf : m.fE x = 0
  ·simp only [hf,if_true] at hS
   refine ⟨fun _ => dscR_of hS,fun h => ?_⟩
   simp [hf] at h
  ·simp only [hf,if_false,Option.getD_none] at hS
   refine ⟨fun h => ?_,fun _ => ?_⟩
   ·simp [hf] at h
   ·have:=hS 0 (Nat.zero_le _)
    simp only [slA,bkA,List.append_nil] at this
    exact this
 ·exact hS.elim
theorem lisA_snd : Snd Try.prog 12 (FSpec.of lisAG):=lis_snd.weaken fun args h K _ hS => by
 obtain ⟨a,b,m,rest,rfl,H,hS1⟩:=memF_spec (f:=lisAM) hS
 clear hS
 have hS:=hS1
 clear hS1
 show (memF lisM _ _).spec K
 rw [memF_eq H]
 unfold lisAM at hS
 split at hS
 ·exact dscR_of hS
 ·exact hS.elim
end Go.Proofs.Ytcdfofeolgbnbaa

/- Law 11: both memories,new; the document's memory of some words; one heap for both. -/
namespace Go.Proofs.Ytcdfofeolgbnbaa
open Go.D
open Nat (reduceAdd reducePow reduceMul reduceSub reduceLeDiff reduceLT reduceEqDiff)
open Int (reduceNeg reduceLE reduceEq reduceNe reduceToNat)
open Go.D renaming istep → zx,pickR → zw,bin1R → zv,un1R → zu,eqS → zq,eq1 → zp,cmpS → zj,cmp1 → zk,isNil → zg,shows → zZ,result → zY,q_cond_t → zU,q_cond_f → zQ
open List renaming set → zX,replicate → zW
open Option renaming map → zV
open Nat renaming reduceAdd → yz,reducePow → yy,reduceMul → yx,reduceSub → yw,reduceLeDiff → yv,reduceLT → yu,reduceEqDiff → yq
open Int renaming reduceNeg → yp,reduceLE → yj,reduceEq → yk,reduceNe → yg,reduceToNat → yZ,reducePow → yY,reduceLT → yX,reduceAdd → yW,reduceSub → yV,reduceMul → yU,reduceBEq → yQ,reduceBNe → xz
set_option linter.all false
set_option maxRecDepth 100000
set_option maxHeartbeats 8000000

/-! ### shared blocks picked out -/
def R.pickG (n : Nat) (is : List Nat) : R → R
 | .g k => if k < n then .g k else .g (n + is.getD (k - n) 0)
 | .l k => .l k
theorem Wk.selG {n0 : Nat} {t t' : List V} {ls H X X' : List Blk} (is : List Nat) (hnd : is.Nodup) (hn : n0 ≤ H.length) (hH : clean H.length H = true) (hX : X'.map (fun B => some (B.ren (R.pickG H.length is))) = is.map (fun i => X[i]?)) (ht : leT (t'.map (V.ren (R.pickG H.length is))) t) (hv : t'.all (V.val (H ++ X').length 0) = true)
  (hc : clean (H ++ X').length (H ++ X') = true) : Wk n0 ⟨t,ls,H ++ X⟩ ⟨t',[],H ++ X'⟩:=by
 obtain ⟨h1,h2⟩:=leT_at ht
 have hlen : X'.length = is.length:=by simpa using congrArg List.length hX
 have hold : ∀ r : R,r.val H.length 0 = true → R.pickG H.length is r = r:=fun r hr => by
  cases r with
  | g k => simp only [R.val,decide_eq_true_eq] at hr; simp only [R.pickG,if_pos hr]
  | l k => rfl
 have hren : ∀ s : S,s.val H.length 0 = true → s.ren (R.pickG H.length is) = s:=fun s hs => by
  cases s with
  | p r o => simp only [S.ren]; rw [hold r hs]
  | sl r o a c => simp only [S.ren]; rw [hold r hs]
  | fn f cs =>
   simp only [S.ren,S.fn.injEq,true_and]
   simp only [S.val,List.all_eq_true] at hs
   refine (List.map_congr_left fun x hx => ?_).trans (List.map_id _)
   rw [hold x.1 (hs x hx)]; rfl
  | _ => rfl
 refine .by_ (R.pickG H.length is) ⟨(by simp; omega),fun k hk => ?_,fun k hk hk2 => ?_,fun r r' hr hr' e => ?_,fun r B' hb => ?_,fun B hB => ?_,fun B hB => (by cases hB),(by simpa using h1),fun i v' hi => ?_⟩
 ·simp only [R.pickG,if_pos (show k < H.length by omega)]
 ·left
  simp only [R.pickG]
  split
  ·exact ⟨k,hk,rfl⟩
  ·exact ⟨_,by omega,rfl⟩
 ·cases r with
  | l k => simp [R.val] at hr
  | g k => cases r' with
   | l k' => simp [R.val] at hr'
   | g k' =>
    simp only [R.val,decide_eq_true_eq,List.length_append] at hr hr'
    simp only [R.pickG] at e
    by_cases c1 : k < H.length
    ·rw [if_pos c1] at e
     by_cases c2 : k' < H.length
     ·rw [if_pos c2] at e; exact e
     ·rw [if_neg c2] at e
      simp only [R.g.injEq] at e
      omega
    ·rw [if_neg c1] at e
     by_cases c2 : k' < H.length
     ·rw [if_pos c2] at e
      simp only [R.g.injEq] at e
      omega
     ·rw [if_neg c2] at e
      simp only [R.g.injEq,List.getD_eq_getElem?_getD] at e
      rw [List.getElem?_eq_getElem (by omega),List.getElem?_eq_getElem (by omega)] at e
      simp only [Option.getD_some] at e
      have:=(List.getElem_inj hnd).1 (Nat.add_left_cancel e)
      congr 1
      omega
 ·cases r with
  | l k => simp [blk] at hb
  | g k =>
   simp only [blk] at hb
   by_cases c1 : k < H.length
   ·rw [List.getElem?_append_left c1] at hb
    simp only [R.pickG,if_pos c1,blk]
    rw [List.getElem?_append_left c1,hb]
    obtain ⟨st,cells,room⟩:=B'
    simp only [Blk.ren,Option.some.injEq,Blk.mk.injEq,true_and,and_true]
    refine ((List.map_congr_left fun s hs => ?_).trans (List.map_id _)).symm
    refine hren s ?_
    simp only [clean,vals,List.all_eq_true] at hH
    exact hH _ (List.mem_of_getElem? hb) s hs
   ·rw [List.getElem?_append_right (by omega)] at hb
    have hk : k - H.length < is.length:=by rw [← hlen]; exact (List.getElem?_eq_some_iff.1 hb).1
    have:=congrArg (fun l => l[k - H.length]?) hX
    simp only [List.getElem?_map,hb,Option.map_some,List.getElem?_eq_getElem hk,Option.some.injEq] at this
    simp only [R.pickG,if_neg c1,List.getD_eq_getElem?_getD,List.getElem?_eq_getElem hk,Option.getD_some,blk]
    rw [List.getElem?_append_right (by omega),Nat.add_sub_cancel_left]
    exact this.symm
 ·simp only [clean,List.all_eq_true] at hc; exact hc B hB
 ·refine ⟨?_, ?_⟩
  ·simp only [List.all_eq_true] at hv; exact hv v' (List.mem_of_getElem? hi)
  ·rcases h2 i (v'.ren (R.pickG H.length is)) (by rw [List.getElem?_map,hi]; rfl) with h3 | h3
   ·exact .inl (V.ren_u' h3)
   ·exact .inr h3

/-! ### both in one heap -/
def bH (h : List Blk) (m r : M) (X : List Blk) : List Blk:=h ++ (MB (h.length + 1) m :: MW m :: MB (h.length + 3) r :: MW r :: bothB h.length (h.length + 2) :: X)
section
variable {h : List Blk}
theorem bH_len (h : List Blk) (m r : M) (X : List Blk) : (bH h m r X).length = h.length + 5 + X.length:=by simp only [bH,List.length_append,List.length_cons]; omega
theorem bH_app (h : List Blk) (m r : M) (X Y : List Blk) : bH h m r X ++ Y = bH h m r (X ++ Y):=by simp [bH]
theorem bH_m (h : List Blk) (m r : M) (X : List Blk) : IsMem (bH h m r X) h.length (h.length + 1) m:=by
 refine ⟨by omega, ?_, ?_⟩
 ·simp only [bH]; rw [app_get0]; rfl
 ·simp only [bH]; rw [app_getn]; rfl
theorem bH_r (h : List Blk) (m r : M) (X : List Blk) : IsMem (bH h m r X) (h.length + 2) (h.length + 3) r:=by
 refine ⟨by omega, ?_, ?_⟩
 ·simp only [bH]; rw [app_getn]; rfl
 ·simp only [bH]; rw [app_getn]; rfl
theorem bH_c (h : List Blk) (m r : M) (X : List Blk) : (bH h m r X)[h.length + 4]? = some ⟨.rw,[.p (.g h.length) 0, .p (.g (h.length + 2)) 0],2⟩:=by
 simp only [bH]; rw [app_getn]; rfl
theorem bH_is (h : List Blk) (m r : M) (X : List Blk) : IsB (bH h m r X) (h.length + 4) h.length (h.length + 1) (h.length + 2) (h.length + 3) m r :=
 ⟨bH_c h m r X,bH_m h m r X,bH_r h m r X,by omega,by omega,by omega,by omega⟩
theorem bH_setm (h : List Blk) (m r m' : M) (X : List Blk) : setM (bH h m r X) h.length (h.length + 1) m' = bH h m' r X:=by
 simp only [bH,setM]
 rw [app_set0,app_setn]; rfl
theorem bH_setr (h : List Blk) (m r r' : M) (X : List Blk) : setM (bH h m r X) (h.length + 2) (h.length + 3) r' = bH h m r' X:=by
 simp only [bH,setM]
 rw [app_setn,app_setn]; rfl
theorem bH_setc (h : List Blk) (m r : M) (X : List Blk) (B : Blk) : (bH h m r X).set (h.length + 4) B = h ++ (MB (h.length + 1) m :: MW m :: MB (h.length + 3) r :: MW r :: B :: X):=by
 simp only [bH]
 rw [app_setn]; rfl
theorem bH_two (h : List Blk) (m r m' r' : M) (X : List Blk) : twoH (bH h m r []) h.length (h.length + 1) (h.length + 2) (h.length + 3) m' r' X = bH h m' r' X:=by
 unfold twoH
 rw [bH_setm,bH_setr,bH_app]; rfl
theorem bH_fm {f : Nat → M → (M → List Blk) → List V → Res} (m r : M) (X : List Blk) (rest : List V) : memF f (.s (.p (.g h.length) 0) :: rest) (bH h m r X) = f (h.length + 1) m (fun m => bH h m r X) rest:=by
 rw [memF_eq (bH_m h m r X),show setM (bH h m r X) h.length (h.length + 1) = fun m => bH h m r X from funext fun m' => bH_setm h m r m' X]
theorem bH_fr {f : Nat → M → (M → List Blk) → List V → Res} (m r : M) (X : List Blk) (rest : List V) : memF f (.s (.p (.g (h.length + 2)) 0) :: rest) (bH h m r X) = f (h.length + 3) r (fun r => bH h m r X) rest:=by
 rw [memF_eq (bH_r h m r X),show setM (bH h m r X) (h.length + 2) (h.length + 3) = fun r => bH h m r X from funext fun r' => bH_setr h m r r' X]
theorem bH_fb {f : M → M → (M → M → List Blk) → List V → Res} (m r : M) (X : List Blk) (rest : List V) : bothF f (.s (.p (.g (h.length + 4)) 0) :: rest) (bH h m r X) = f m r (fun m r => bH h m r X) rest:=by
 have:=bothF_eq (f:=f) (rest:=rest) (X:=X) (m':=m) (r':=r) (bH_is h m r [])
 rw [bH_two] at this
 rw [this]
 congr 1
 funext m' r'
 exact bH_two h m r m' r' X
theorem bH_old {j : Nat} {B : Blk} (hj : h[j]? = some B) (m r : M) (X : List Blk) : (bH h m r X)[j]? = some B:=by
 unfold bH
 rw [List.getElem?_append_left (List.getElem?_eq_some_iff.1 hj).1]; exact hj
theorem bH_x (h : List Blk) (m r : M) (B : Blk) (X : List Blk) : (bH h m r (B :: X))[h.length + 5]? = some B:=by
 simp only [bH]; rw [app_getn]; rfl
theorem bH_take (h : List Blk) (m r : M) (X Y : List Blk) : (bH h m r (X ++ Y)).take (h.length + 5 + X.length) = bH h m r X:=by
 rw [← bH_app,← bH_len h m r X]
 exact List.take_left' rfl
theorem bH_drop (h : List Blk) (m r : M) (X Y : List Blk) : (bH h m r (X ++ Y)).drop (h.length + 5 + X.length) = Y:=by
 rw [← bH_app,← bH_len h m r X]
 exact List.drop_left' rfl
theorem bH_y (h : List Blk) (m r : M) (X : List Blk) (B : Blk) (Y : List Blk) : (bH h m r (X ++ B :: Y))[h.length + 5 + X.length]? = some B:=by
 rw [← bH_app,← bH_len h m r X,app_get0]; rfl
theorem bH_clean (hc : clean h.length h = true) (m r : M) {X : List Blk} (hX : X.all (fun B => vals (h.length + 5 + X.length) 0 B.cells) = true) : clean (bH h m r X).length (bH h m r X) = true:=by
 rw [bH_len]
 unfold bH
 refine clean_app hc (by omega) ?_
 simp only [clean,List.all_cons,Bool.and_eq_true]
 refine ⟨?_, ?_, ?_, ?_, ?_,hX⟩
 ·simp only [MB,vals,List.all_cons,List.all_nil,S.val,R.val,Bool.and_true,decide_eq_true_eq]; omega
 ·simp only [MW]; exact wc_vals _ _ _
 ·simp only [MB,vals,List.all_cons,List.all_nil,S.val,R.val,Bool.and_true,decide_eq_true_eq]; omega
 ·simp only [MW]; exact wc_vals _ _ _
 ·simp only [bothB,vals,List.all_cons,List.all_nil,S.val,R.val,Bool.and_true,Bool.and_eq_true,decide_eq_true_eq]; omega
end
theorem put_allW : ∀ (v X P : List S),X.length = v.length → D.put (P ++ X) P.length v = P ++ v
 | [],X,P,h => by
  have : X = []:=List.length_eq_zero_iff.1 h
  subst this; rfl
 | x :: v,[],P,h => by simp at h
 | x :: v,y :: X,P,h => by
  have:=put_allW v X (P ++ [x]) (by simpa using h)
  simp only [List.append_assoc,List.cons_append,List.nil_append,List.length_append,List.length_cons,List.length_nil] at this
  simp only [D.put,List.set_append_right _ _ (Nat.le_refl _),Nat.sub_self,List.set_cons_zero]
  exact this
def z11 : M:=M.zero 11
def madeG : List V → List Blk → Res
 | [],h => .ok (.s (.p (.g (h.length + 4)) 0)) [] (bH h z11 z11 [])
 | _,_ => .bad
theorem bH_new (h : List Blk) (m r : M) (X : List Blk) : memH (memH h m) r ++ (bothB h.length (h.length + 2) :: X) = bH h m r X:=by
 simp [bH,memH]
noncomputable def TMd : Tab:=addT 9 newM (addT 60 newM (noT))
theorem TMd_snd : TMd.Snd Try.prog:=addT_snd ok9 new_snd (addT_snd ok60 rnew_snd ((noT_snd _)))
theorem made_snd : Snd Try.prog 31 (FSpec.of madeG):=snd_run TMd_snd mixed Try.func31 dc31 200 fun args h K hc hS => by
 unfold madeG at hS
 split at hS
 ·simp only [spec_ok] at hS
  have hd : decide ((11 : Int) ≤ 11) && decide ((11 : Int) ≤ 16) = true:=by decide
  have ht : Int.toNat 11 = 11:=rfl
  simp (maxSteps:=9999999) only [EV0,zx,zw,zv,zu,zq,zp,zj,zk,zg,leT,zZ,rvC,zY,zX,zW,zV,↓zU,↓zQ,reduceCtorEq,yz,yy,yY,yx,yw,yv,yu,yq,yp,yX,yj,yk,yg,yW,yV,yU,yZ,yQ,xz,df31,TMd,newM,hd,ht,memH_len,put,fillP]
  refine ⟨[0],by simp,rfl, ?_⟩
  simp only [getAll,List.getElem?_cons_zero]
  refine ⟨?_, ?_⟩
  ·simp [S.kept,R.kept]
  ·refine cast ?_ hS
   rw [← bH_new]
   simp [z11,bothB,V.ren,S.ren,R.prom,Blk.ren,memH_len,List.idxOf,List.findIdx,List.findIdx.go]
 ·exact hS.elim

open Classical in
noncomputable def ofW (l : List Int) : M:=if h : (∀ x,x ∈ l → u64 x) ∧ l.length ≤ 65536 then ⟨l,0,h.1,h.2⟩ else M.zero 0
theorem ofW_w {l : List Int} (h1 : ∀ x,x ∈ l → u64 x) (h2 : l.length ≤ 65536) : (ofW l).w = l ∧ (ofW l).n = 0:=by
 unfold ofW
 rw [dif_pos ⟨h1,h2⟩]
 exact ⟨rfl,rfl⟩
noncomputable def ofG : List V → List Blk → Res
 | [.s s],h => match listOf h s with
  | some l => .ob ((∀ x,x ∈ l → u64 x) ∧ l.length ≤ 65536) (.ok (.s (.p (.g h.length) 0)) [] (memH h (ofW l)))
  | none => .bad
 | _,_ => .bad
theorem of_snd : Snd Try.prog 48 (FSpec.of ofG):=snd_run (noT_snd _) mixed Try.func48 dc48 100 fun args h K hc hS => by
 unfold ofG at hS
 split at hS
 ·rename_i s
  split at hS
  ·rename_i l e
   have Hs:=listOf_some e
   obtain ⟨⟨hu,hl⟩,hS⟩:=hS
   simp only [spec_ok] at hS
   obtain ⟨o1,o2⟩:=ofW_w hu hl
   have hlen:=fun ls h' => Hs.sl.len (ls:=ls) (h:=h')
   have hsh:=fun ls => Hs.shows ls
   have c1 : (0 : Int) ≤ (l.length : Int):=by omega
   have c2 : (l.length : Int) ≤ 1099511627776:=by omega
   have c3 : (8 : Int) * (l.length : Int) ≤ 281474976710656:=by omega
   have hsub : sub (wc l) 0 l.length = wc l:=by rw [wc_sub,List.drop_zero,List.take_length]
   have hmin : min l.length l.length = l.length:=Nat.min_self _
   have hcl : (wc (List.replicate l.length 0)).length = l.length:=by rw [wc_len,List.length_replicate]
   have hput : D.put (wc (List.replicate l.length 0)) 0 (wc l) = wc l:=by
    have:=put_allW (wc l) (wc (List.replicate l.length 0)) [] (by rw [hcl,wc_len])
    simpa only [List.nil_append,List.length_nil] using this
   simp (maxSteps:=9999999) only [EV0,zx,zw,zv,zu,zq,zp,zj,zk,zg,leT,zZ,rvC,zY,zX,zW,zV,↓zU,↓zQ,reduceCtorEq,yz,yy,yY,yx,yw,yv,yu,yq,yp,yX,yj,yk,yg,yW,yV,yU,yZ,yQ,xz,df48,↓hlen,c1,Int.le_refl,c2,c3,Int.toNat_natCast,wc_zeros,put,fillP,↓hsh,hsub,hmin,hcl,hput,wc_known,wc_takes,wc_all,Nat.zero_add,Nat.le_refl]
   refine ⟨[1,0],by simp,rfl, ?_⟩
   simp only [getAll,List.getElem?_cons_zero,List.getElem?_cons_succ]
   refine ⟨?_, ?_⟩
   ·simp [S.kept,R.kept,wc_kept]
   ·refine cast (congrArg (K _) ?_) hS
    simp [memH,MB,MW,o1,o2,Blk.ren,S.ren,R.prom,List.idxOf,List.findIdx,List.findIdx.go,wc_ren,wc_len,V.ren,C.ren,wc_map]
  ·exact hS.elim
 ·exact hS.elim
end Go.Proofs.Ytcdfofeolgbnbaa

/- What goes through a list that is in order finds those that lie deeper. -/
namespace Go.Proofs.Ytcdfofeolgbnbaa
open Go.D
set_option linter.all false
set_option maxRecDepth 100000
set_option maxHeartbeats 4000000

theorem dsW_chain {m : M} {d : Int} : ∀ (L : List Int) (k : Nat) (m' : M) (pr : Int) (acc : List Int),m'.w = m.w → (∀ x,x ∈ L → m.fE x = 0) → chain m.gV 0 pr L → L.length ≤ k →
  ∃ m2,dsW d k (L.headD 0) m' acc = (some (acc ++ deep m.gV d L),m2) ∧ m2.w = m.w
 | [],k,m',pr,acc,hw,_,_,_ => by
  refine ⟨m', ?_,hw⟩
  cases k <;> simp [dsW,deep]
 | y :: L,0,m',pr,acc,_,_,_,hk => by simp at hk
 | y :: L,k + 1,m',pr,acc,hw,hf,hc,hk => by
  obtain ⟨h1,h2,h3⟩:=hc
  have hy:=hf y List.mem_cons_self
  have y0 : y ≠ 0:=there_ne0 (fE_there hy)
  have hf' : m'.fE y = 0:=by rw [fE_w hw]; exact hy
  have hg : m'.gV y = m.gV y:=gV_w hw y
  have hw' : (m'.gX y).w = m.w:=(gX_w m' y).trans hw
  simp only [List.headD_cons,dsW,y0,if_false,hf',if_true,hg]
  by_cases hd : (m.gV y).depth ≤ d
  ·refine ⟨m'.gX y, ?_,hw'⟩
   rw [if_pos hd]
   have : ¬ d < (m.gV y).depth:=by omega
   simp [deep,this]
  ·rw [if_neg hd,h2]
   obtain ⟨m2,e,e2⟩:=dsW_chain L k (m'.gX y) y (acc ++ [y]) hw' (fun x hx => hf x (List.mem_cons_of_mem _ hx)) h3 (by simpa using hk)
   refine ⟨m2, ?_,e2⟩
   rw [e]
   have : d < (m.gV y).depth:=by omega
   simp [deep,this]
theorem rdW_chain {m : M} {d : Int} {N : Nat} : ∀ (L : List Int) (k : Nat) (m' : M) (pr : Int) (acc : List Int),m'.w = m.w → (∀ x,x ∈ L → m.fE x = 0) → chain m.gV 0 pr L → acc.length + L.length ≤ N → L.length < k →
  ∃ m2,rdW d N k (L.headD 0) m' acc = (some (acc ++ deep m.gV d L),m2) ∧ m2.w = m.w
 | [],0,m',pr,acc,hw,_,_,_,hk => by simp at hk
 | [],k + 1,m',pr,acc,hw,_,_,_,_ => ⟨m',by simp [rdW,deep],hw⟩
 | y :: L,0,m',pr,acc,_,_,_,_,hk => by simp at hk
 | y :: L,k + 1,m',pr,acc,hw,hf,hc,hN,hk => by
  obtain ⟨h1,h2,h3⟩:=hc
  have hy:=hf y List.mem_cons_self
  have y0 : y ≠ 0:=there_ne0 (fE_there hy)
  have hf' : m'.fE y = 0:=by rw [fE_w hw]; exact hy
  have hg : m'.gV y = m.gV y:=gV_w hw y
  have hw' : (m'.gX y).w = m.w:=(gX_w m' y).trans hw
  have hNl : acc.length ≤ N:=by simp only [List.length_cons] at hN; omega
  simp only [List.headD_cons,rdW,y0,if_false,hf',hNl,and_self,if_true,hg]
  by_cases hd : (m.gV y).depth ≤ d
  ·refine ⟨m'.gX y, ?_,hw'⟩
   rw [if_pos hd]
   have : ¬ d < (m.gV y).depth:=by omega
   simp [deep,this]
  ·rw [if_neg hd,h2]
   obtain ⟨m2,e,e2⟩:=rdW_chain (N:=N) L k (m'.gX y) y (acc ++ [y]) hw' (fun x hx => hf x (List.mem_cons_of_mem _ hx)) h3 (by simp only [List.length_append,List.length_cons,List.length_nil] at hN ⊢; omega) (by simpa using hk)
   refine ⟨m2, ?_,e2⟩
   rw [e]
   have : d < (m.gV y).depth:=by omega
   simp [deep,this]
theorem deep_all {m : M} (L : List Int) : deep m.gV (-1) L = L:=by
 induction L with
 | nil => rfl
 | cons x L ih =>
  have:=gV_links m x
  have h : -1 < (m.gV x).depth:=by omega
  unfold deep at ih ⊢
  rw [List.takeWhile_cons,if_pos (by simpa using h),ih]
section
variable {m : M} {P : Int → Prop} {L : List Int}
theorem M.Inv.dsc (I : m.Inv P L) {a : Int} {L1 L2 : List Int} (e : L = L1 ++ a :: L2) {m' : M} (hw : m'.w = m.w) : ∃ m2,dsW (m.gV a).depth (m.w.length / 4) (m.gV a).next m' [] = (some (deep m.gV (m.gV a).depth L2),m2) ∧ m2.w = m.w:=by
 have hc:=I.ch
 have hl:=I.llen
 rw [e] at hc hl
 obtain ⟨_,hc⟩:=chain_app.1 hc
 obtain ⟨_,h2,h3⟩:=hc
 simp only [List.length_append,List.length_cons] at hl
 obtain ⟨m2,e1,e2⟩:=dsW_chain (m:=m) (d:=(m.gV a).depth) L2 (m.w.length / 4) m' a [] hw (fun x hx => I.full x (by rw [e]; exact List.mem_append_right _ (List.mem_cons_of_mem _ hx))) h3 (by omega)
 rw [← h2] at e1
 exact ⟨m2,by simpa using e1,e2⟩
theorem M.Inv.rdsc (I : m.Inv P L) {a : Int} {L1 L2 : List Int} (e : L = L1 ++ a :: L2) {m' : M} (hw : m'.w = m.w) : ∃ m2,rdW (m.gV a).depth (m.w.length / 4) (m.w.length / 4 + 2) (m.gV a).next m' [] = (some (deep m.gV (m.gV a).depth L2),m2) ∧ m2.w = m.w:=by
 have hc:=I.ch
 have hl:=I.llen
 rw [e] at hc hl
 obtain ⟨_,hc⟩:=chain_app.1 hc
 obtain ⟨_,h2,h3⟩:=hc
 simp only [List.length_append,List.length_cons] at hl
 obtain ⟨m2,e1,e2⟩:=rdW_chain (m:=m) (d:=(m.gV a).depth) (N:=m.w.length / 4) L2 (m.w.length / 4 + 2) m' a [] hw (fun x hx => I.full x (by rw [e]; exact List.mem_append_right _ (List.mem_cons_of_mem _ hx))) h3 (by simp only [List.length_nil]; omega) (by omega)
 rw [← h2] at e1
 exact ⟨m2,by simpa using e1,e2⟩
theorem M.Inv.lis (I : m.Inv P L) {m' : M} (hw : m'.w = m.w) : ∃ m2,dsW (-1) (m.w.length / 4) m.fst m' [] = (some L,m2) ∧ m2.w = m.w:=by
 have hl:=I.llen
 obtain ⟨m2,e1,e2⟩:=dsW_chain (m:=m) (d:=-1) L (m.w.length / 4) m' 0 [] hw (fun x hx => I.full x hx) I.ch (by omega)
 rw [← I.fst,deep_all] at e1
 exact ⟨m2,by simpa using e1,e2⟩
theorem M.Inv.rlis (I : m.Inv P L) {m' : M} (hw : m'.w = m.w) : ∃ m2,rdW (-1) (m.w.length / 4) (m.w.length / 4 + 2) m.fst m' [] = (some L,m2) ∧ m2.w = m.w:=by
 have hl:=I.llen
 obtain ⟨m2,e1,e2⟩:=rdW_chain (m:=m) (d:=-1) (N:=m.w.length / 4) L (m.w.length / 4 + 2) m' 0 [] hw (fun x hx => I.full x hx) I.ch (by simp only [List.length_nil]; omega) (by omega)
 rw [← I.fst,deep_all] at e1
 exact ⟨m2,by simpa using e1,e2⟩
end

theorem getLastD_mem {x d : Int} {L : List Int} : (x :: L).getLastD d ∈ x :: L:=by
 rw [List.getLastD_eq_getLast?,List.getLast?_eq_some_getLast (by simp),Option.getD_some]
 exact List.getLast_mem _
theorem chain_post {V V' : Int → Slot} {a n : Int} : ∀ {L : List Int} {pr : Int},chain V a pr L → L.Nodup → (∀ x,x ∈ L → (V' x).prev = (V x).prev ∧ (V' x).next = if x = L.getLastD 0 then n else (V x).next) → chain V' n pr L
 | [],_,_,_,_ => trivial
 | [x],pr,⟨h1,_,_⟩,_,h => by
  obtain ⟨e1,e2⟩:=h x List.mem_cons_self
  rw [if_pos (by rfl)] at e2
  exact ⟨e1.trans h1,e2,trivial⟩
 | x :: y :: L,pr,⟨h1,h2,h3⟩,hn,h => by
  have hn':=List.nodup_cons.1 hn
  have eL : (x :: y :: L).getLastD 0 = (y :: L).getLastD 0:=rfl
  rw [eL] at h
  obtain ⟨e1,e2⟩:=h x List.mem_cons_self
  have hne : ¬ x = (y :: L).getLastD 0:=fun e => hn'.1 (by rw [e]; exact getLastD_mem)
  rw [if_neg hne] at e2
  exact ⟨e1.trans h1,e2.trans h2,chain_post h3 hn'.2 fun z hz => h z (List.mem_cons_of_mem _ hz)⟩

def depS (s : Slot) : Slot:=⟨s.cap,s.prev,s.next,s.depth - 1⟩
def decV (V : Int → Slot) (Ds : List Int) (x : Int) : Slot:=if x ∈ Ds then depS (V x) else V x
theorem decV_nil (V : Int → Slot) : decV V [] = V:=funext fun x => if_neg List.not_mem_nil
theorem decV_out {V : Int → Slot} {Ds : List Int} {x : Int} (h : x ∉ Ds) : decV V Ds x = V x:=if_neg h
theorem decV_cap (V : Int → Slot) (Ds : List Int) (x : Int) : (decV V Ds x).cap = (V x).cap:=by unfold decV; split <;> rfl
theorem decV_prev (V : Int → Slot) (Ds : List Int) (x : Int) : (decV V Ds x).prev = (V x).prev:=by unfold decV; split <;> rfl
theorem decV_next (V : Int → Slot) (Ds : List Int) (x : Int) : (decV V Ds x).next = (V x).next:=by unfold decV; split <;> rfl
section
variable {m : M} {P : Int → Prop} {L : List Int}
theorem depC_of {s : Slot} (h0 : 0 < s.depth) (h1 : s.depth < 65536) : depC s = depS s:=by
 unfold depC depS
 rw [wrap64] <;> omega
theorem M.To.dec1 {m' : M} {V : Int → Slot} {F : Int} (T : m.To m' V F) {x : Int} (hx : m.gE x = 0) (ht : (V x).cap.ty ≠ 0) (hd : 0 < (V x).depth) : m.To (m'.turnX x depC) (fun y => if y = x then depS (V x) else V y) F ∧ m.To (if m'.gE x = 0 then (m'.gX x).pX x (depC (m'.gV x)) else m'.gX x) (fun y => if y = x then depS (V x) else V y) F:=by
 have h0:=there_ne0 (gE_there hx).1
 obtain ⟨k1,k2,k3,k4⟩:=T.lk h0
 have e:=depC_of hd k4
 have hr : slotRB (depC (V x)) = true:=by rw [e]; exact T.vlinks h0 ht k1 k2 (by omega) (by omega)
 rw [← e]
 refine ⟨T.turn hx ht hr, ?_⟩
 rw [if_pos ((T.E x).trans hx),T.V x h0]
 exact (T.gX x).pX hx hr
theorem M.To.dec {F : Int} : ∀ (Ds : List Int) {m' r' : M} {V : Int → Slot},m.To m' V F → m.To r' V F → Ds.Nodup → (∀ x,x ∈ Ds → m.gE x = 0 ∧ (V x).cap.ty ≠ 0 ∧ 0 < (V x).depth) → m.To (m'.decX Ds) (decV V Ds) F ∧ m.To (r'.rdecX Ds) (decV V Ds) F
 | [],m',r',V,T,U,_,_ => by rw [decV_nil]; exact ⟨T,U⟩
 | x :: Ds,m',r',V,T,U,hn,h => by
  obtain ⟨hx,hn⟩:=List.nodup_cons.1 hn
  obtain ⟨h1,h2,h3⟩:=h x List.mem_cons_self
  have T1:=(T.dec1 h1 h2 h3).1
  have U1:=(U.dec1 h1 h2 h3).2
  obtain ⟨a1,a2⟩:=M.To.dec Ds T1 U1 hn fun y hy => by
   have hyx : y ≠ x:=fun e => hx (e ▸ hy)
   rw [if_neg hyx]
   exact h y (List.mem_cons_of_mem _ hy)
  have e : ∀ y,y ≠ 0 → decV (fun y => if y = x then depS (V x) else V y) Ds y = decV V (x :: Ds) y:=fun y _ => by
   unfold decV
   by_cases c : y = x
   ·subst c
    simp only [if_neg hx,if_true,List.mem_cons,true_or]
   ·simp only [List.mem_cons,c,false_or,if_false]
  exact ⟨a1.val e rfl,a2.val e rfl⟩
def M.remV (m : M) (a : Int) (Ds : List Int) : Int → Slot:=fun x => if x = a then slotZ else
 ⟨(m.gV x).cap,if x = (m.gV a).next then (m.gV a).prev else (m.gV x).prev,if x = (m.gV a).prev then (m.gV a).next else (m.gV x).next,(decV m.gV Ds x).depth⟩
def M.remF (m : M) (a : Int) : Int:=if (m.gV a).prev = 0 then (m.gV a).next else m.fst
theorem mem_deep {V : Int → Slot} {d x : Int} : ∀ {L : List Int},x ∈ deep V d L → x ∈ L ∧ d < (V x).depth
 | [],h => by cases h
 | z :: L,h => by
  by_cases c : d < (V z).depth
  ·have e : deep V d (z :: L) = z :: deep V d L:=by simp [deep,c]
   rw [e] at h
   rcases List.mem_cons.1 h with h | h
   ·exact ⟨by rw [h]; exact List.mem_cons_self,by rw [h]; exact c⟩
   ·obtain ⟨h1,h2⟩:=mem_deep h
    exact ⟨List.mem_cons_of_mem _ h1,h2⟩
  ·have e : deep V d (z :: L) = []:=by simp [deep,c]
   rw [e] at h
   cases h
theorem M.Inv.rem_facts (I : m.Inv P L) {a : Int} {L1 L2 : List Int} (e : L = L1 ++ a :: L2) (x : Int) (hx : x ∈ deep m.gV (m.gV a).depth L2) : x ∈ L ∧ x ≠ a ∧ 0 < (m.gV x).depth:=by
 obtain ⟨h2,hd⟩:=mem_deep hx
 have h0:=(gV_links m a).2.2.1
 refine ⟨by rw [e]; exact List.mem_append_right _ (List.mem_cons_of_mem _ h2),fun e2 => ?_,by omega⟩
 subst e2
 omega
theorem M.Inv.rem_to (I : m.Inv P L) {a : Int} {L1 L2 : List Int} (e : L = L1 ++ a :: L2) : ((m.rem a).1 = 0 ∧ m.To (m.rem a).2 (m.remV a (deep m.gV (m.gV a).depth L2)) (m.remF a)) ∧ ((m.rrem a).1 = 0 ∧ m.To (m.rrem a).2 (m.remV a (deep m.gV (m.gV a).depth L2)) (m.remF a)):=by
 have ha : a ∈ L:=by rw [e]; simp
 have hfa:=I.full a ha
 have a0 : a ≠ 0:=fun h => I.no0 (h ▸ ha)
 obtain ⟨Ds,hDs⟩ : ∃ Ds,deep m.gV (m.gV a).depth L2 = Ds:=⟨_,rfl⟩
 have hf:=I.rem_facts e
 rw [hDs] at hf
 have hnd : Ds.Nodup:=by
  have hn:=I.nd
  rw [e] at hn
  have:=(List.nodup_append.1 hn).2.1
  rw [← hDs]
  exact (List.nodup_cons.1 this).2.sublist (List.takeWhile_sublist _)
 have hDa : a ∉ Ds:=fun h => (hf a h).2.1 rfl
 obtain ⟨m2,q1,q2⟩:=I.dsc e (m':=(m.gX a).gX a) (by rw [gX_w,gX_w])
 obtain ⟨r2,p1,p2⟩:=I.rdsc e (m':=(m.gX a).gX a) (by rw [gX_w,gX_w])
 rw [hDs] at q1 p1 ⊢
 have T0 : m.To m2 m.gV m.fst:=(M.To.refl m).of_w q2
 have U0 : m.To r2 m.gV m.fst:=(M.To.refl m).of_w p2
 have hpr:=I.prev ha
 have hnx:=I.next ha
 have ip:=I.irr_prev ha
 have inx:=I.irr_next ha
 have hpn:=I.prev_next ha
 obtain ⟨T1,U1⟩:=M.To.dec Ds (T0.liX (m.gV a)) U0 hnd fun x hx => ⟨(I.gE (hf x hx).1).1,(I.gE (hf x hx).1).2,(hf x hx).2.2⟩
 have T2:=T1.pX (I.gE ha).1 slotZ_R
 have ok : ∀ x,(x = 0 ∨ x ∈ L) → x ≠ a → x = 0 ∨ (m.gE x = 0 ∧ ((fun y => if y = a then slotZ else decV m.gV Ds y) x).cap.ty ≠ 0):=fun x hx hxa => hx.imp id fun h => ⟨(I.gE h).1,by simp only [if_neg hxa]; rw [decV_cap]; exact (I.gE h).2⟩
 have okp:=ok _ hpr ip
 have okn:=ok _ hnx inx
 have tn : (m.gV a).next = 0 ∨ thereB m (m.gV a).next = true:=hnx.imp id fun h => fE_there (I.full _ h)
 have tp : (m.gV a).prev = 0 ∨ thereB m (m.gV a).prev = true:=hpr.imp id fun h => fE_there (I.full _ h)
 have lkn : linkB (m.gV a).next = true:=(gV_links m a).2.1
 have lkp : linkB (m.gV a).prev = true:=(gV_links m a).1
 have hV : ∀ x,x ≠ 0 → (fun z => if z = (m.gV a).next then ((fun y => if y = (m.gV a).prev then ((fun y => if y = a then slotZ else decV m.gV Ds y) (m.gV a).prev).toN (m.gV a).next else (fun y => if y = a then slotZ else decV m.gV Ds y) y) (m.gV a).next).toP (m.gV a).prev else (fun y => if y = (m.gV a).prev then ((fun y => if y = a then slotZ else decV m.gV Ds y) (m.gV a).prev).toN (m.gV a).next else (fun y => if y = a then slotZ else decV m.gV Ds y) y) z) x = m.remV a Ds x:=fun x hx0 => by
  simp only [M.remV]
  by_cases c1 : x = a
  ·rw [if_pos c1,if_neg (fun h => inx (h.symm.trans c1)),if_neg (fun h => ip (h.symm.trans c1)),if_pos c1]
  ·rw [if_neg c1]
   by_cases c2 : x = (m.gV a).next
   ·have c3 : x ≠ (m.gV a).prev:=fun h => by
     rcases hpn with h2 | h2
     ·exact hx0 (c2.trans h2)
     ·exact h2 (h.symm.trans c2)
    rw [← c2]
    simp only [if_true,if_neg c3,if_neg c1]
    exact Slot.ext4 (decV_cap _ _ _) rfl (decV_next _ _ _) rfl
   ·rw [if_neg c2,if_neg c2]
    by_cases c3 : x = (m.gV a).prev
    ·rw [← c3]
     simp only [if_true,if_neg c1]
     exact Slot.ext4 (decV_cap _ _ _) (decV_prev _ _ _) rfl rfl
    ·simp only [if_neg c3,if_neg c1]
     exact Slot.ext4 (decV_cap _ _ _) (decV_prev _ _ _) (decV_next _ _ _) rfl
 refine ⟨?_, ?_⟩
 ·unfold M.rem
  rw [if_pos hfa,q1]
  refine ⟨rfl, ?_⟩
  have hli : m2.liB a (m.gV a) = true:=by rw [liB_w q2]; exact I.listed ha
  simp only [M.remT,hli,if_true]
  have T3 : m.To ((if (m.gV a).prev = 0 then (((m2.liX (m.gV a)).decX Ds).pX a slotZ).sfX (m.gV a).next else ((m2.liX (m.gV a)).decX Ds).pX a slotZ).turnX (m.gV a).prev fun t => ⟨t.cap,t.prev,(m.gV a).next,t.depth⟩)
    (fun y => if y = (m.gV a).prev then ((fun y => if y = a then slotZ else decV m.gV Ds y) (m.gV a).prev).toN (m.gV a).next else (fun y => if y = a then slotZ else decV m.gV Ds y) y) (m.remF a):=by
   unfold M.remF
   by_cases c : (m.gV a).prev = 0
   ·simp only [c,if_true]
    exact ((T2.sfX I.len.1 tn).turn0).val (fun x hx => by simp only [hx,if_false]) rfl
   ·simp only [c,if_false]
    obtain ⟨o1,o2⟩:=okp.resolve_left c
    obtain ⟨k1,k2,k3,k4⟩:=T2.lk c
    exact T2.turn o1 o2 (T2.vlinks c o2 k1 lkn k3 k4)
  by_cases c : (m.gV a).next = 0
  ·have:=T3.turn0 (g:=fun t => ⟨t.cap,(m.gV a).prev,t.next,t.depth⟩)
   rw [c] at this hV ⊢
   exact this.val (fun x hx => by rw [← hV x hx]; simp only [hx,if_false]) rfl
  ·obtain ⟨o1,o2⟩:=okn.resolve_left c
   have hnp : (m.gV a).next ≠ (m.gV a).prev:=Ne.symm (hpn.resolve_left c)
   have o2' : ((fun y => if y = (m.gV a).prev then ((fun y => if y = a then slotZ else decV m.gV Ds y) (m.gV a).prev).toN (m.gV a).next else (fun y => if y = a then slotZ else decV m.gV Ds y) y) (m.gV a).next).cap.ty ≠ 0:=by simp only [if_neg hnp]; exact o2
   obtain ⟨k1,k2,k3,k4⟩:=T3.lk c
   exact (T3.turn (g:=fun t => ⟨t.cap,(m.gV a).prev,t.next,t.depth⟩) o1 o2' (T3.vlinks c o2' lkp k2 k3 k4)).val (fun x hx => by rw [← hV x hx]; rfl) rfl
 ·unfold M.rrem
  rw [if_pos hfa,p1]
  refine ⟨rfl, ?_⟩
  have U2 : m.To ((r2.rdecX Ds).pX a slotZ) _ _:=U1.pX (I.gE ha).1 slotZ_R
  have key : ∀ {r3 : M},m.To r3 (fun y => if y = a then slotZ else decV m.gV Ds y) m.fst → m.To ((r3.lkX (m.gV a).prev (m.gV a).next).bkX (m.gV a).prev (m.gV a).next) (m.remV a Ds) (m.remF a):=fun U => by
   have h1:=U.lkX I.len.1 okp tn
   have okn' : (m.gV a).next = 0 ∨ (m.gE (m.gV a).next = 0 ∧ ((fun y => if y = (m.gV a).prev then ((fun y => if y = a then slotZ else decV m.gV Ds y) (m.gV a).prev).toN (m.gV a).next else (fun y => if y = a then slotZ else decV m.gV Ds y) y) (m.gV a).next).cap.ty ≠ 0):=by
    rcases hpn with c | c
    ·exact .inl c
    ·refine okn.imp id fun h => ⟨h.1, ?_⟩
     simp only [if_neg (Ne.symm c)]
     exact h.2
   exact (h1.bk okn' tp).val (fun x hx => by rw [← hV x hx]) (by unfold M.remF; rfl)
  show m.To ((r2.rdecX Ds).rremT a (m.gV a)) _ _
  unfold M.rremT
  by_cases c : (m.gV a).prev = 0
  ·have hfst : m.fst = a:=(I.first ha).1 c
   have e1 : (r2.rdecX Ds).fst = a:=U1.F.trans hfst
   rw [if_pos c,if_pos e1]
   exact key (U1.fstX.pX (I.gE ha).1 slotZ_R)
  ·rw [if_neg c]
   exact key U2
theorem M.Inv.rem_inv (I : m.Inv P L) {a : Int} {L1 L2 : List Int} (e : L = L1 ++ a :: L2) {m' : M} {Ds : List Int} (T : m.To m' (m.remV a Ds) (m.remF a)) (hDs : ∀ x,x ∈ Ds → x ∈ L) : m'.Inv P (L1 ++ L2):=by
 have ha : a ∈ L:=by rw [e]; simp
 have a0 : a ≠ 0:=fun h => I.no0 (h ▸ ha)
 have hn:=I.nd
 have hc:=I.ch
 have hF:=I.fst
 rw [e] at hn hc hF
 obtain ⟨n1,n2,n3⟩:=List.nodup_append.1 hn
 obtain ⟨n4,n5⟩:=List.nodup_cons.1 n2
 have haL1 : a ∉ L1:=fun h => n3 a h a List.mem_cons_self rfl
 obtain ⟨c1,c2⟩:=chain_app.1 hc
 obtain ⟨c3,c4,c5⟩:=c2
 have hsub : ∀ x,x ∈ L1 ++ L2 → x ∈ L ∧ x ≠ a:=fun x hx => by
  rcases List.mem_append.1 hx with h | h
  ·exact ⟨by rw [e]; exact List.mem_append_left _ h,fun e2 => haL1 (e2 ▸ h)⟩
  ·exact ⟨by rw [e]; exact List.mem_append_right _ (List.mem_cons_of_mem _ h),fun e2 => n4 (e2 ▸ h)⟩
 have hpv : ∀ x,x ∈ L1 ++ L2 → (m.remV a Ds x).prev = (if x = (m.gV a).next then (m.gV a).prev else (m.gV x).prev) ∧ (m.remV a Ds x).next = if x = (m.gV a).prev then (m.gV a).next else (m.gV x).next:=fun x hx => by
  unfold M.remV
  rw [if_neg (hsub x hx).2]
  exact ⟨rfl,rfl⟩
 have x0 : ∀ x,x ∈ L1 ++ L2 → x ≠ 0:=fun x hx e2 => I.no0 (e2 ▸ (hsub x hx).1)
 refine I.to T ?_ (fun x hx => ?_) ?_ ?_ (fun x hP hx => ?_)
 ·exact List.nodup_append.2 ⟨n1,n5,fun x hx y hy => n3 x hx y (List.mem_cons_of_mem _ hy)⟩
 ·refine ⟨(I.gE (hsub x hx).1).1, ?_⟩
  unfold M.remV
  rw [if_neg (hsub x hx).2]
  exact (I.gE (hsub x hx).1).2
 ·refine chain_app.2 ⟨?_, ?_⟩
  ·refine chain_post (a:=a) c1 n1 fun x hx => ?_
   obtain ⟨h1,h2⟩:=hpv x (List.mem_append_left _ hx)
   refine ⟨?_, ?_⟩
   ·rw [h1,if_neg]
    intro h3
    rw [c4] at h3
    cases L2 with
    | nil => exact x0 x (List.mem_append_left _ hx) h3
    | cons y L2 => exact n3 x hx y (List.mem_cons_of_mem _ List.mem_cons_self) h3
   ·rw [h2,c3,c4]
  ·refine chain_pre (q:=a) c5 n5 fun x hx => ?_
   obtain ⟨h1,h2⟩:=hpv x (List.mem_append_right _ hx)
   refine ⟨?_, ?_⟩
   ·rw [h2,if_neg]
    intro h3
    rw [c3] at h3
    cases L1 with
    | nil => exact x0 x (List.mem_append_right _ hx) h3
    | cons y L1 => exact n3 _ getLastD_mem x (List.mem_cons_of_mem _ hx) h3.symm
   ·rw [h1,c3,c4]
 ·unfold M.remF
  rw [c3,c4,hF]
  cases L1 with
  | nil => simp
  | cons y L1 =>
   rw [if_neg]
   ·rfl
   ·intro h3
    have:=getLastD_mem (x:=y) (d:=0) (L:=L1)
    rw [h3] at this
    exact x0 0 (List.mem_append_left _ this) rfl
 ·unfold M.remV
  by_cases c : x = a
  ·rw [if_pos c]; exact ⟨rfl,rfl,rfl⟩
  ·rw [if_neg c]
   have hxL : x ∉ L:=fun h => by
    rw [e] at h
    rcases List.mem_append.1 h with h | h
    ·exact hx (List.mem_append_left _ h)
    ·rcases List.mem_cons.1 h with h | h
     ·exact c h
     ·exact hx (List.mem_append_right _ h)
   have hx0 : x ≠ 0:=there_ne0 (gE_there (I.out x hP).1).1
   obtain ⟨z1,z2,z3⟩:=(I.out x hP).2 hxL
   have g1 : x ≠ (m.gV a).next:=fun h => by
    rcases I.next ha with h2 | h2
    ·exact hx0 (h.trans h2)
    ·exact hxL (h ▸ h2)
   have g2 : x ≠ (m.gV a).prev:=fun h => by
    rcases I.prev ha with h2 | h2
    ·exact hx0 (h.trans h2)
    ·exact hxL (h ▸ h2)
   rw [if_neg g1,if_neg g2,decV_out (fun h => hxL (hDs x h))]
   exact ⟨z1,z2,z3⟩
end
end Go.Proofs.Ytcdfofeolgbnbaa

