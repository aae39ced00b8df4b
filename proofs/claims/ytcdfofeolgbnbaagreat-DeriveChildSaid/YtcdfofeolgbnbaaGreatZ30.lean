/- Package objs: a thread's words. -/
import Derived.Test.YtcdfofeolgbnbaaGreatZ29
import Derived.Test.YtcdfofeolgbnbaaGreatZ13
import Derived.Test.YtcdfofeolgbnbaaGreatZ17
import Derived.Test.YtcdfofeolgbnbaaGreatZ21
import Derived.Test.YtcdfofeolgbnbaaGreatZ18
import Derived.Test.YtcdfofeolgbnbaaGreatZ20
/- Law 12: what each act makes of the caps; by code and document alike. -/
namespace Go.Proofs.YtcdfofeolgbnbaaGreat
open Go.D
set_option linter.all false
set_option maxRecDepth 100000
set_option maxHeartbeats 4000000

theorem ofInt_wrap (n : Int) : BitVec.ofInt 64 (IntKind.i64.wrap n) = BitVec.ofInt 64 n:=by
 apply BitVec.eq_of_toNat_eq
 rw [BitVec.toNat_ofInt,BitVec.toNat_ofInt,IntKind.wrap_i64]
 congr 1
 simp only [Nat.reducePow]
 omega
theorem ofInt_toNat (v : BitVec 64) : BitVec.ofInt 64 (v.toNat : Int) = v:=by
 apply BitVec.eq_of_toNat_eq
 rw [BitVec.ofInt_natCast,BitVec.toNat_ofNat]
 exact Nat.mod_eq_of_lt v.isLt
theorem bits_and_i64 (a b : Int) : bits .and .i64 a b = IntKind.i64.wrap ((BitVec.ofInt 64 a &&& BitVec.ofInt 64 b).toNat : Int):=rfl
theorem bits_andNot_i64 (a b : Int) : bits .andNot .i64 a b = IntKind.i64.wrap ((BitVec.ofInt 64 a &&& ~~~BitVec.ofInt 64 b).toNat : Int):=rfl
theorem and_less_i64 (x r : Int) : bits .andNot .i64 (bits .and .i64 x r) x = 0:=by
 rw [bits_and_i64 x r,bits_andNot_i64,ofInt_wrap,ofInt_toNat]
 have : (BitVec.ofInt 64 x &&& BitVec.ofInt 64 r &&& ~~~BitVec.ofInt 64 x) = 0#64:=by
  ext i hi
  simp only [BitVec.getElem_and,BitVec.getElem_not,BitVec.getElem_zero]
  cases (BitVec.ofInt 64 x)[i] <;> cases (BitVec.ofInt 64 r)[i] <;> rfl
 rw [this]; rfl
theorem not_less_i64 (x : Int) : bits .andNot .i64 x x = 0:=by
 rw [bits_andNot_i64]
 have : (BitVec.ofInt 64 x &&& ~~~BitVec.ofInt 64 x) = 0#64:=by
  ext i hi
  simp only [BitVec.getElem_and,BitVec.getElem_not,BitVec.getElem_zero]
  cases (BitVec.ofInt 64 x)[i] <;> rfl
 rw [this]; rfl
theorem Cap.mask_less (c : Cap) (r : Int) : Go.bits .andNot .i64 (c.mask r).rights c.rights = 0:=by
 unfold Cap.mask
 split
 ·exact and_less_i64 _ _
 ·exact not_less_i64 _
theorem Cap.mask_ty (c : Cap) (r : Int) : (c.mask r).ty = c.ty ∧ (c.mask r).obj = c.obj ∧ (c.mask r).badge = c.badge:=by unfold Cap.mask; split <;> exact ⟨rfl,rfl,rfl⟩
theorem derC_is {c : Cap} (h : derE c = 0) : (derC c).ty = c.ty ∧ (derC c).obj = c.obj ∧ (derC c).badge = c.badge ∧ (derC c).rights = c.rights:=by
 unfold derC
 rw [if_pos h]
 split <;> exact ⟨rfl,rfl,rfl,rfl⟩
theorem derE_ty {c : Cap} (h : derE c = 0) : c.ty ≠ 0:=by
 intro e
 unfold derE at h
 rw [if_pos (by rw [e]; rfl)] at h
 cases h

def capLe (c b : Cap) : Prop:=b.ty = c.ty ∧ b.obj = c.obj ∧ bits .andNot .i64 c.rights b.rights = 0 ∧ (b.badge = c.badge ∨ b.badge = 0)
theorem capLe.refl (c : Cap) : capLe c c:=⟨rfl,rfl,not_less_i64 _, .inl rfl⟩
theorem fitB_eq {c d : Cap} (h1 : d.ty = c.ty) (h2 : d.obj = c.obj) (a : Int) : fitB d a = fitB c a:=by unfold fitB; rw [h1,h2]
structure Fine (m : M) (C : Int → Cap) : Prop where
 le : ∀ k,k ∈ PL → (C k).ty = 0 ∨ ∃ j,j ∈ PL ∧ capLe (C k) (m.gV j).cap
 fit : (∀ k,k ∈ PL → fitB (m.gV k).cap k = true) → ∀ k,k ∈ PL → fitB (C k) k = true
theorem Fine.same (m : M) : Fine m fun x => (m.gV x).cap:=⟨fun k hk => .inr ⟨k,hk,capLe.refl _⟩,fun h => h⟩
theorem Fine.of {m : M} {C C' : Int → Cap} (F : Fine m C) (h : ∀ x,C' x = C x) : Fine m C':=by
 have : C' = C:=funext h
 rw [this]; exact F
theorem emB_w {m m' : M} (e : m'.w = m.w) (x : Int) : m'.emB x = m.emB x:=by simp only [M.emB,gV_fun e]
theorem enE_w {m m' : M} (e : m'.w = m.w) (f t : Int) : m'.enE f t = m.enE f t:=by simp only [M.enE,emB_w e]
theorem coE_w {m m' : M} (e : m'.w = m.w) (f t : Int) : m'.coE f t = m.coE f t:=by simp only [M.coE,enE_w e,gV_fun e]
theorem coC_w {m m' : M} (e : m'.w = m.w) (f t r : Int) : m'.coC f t r = m.coC f t r:=by simp only [M.coC,coE_w e,gV_fun e]
theorem miE_w {m m' : M} (e : m'.w = m.w) (f t r n g b : Int) : m'.miE f t r n g b = m.miE f t r n g b:=by simp only [M.miE,coE_w e,coC_w e]
theorem moE_w {m m' : M} (e : m'.w = m.w) (f t : Int) : m'.moE f t = m.moE f t:=by simp only [M.moE,enE_w e,gV_fun e]
theorem muE_w {m m' : M} (e : m'.w = m.w) (f t g b : Int) : m'.muE f t g b = m.muE f t g b:=by simp only [M.muE,moE_w e,gV_fun e]
theorem roE_w {m m' : M} (e : m'.w = m.w) (t p f : Int) : m'.roE t p f = m.roE t p f:=by simp only [M.roE,emB_w e,gV_fun e]
theorem coXe_w (m : M) (f t : Int) : (m.coX M.enX f t).w = m.w:=coX_w m _ f t (enX_w m f t)
theorem coXr_w (m : M) (f t : Int) : (m.coX M.renX f t).w = m.w:=coX_w m _ f t (renX_w m f t)

section
variable {m r : M} {L : List Int}
theorem DI.enE (D : DI m L) {f t : Int} (hf : f ∈ PL) (ht : t ∈ PL) (h : m.enE f t = 0) : f ∈ L ∧ t ∉ L:=by
 unfold M.enE at h
 cases e1 : m.emB f with
 | true => rw [e1] at h; cases h
 | false =>
  cases e2 : m.emB t with
  | false => rw [e1,e2] at h; cases h
  | true => exact ⟨(D.emf (PL_PB hf)).1 e1,(D.em (PL_PB ht)).1 e2⟩
theorem coE_is {f t : Int} (h : m.coE f t = 0) : m.enE f t = 0 ∧ derE (m.gV f).cap = 0 ∧ fitB (derC (m.gV f).cap) t = true:=by
 unfold M.coE at h
 split at h
 ·rename_i h1
  split at h
  ·rename_i h2
   split at h
   ·rename_i h3; exact ⟨h1,h2,h3⟩
   ·cases h
  ·rename_i h2; exact absurd h h2
 ·rename_i h1; exact absurd h h1
theorem coC_is {f t q : Int} (h : m.coE f t = 0) : (m.coC f t q).ty = (m.gV f).cap.ty ∧ (m.coC f t q).obj = (m.gV f).cap.obj ∧ (m.coC f t q).badge = (m.gV f).cap.badge ∧ bits .andNot .i64 (m.coC f t q).rights (m.gV f).cap.rights = 0:=by
 obtain ⟨h1,h2,h3⟩:=coE_is h
 obtain ⟨d1,d2,d3,d4⟩:=derC_is h2
 unfold M.coC
 rw [if_pos h]
 obtain ⟨k1,k2,k3⟩:=Cap.mask_ty (derC (m.gV f).cap) q
 refine ⟨k1.trans d1,k2.trans d2,k3.trans d3, ?_⟩
 rw [← d4]; exact Cap.mask_less _ _
theorem DI.child (D : DI m L) {m2 r2 : M} (h1 : m2.w = m.w) (h2 : r2.w = m.w) {f t : Int} (hf : f ∈ L) (ht : t ∈ PL) (htL : t ∉ L) {c : Cap} (hc : c.ty ≠ 0) :
  ∃ C,Did m (m2.layX f t c) (r2.rlayX f t c) C ∧ ((∀ x,C x = (m.gV x).cap) ∨ (slotRB ⟨c,0,0,0⟩ = true ∧ ∀ x,C x = if x = t then c else (m.gV x).cap)):=by
 have D1:=D.of_w h1
 have D2:=D.of_w h2
 cases hr : slotRB ⟨c,0,0,0⟩ with
 | false => exact ⟨_,D.same ((D1.lay_no (PL_PB ht) htL hr).1.trans h1) ((D2.lay_no (PL_PB ht) htL hr).2.trans h2), .inl fun _ => rfl⟩
 | true =>
  have:=D1.lay_did (h2.trans h1.symm) (.inr hf) (PL_PB ht) htL hc hr
  refine ⟨_,⟨this.w,this.L,this.cap⟩, .inr ⟨rfl,fun x => ?_⟩⟩
  simp only [gV_fun h1]
theorem Fine.child {C : Int → Cap} {f t : Int} {c : Cap} (hf : f ∈ PL) (hC : (∀ x,C x = (m.gV x).cap) ∨ (slotRB ⟨c,0,0,0⟩ = true ∧ ∀ x,C x = if x = t then c else (m.gV x).cap)) (hl : capLe c (m.gV f).cap) (ht : fitB c t = true) : Fine m C:=by
 rcases hC with h | ⟨_,h⟩
 ·exact (Fine.same m).of h
 ·refine ⟨fun k hk => ?_,fun hfit k hk => ?_⟩
  ·rw [h k]
   by_cases e : k = t
   ·rw [if_pos e]; exact .inr ⟨f,hf,hl⟩
   ·rw [if_neg e]; exact .inr ⟨k,hk,capLe.refl _⟩
  ·rw [h k]
   by_cases e : k = t
   ·rw [if_pos e,e]; exact ht
   ·rw [if_neg e]; exact hfit k hk
theorem DI.cp (D : DI m L) (hw : r.w = m.w) {f t : Int} (hf : f ∈ PL) (ht : t ∈ PL) (q : Int) : ∃ C,Did m (m.cpX M.enX M.layX f t q) (r.cpX M.renX M.rlayX f t q) C ∧ Fine m C:=by
 unfold M.cpX
 rw [coE_w hw,coC_w hw]
 by_cases h : m.coE f t = 0
 ·rw [if_pos h,if_pos h]
  obtain ⟨h1,h2,h3⟩:=coE_is h
  obtain ⟨k1,k2,k3,k4⟩:=coC_is (q:=q) h
  obtain ⟨hfL,htL⟩:=D.enE hf ht h1
  obtain ⟨d1,d2,_,_⟩:=derC_is h2
  obtain ⟨C,hD,hC⟩:=D.child (coXe_w m f t) ((coXr_w r f t).trans hw) hfL ht htL (c:=m.coC f t q) (by rw [k1]; exact derE_ty h2)
  refine ⟨C,hD,Fine.child hf hC ⟨k1.symm,k2.symm,k4, .inl k3.symm⟩ ?_⟩
  rw [fitB_eq k1 k2,← fitB_eq d1 d2]; exact h3
 ·rw [if_neg h,if_neg h]
  exact ⟨_,D.same (coXe_w m f t) ((coXr_w r f t).trans hw),Fine.same m⟩
theorem miC_is (c : Cap) (n g b : Int) (h : c.miE n g b = 0) : (c.miC n g b).ty = c.ty ∧ (c.miC n g b).obj = c.obj ∧ (c.miC n g b).rights = c.rights ∧ (c.badge = (c.miC n g b).badge ∨ c.badge = 0):=by
 unfold Cap.miE at h
 unfold Cap.miC
 split
 ·rename_i h1
  rw [if_pos h1] at h
  refine ⟨rfl,rfl,rfl, .inr ?_⟩
  split at h
  ·rename_i h2; simpa using h2
  ·cases h
 ·split
  ·exact ⟨rfl,rfl,rfl, .inl rfl⟩
  ·exact ⟨rfl,rfl,rfl, .inl rfl⟩
theorem DI.mi (D : DI m L) (hw : r.w = m.w) {f t : Int} (hf : f ∈ PL) (ht : t ∈ PL) (q n g b : Int) : ∃ C,Did m (m.miX M.enX M.layX f t q n g b) (r.miX M.renX M.rlayX f t q n g b) C ∧ Fine m C:=by
 unfold M.miX
 rw [miE_w hw,coC_w hw]
 by_cases h0 : m.miE f t q n g b = 0
 ·rw [if_pos h0,if_pos h0]
  have h : m.coE f t = 0:=by
   unfold M.miE at h0
   split at h0
   ·assumption
   ·exact h0
  have hm : (m.coC f t q).miE n g b = 0:=by
   unfold M.miE at h0
   rwa [if_pos h] at h0
  obtain ⟨h1,h2,h3⟩:=coE_is h
  obtain ⟨k1,k2,k3,k4⟩:=coC_is (q:=q) h
  obtain ⟨j1,j2,j3,j4⟩:=miC_is _ n g b hm
  obtain ⟨hfL,htL⟩:=D.enE hf ht h1
  obtain ⟨d1,d2,_,_⟩:=derC_is h2
  obtain ⟨C,hD,hC⟩:=D.child (coXe_w m f t) ((coXr_w r f t).trans hw) hfL ht htL (c:=(m.coC f t q).miC n g b) (by rw [j1,k1]; exact derE_ty h2)
  refine ⟨C,hD,Fine.child hf hC ⟨(j1.trans k1).symm,(j2.trans k2).symm,by rw [j3]; exact k4,by rw [← k3]; exact j4⟩ ?_⟩
  rw [fitB_eq j1 j2,fitB_eq k1 k2,← fitB_eq d1 d2]; exact h3
 ·rw [if_neg h0,if_neg h0]
  exact ⟨_,D.same (coXe_w m f t) ((coXr_w r f t).trans hw),Fine.same m⟩
theorem moE_is {f t : Int} (h : m.moE f t = 0) : m.enE f t = 0 ∧ fitB (m.gV f).cap t = true:=by
 unfold M.moE at h
 split at h
 ·rename_i h1
  split at h
  ·rename_i h2; exact ⟨h1,h2⟩
  ·cases h
 ·rename_i h1; exact absurd h h1
theorem Fine.mov {C : Int → Cap} {f t : Int} (hf : f ∈ PL) (hC : ∀ x,C x = if x = f then capZ else if x = t then (m.gV f).cap else (m.gV x).cap) (h : fitB (m.gV f).cap t = true) : Fine m C:=by
 refine ⟨fun k hk => ?_,fun hfit k hk => ?_⟩
 ·rw [hC k]
  split
  ·exact .inl rfl
  ·split
   ·exact .inr ⟨f,hf,capLe.refl _⟩
   ·exact .inr ⟨k,hk,capLe.refl _⟩
 ·rw [hC k]
  split
  ·rfl
  ·split
   ·rename_i e; rw [e]; exact h
   ·exact hfit k hk
theorem DI.mv (D : DI m L) (hw : r.w = m.w) {f t : Int} (hf : f ∈ PL) (ht : t ∈ PL) : ∃ C,Did m (m.mvX M.enX M.mov f t) (r.mvX M.renX M.rmov f t) C ∧ Fine m C:=by
 unfold M.mvX
 rw [moE_w hw]
 by_cases h : m.moE f t = 0
 ·rw [if_pos h,if_pos h]
  obtain ⟨h1,h2⟩:=moE_is h
  obtain ⟨hfL,htL⟩:=D.enE hf ht h1
  obtain ⟨_,_,e1,_,e2,e3⟩:=(D.of_w (coXe_w m f t)).mov (((coXr_w r f t).trans hw).trans (coXe_w m f t).symm) hfL (PL_PB ht) htL
  refine ⟨_,⟨e1,⟨_,e2⟩,e3⟩,Fine.mov (f:=f) (t:=t) hf (fun x => ?_) h2⟩
  simp only [gV_fun (coXe_w m f t)]
 ·rw [if_neg h,if_neg h]
  exact ⟨_,D.same (coXe_w m f t) ((coXr_w r f t).trans hw),Fine.same m⟩
theorem DI.mu (D : DI m L) (hw : r.w = m.w) {f t : Int} (hf : f ∈ PL) (ht : t ∈ PL) (g b : Int) : ∃ C,Did m (m.muX M.enX M.mov f t g b) (r.muX M.renX M.rmov f t g b) C ∧ Fine m C:=by
 unfold M.muX
 rw [moE_w hw,muE_w hw,gV_w hw]
 have wm:=(gX_w (m.coX M.enX f t) f).trans (coXe_w m f t)
 have wr:=(gX_w (r.coX M.renX f t) f).trans ((coXr_w r f t).trans hw)
 by_cases h : m.moE f t = 0
 ·rw [if_pos h,if_pos h]
  by_cases hu : m.muE f t g b = 0
  ·rw [if_pos hu,if_pos hu]
   obtain ⟨h1,h2⟩:=moE_is h
   obtain ⟨hfL,htL⟩:=D.enE hf ht h1
   obtain ⟨_,_,e1,_,e2,e3⟩:=(D.of_w wm).mov (wr.trans wm.symm) hfL (PL_PB ht) htL
   have hcf : ((m.gV f).cap.withG g b).ty = (m.gV f).cap.ty:=rfl
   have hft : t ≠ f:=fun e => htL (e ▸ hfL)
   obtain ⟨C,hD,hC⟩:=e2.scX e1 (a:=t) (List.mem_map.2 ⟨f,hfL,by simp [rho]⟩) (c:=(m.gV f).cap.withG g b) (D.inv.gE hfL).2
   refine ⟨C,⟨hD.w,hD.L,hD.cap⟩, ?_⟩
   have hm1 : ∀ x,x ≠ 0 → (((((m.coX M.enX f t).gX f).mov f t).2).gV x).cap = if x = f then capZ else if x = t then (m.gV f).cap else (m.gV x).cap:=fun x hx => by
    rw [e3 x hx]; simp only [gV_fun wm]
   rcases hC with hC | hC
   ·have F : Fine m fun x => if x = f then capZ else if x = t then (m.gV f).cap else (m.gV x).cap:=Fine.mov hf (fun _ => rfl) h2
    refine ⟨fun k hk => ?_,fun hfit k hk => ?_⟩
    ·rw [hC k,hm1 k (D.n0 (PL_PB hk))]; exact F.le k hk
    ·rw [hC k,hm1 k (D.n0 (PL_PB hk))]; exact F.fit hfit k hk
   ·have F : Fine m fun x => if x = f then capZ else if x = t then (m.gV f).cap else (m.gV x).cap:=Fine.mov hf (fun _ => rfl) h2
    refine ⟨fun k hk => ?_,fun hfit k hk => ?_⟩
    ·rw [hC k]
     by_cases e : k = t
     ·rw [if_pos e]; exact .inr ⟨f,hf,rfl,rfl,not_less_i64 _, .inl rfl⟩
     ·rw [if_neg e,hm1 k (D.n0 (PL_PB hk))]; exact F.le k hk
    ·rw [hC k]
     by_cases e : k = t
     ·rw [if_pos e,e,fitB_eq (d:=(m.gV f).cap.withG g b) (c:=(m.gV f).cap) rfl rfl]; exact h2
     ·rw [if_neg e,hm1 k (D.n0 (PL_PB hk))]; exact F.fit hfit k hk
  ·rw [if_neg hu,if_neg hu]
   exact ⟨_,D.same wm wr,Fine.same m⟩
 ·rw [if_neg h,if_neg h]
  exact ⟨_,D.same (coXe_w m f t) ((coXr_w r f t).trans hw),Fine.same m⟩
theorem roE_is {t p f : Int} (h : m.roE t p f = 0) : ¬ (p = t ∨ p = f) ∧ m.emB p = false ∧ m.emB f = false ∧ (t = f ∨ m.emB t = true) ∧ fitB (m.gV p).cap t = true ∧ fitB (m.gV f).cap p = true:=by
 unfold M.roE at h
 split at h
 ·cases h
 ·rename_i h1
  split at h
  ·cases h
  ·rename_i h2
   split at h
   ·cases h
   ·rename_i h3
    split at h
    ·rename_i h4
     have h4' : fitB (m.gV p).cap t = true ∧ fitB (m.gV f).cap p = true:=by simpa using h4
     refine ⟨h1, ?_, ?_, ?_,h4'.1,h4'.2⟩
     ·cases e : m.emB p
      ·rfl
      ·rw [e] at h2; exact absurd rfl h2
     ·cases e : m.emB f
      ·rfl
      ·rw [e,Bool.or_true] at h2; exact absurd rfl h2
     ·by_cases e : t = f
      ·exact .inl e
      ·right
       cases e2 : m.emB t
       ·exact absurd ⟨e,e2⟩ h3
       ·rfl
    ·cases h
theorem DI.roA (D : DI m L) (hw : r.w = m.w) {t p f : Int} (ht : t ∈ PL) (hp : p ∈ PL) (hf : f ∈ PL) (h : m.roE t p f = 0) : ∃ C,Did m (m.roA M.mov M.swp t p f) (r.roA M.rmov M.rswp t p f) C ∧ Fine m C:=by
 obtain ⟨h1,h2,h3,h4,h5,h6⟩:=roE_is h
 have hpL:=(D.emf (PL_PB hp)).1 h2
 have hfL:=(D.emf (PL_PB hf)).1 h3
 have hpt : p ≠ t:=fun e => h1 (.inl e)
 have hpf : p ≠ f:=fun e => h1 (.inr e)
 unfold M.roA
 by_cases e : t = f
 ·rw [if_pos e,if_pos e]
  obtain ⟨_,_,e1,_,e2,e3⟩:=D.swp hw hpL hfL hpf
  refine ⟨_,⟨e1,⟨_,e2⟩,e3⟩,fun k hk => ?_,fun hfit k hk => ?_⟩
  ·split
   ·exact .inr ⟨f,hf,capLe.refl _⟩
   ·split
    ·exact .inr ⟨p,hp,capLe.refl _⟩
    ·exact .inr ⟨k,hk,capLe.refl _⟩
  ·split
   ·rename_i e; rw [e]; exact h6
   ·split
    ·rename_i e2; rw [e2,← e]; exact h5
    ·exact hfit k hk
 ·rw [if_neg e,if_neg e]
  have htL:=(D.em (PL_PB ht)).1 (h4.resolve_left e)
  obtain ⟨_,_,e1,_,e2,e3⟩:=D.mov hw hpL (PL_PB ht) htL
  have hf2 : f ∈ L.map (rho p t):=List.mem_map.2 ⟨f,hfL,by simp [rho,Ne.symm hpf]⟩
  have hp2 : p ∉ L.map (rho p t):=fun hx => by
   obtain ⟨y,hy,e⟩:=List.mem_map.1 hx
   unfold rho at e
   split at e
   ·exact hpt e.symm
   ·rename_i h; exact h e
  obtain ⟨_,_,g1,_,g2,g3⟩:=e2.mov e1 hf2 (PL_PB hp) hp2
  have cf : ((m.mov p t).2.gV f).cap = (m.gV f).cap:=by
   rw [e3 f (D.n0 (PL_PB hf)),if_neg (Ne.symm hpf),if_neg (Ne.symm e)]
  refine ⟨_,⟨g1,⟨_,g2⟩,g3⟩,fun k hk => ?_,fun hfit k hk => ?_⟩
  ·split
   ·exact .inl rfl
   ·split
    ·rw [cf]; exact .inr ⟨f,hf,capLe.refl _⟩
    ·rw [e3 k (D.n0 (PL_PB hk))]
     split
     ·exact .inl rfl
     ·split
      ·exact .inr ⟨p,hp,capLe.refl _⟩
      ·exact .inr ⟨k,hk,capLe.refl _⟩
  ·split
   ·rfl
   ·split
    ·rename_i e2; rw [cf,e2]; exact h6
    ·rw [e3 k (D.n0 (PL_PB hk))]
     split
     ·rfl
     ·split
      ·rename_i e2; rw [e2]; exact h5
      ·exact hfit k hk
end

section
variable {m r : M} {L : List Int}
theorem roX_is (m : M) (t p f : Int) : (m.roE t p f = 0 → ∃ s : M,s.w = m.w ∧ m.roX t p f = s.roA M.mov M.swp t p f) ∧ (m.roE t p f ≠ 0 → (m.roX t p f).w = m.w):=by
 constructor
 ·intro h
  obtain ⟨h1,h2,h3,h4,h5,h6⟩:=roE_is h
  unfold M.roX M.roR
  rw [if_neg h1,if_neg (by rw [h2]; decide),if_neg (by rw [h3]; decide),if_pos h5,if_pos h6,if_pos h5,if_pos h6]
  by_cases e : t = f
  ·rw [if_pos e]
   exact ⟨_,by simp only [gX_w],rfl⟩
  ·rw [if_neg e,if_pos (h4.resolve_left e)]
   exact ⟨_,by simp only [gX_w],rfl⟩
 ·intro h
  unfold M.roX
  by_cases h1 : p = t ∨ p = f
  ·rw [if_pos h1]
  rw [if_neg h1]
  cases h2 : m.emB p
  case true => rw [if_pos rfl]; exact gX_w _ _
  rw [if_neg (by decide)]
  cases h3 : m.emB f
  case true => rw [if_pos rfl]; simp only [gX_w]
  rw [if_neg (by decide)]
  have key : ∀ s : M,s.w = m.w → (t = f ∨ m.emB t = true) → (m.roR s t p f).w = m.w:=fun s hs ht => by
   unfold M.roR
   split
   ·rename_i h5
    split
    ·rename_i h6
     refine absurd ?_ h
     unfold M.roE
     rw [if_neg h1,h2,h3,if_neg (by decide),if_neg,h5,h6,if_pos (by decide)]
     rintro ⟨k1,k2⟩
     rcases ht with k | k
     ·exact k1 k
     ·rw [k] at k2; cases k2
    ·simp only [gX_w]; exact hs
   ·simp only [gX_w]; exact hs
  by_cases e : t = f
  ·rw [if_pos e]
   exact key _ (by simp only [gX_w]) (.inl e)
  ·rw [if_neg e]
   cases h4 : m.emB t
   ·rw [if_neg (by decide)]; simp only [gX_w]
   ·rw [if_pos rfl]; exact key _ (by simp only [gX_w]) (.inr h4)
theorem rroX_is (m : M) (t p f : Int) : (m.roE t p f = 0 → ∃ s : M,s.w = m.w ∧ m.rroX t p f = s.roA M.rmov M.rswp t p f) ∧ (m.roE t p f ≠ 0 → (m.rroX t p f).w = m.w):=by
 constructor
 ·intro h
  obtain ⟨h1,h2,h3,h4,h5,h6⟩:=roE_is h
  unfold M.rroX
  rw [if_neg h1,h2,h3,if_neg (by decide),if_neg,h5,h6,if_pos (by decide)]
  ·exact ⟨_,by simp only [gX_w],rfl⟩
  ·rintro ⟨k1,k2⟩
   rcases h4 with k | k
   ·exact k1 k
   ·rw [k] at k2; cases k2
 ·intro h
  unfold M.rroX
  unfold M.roE at h
  by_cases h1 : p = t ∨ p = f
  ·rw [if_pos h1]
  rw [if_neg h1]
  rw [if_neg h1] at h
  split
  ·simp only [gX_w]
  ·rename_i h2
   rw [if_neg h2] at h
   split
   ·simp only [gX_w]
   ·rename_i h3
    rw [if_neg h3] at h
    split
    ·rename_i h4
     rw [if_pos h4] at h
     exact absurd rfl h
    ·simp only [gX_w]
theorem DI.ro (D : DI m L) (hw : r.w = m.w) {t p f : Int} (ht : t ∈ PL) (hp : p ∈ PL) (hf : f ∈ PL) : ∃ C,Did m (m.roX t p f) (r.rroX t p f) C ∧ Fine m C:=by
 by_cases h : m.roE t p f = 0
 ·obtain ⟨s,hs,e⟩:=(roX_is m t p f).1 h
  obtain ⟨s',hs',e'⟩:=(rroX_is r t p f).1 (by rw [roE_w hw]; exact h)
  rw [e,e']
  obtain ⟨C,h1,h2⟩:=(D.of_w hs).roA (r:=s') (hs'.trans (hw.trans hs.symm)) ht hp hf (by rw [roE_w hs]; exact h)
  refine ⟨C,⟨h1.w,h1.L,h1.cap⟩, ?_⟩
  refine ⟨fun k hk => ?_,fun hfit => h2.fit ?_⟩
  ·have:=h2.le k hk
   rw [gV_fun hs] at this; exact this
  ·rw [gV_fun hs]; exact hfit
 ·exact ⟨_,D.same ((roX_is m t p f).2 h) (((rroX_is r t p f).2 (by rw [roE_w hw]; exact h)).trans hw),Fine.same m⟩
def Act.u (x : Act) : Prop:=i64b x.a ∧ i64b x.b ∧ i64b x.c
theorem DI.act (D : DI m L) (hw : r.w = m.w) {x : Act} (hx : x.u) : (r.ract x).1 = (m.act x).1 ∧ ∃ C,Did m (m.act x).2 (r.ract x).2 C ∧ Fine m C:=by
 have ha:=plc_PL hx.1
 have hb:=plc_PL hx.2.1
 have hc:=plc_PL hx.2.2
 unfold M.act M.ract
 by_cases k1 : x.wh = 1
 ·rw [if_pos k1,if_pos k1]
  exact ⟨coE_w hw _ _,D.cp hw ha hb _⟩
 rw [if_neg k1,if_neg k1]
 by_cases k2 : x.wh = 2
 ·rw [if_pos k2,if_pos k2]
  exact ⟨miE_w hw _ _ _ _ _ _,D.mi hw ha hb _ _ _ _⟩
 rw [if_neg k2,if_neg k2]
 by_cases k3 : x.wh = 3
 ·rw [if_pos k3,if_pos k3]
  exact ⟨moE_w hw _ _,D.mv hw ha hb⟩
 rw [if_neg k3,if_neg k3]
 by_cases k4 : x.wh = 4
 ·rw [if_pos k4,if_pos k4]
  exact ⟨muE_w hw _ _ _ _,D.mu hw ha hb _ _⟩
 rw [if_neg k4,if_neg k4]
 by_cases k5 : x.wh = 5
 ·rw [if_pos k5,if_pos k5]
  exact ⟨roE_w hw _ _ _,D.ro hw ha hb hc⟩
 rw [if_neg k5,if_neg k5]
 exact ⟨rfl,_,D.same rfl hw,Fine.same m⟩
end
end Go.Proofs.YtcdfofeolgbnbaaGreat

/- Package objs: fields of a word. -/
namespace Go.Proofs.YtcdfofeolgbnbaaGreat
open Go.D
set_option linter.all false
set_option maxRecDepth 100000
set_option maxHeartbeats 8000000

structure Fi where
 b : Int
 n : Int
def Fi.c (f : Fi) : List S:=[.i .i64 f.b, .i .i64 f.n]
theorem Fi.c_len (f : Fi) : f.c.length = 2:=rfl
instance : Cells Fi.c:=⟨⟨2,Fi.c_len⟩,fun x y e => by
 obtain ⟨a,b⟩:=x
 obtain ⟨c,d⟩:=y
 simp only [Fi.c,List.cons.injEq,S.i.injEq,true_and,and_true] at e
 rw [e.1,e.2]⟩
def Fi.z : Fi:=⟨0,0⟩
section
variable (L : List Fd)
end
end Go.Proofs.YtcdfofeolgbnbaaGreat

/- Package objs: a word's fields; small functions. -/
namespace Go.Proofs.YtcdfofeolgbnbaaGreat
open Go.D
open Nat (reduceAdd reducePow reduceMul reduceSub reduceLeDiff reduceLT reduceEqDiff)
open Int (reduceNeg reduceLE reduceEq reduceNe reduceToNat)
open Go.D renaming istep → zy,pickR → zx,bin1R → zw,un1R → zv,eqS → zu,eq1 → zq,cmpS → zp,cmp1 → zj,isNil → zk,shows → zg,result → zZ,q_cond_t → zV,q_cond_f → zU
open List renaming set → zY,replicate → zX
open Option renaming map → zW
open Nat renaming reduceAdd → zQ,reducePow → yz,reduceMul → yy,reduceSub → yx,reduceLeDiff → yw,reduceLT → yv,reduceEqDiff → yu
open Int renaming reduceNeg → yq,reduceLE → yj,reduceEq → yk,reduceNe → yg,reduceToNat → yZ,reducePow → yY,reduceLT → yX,reduceAdd → yW,reduceSub → yV,reduceMul → yU,reduceBEq → yQ,reduceBNe → xz
set_option linter.all false
set_option maxRecDepth 100000
set_option maxHeartbeats 8000000

def V.fit (n m : Nat) (v : V) : V:=cond (v.val n m) v (.s .u)
def ic (l : List Int) : List S:=l.map (S.i .i64)
section
variable (l : List Int)
end
def in3 (n a b : Int) : Bool:=decide (a ≤ n) && decide (n ≤ b)
def orinG : List V → List Blk → Res
 | [.s (.i .i64 n), .s (.i .i64 a), .s (.i .i64 b)],h => .ok (.s (.b (in3 n a b))) [] h
 | _,_ => .bad
theorem orin_snd : Snd Tryz.prog 200 (FSpec.of orinG):=snd_run (noT_snd _) mixed Tryz.func200 dc200 100 fun args h K hc hS => by
 unfold orinG at hS
 split at hS
 ·simp only [spec_ok,in3] at hS
  simp (maxSteps:=9999999) only [EV0,zy,zx,zw,zv,zu,zq,zp,zj,zk,leT,zg,rvC,zZ,zY,zX,zW,↓zV,↓zU,reduceCtorEq,zQ,yz,yY,yy,yx,yw,yv,yu,yq,yX,yj,yk,yg,yW,yV,yU,yZ,yQ,xz,df200]
  exact hS
 ·exact hS.elim
theorem in3_iff {n a b : Int} : in3 n a b = true ↔ a ≤ n ∧ n ≤ b:=by simp [in3]

def otB (m : M) (a n : Int) : Bool:=decide (1024 ≤ a ∧ a % n = 0 ∧ a + n ≤ m.w.length)
theorem otB_iff {m : M} {a n : Int} : otB m a n = true ↔ 1024 ≤ a ∧ a % n = 0 ∧ a + n ≤ m.w.length:=by simp [otB]
def otM (b : Nat) (m : M) (st : M → List Blk) : List V → Res
 | [.s (.i .i64 a), .s (.i .i64 n)] => .ob (0 < n ∧ n ≤ 64) (.ok (.s (.b (otB m a n))) [] (st m))
 | _ => .bad
noncomputable def otG:=memF otM
noncomputable def To2 : Tab:=addT 150 wordsG (addT 189 thereG (noT))
theorem To2_snd : To2.Snd Tryz.prog:=addT_snd ok150 mwords_snd (addT_snd ok189 rthere_snd ((noT_snd _)))
theorem rot_snd : Snd Tryz.prog 195 (FSpec.of otG):=snd_run To2_snd mixed Tryz.func195 dc195 100 fun args h K hc hS => by
 obtain ⟨a,b,m,rest,rfl,H,hS1⟩:=memF_spec hS
 clear hS
 have hS:=hS1
 clear hS1
 unfold otM at hS
 split at hS
 ·rename_i a n
  obtain ⟨hn,hS⟩:=hS
  simp only [spec_ok,setM_self H] at hS
  have hl:=m.l
  have hn0 : n ≠ 0:=by omega
  cases hh : m.has a n with
  | false =>
   have hh2:=M.has_not hh
   have : otB m a n = false:=by simp only [otB,decide_eq_false_iff_not]; omega
   rw [this] at hS
   simp (maxSteps:=9999999) only [EV0,zy,zx,zw,zv,zu,zq,zp,zj,zk,leT,zg,rvC,zZ,zY,zX,zW,↓zV,↓zU,reduceCtorEq,zQ,yz,yY,yy,yx,yw,yv,yu,yq,yX,yj,yk,yg,yW,yV,yU,yZ,yQ,xz,df195,To2,thereG,memF_eq H,thereM,setM_self H,hh]
   exact hS
  | true =>
   have hh2:=M.has_iff.1 hh
   by_cases c1 : 1024 ≤ a
   ·have ht : a.tmod n = a % n:=Int.tmod_eq_emod_of_nonneg (by omega)
    by_cases c2 : a % n = 0
    ·rw [otB_iff.2 ⟨c1,c2,by omega⟩] at hS
     simp (maxSteps:=9999999) only [EV0,zy,zx,zw,zv,zu,zq,zp,zj,zk,leT,zg,rvC,zZ,zY,zX,zW,↓zV,↓zU,reduceCtorEq,zQ,yz,yY,yy,yx,yw,yv,yu,yq,yX,yj,yk,yg,yW,yV,yU,yZ,yQ,xz,df195,To2,thereG,memF_eq H,thereM,setM_self H,hh,c1,hn0,ht,c2]
     exact hS
    ·have : otB m a n = false:=by simp only [otB,decide_eq_false_iff_not]; omega
     rw [this] at hS
     have c2' : (a % n == 0) = false:=by simpa using c2
     simp (maxSteps:=9999999) only [EV0,zy,zx,zw,zv,zu,zq,zp,zj,zk,leT,zg,rvC,zZ,zY,zX,zW,↓zV,↓zU,reduceCtorEq,zQ,yz,yY,yy,yx,yw,yv,yu,yq,yX,yj,yk,yg,yW,yV,yU,yZ,yQ,xz,df195,To2,thereG,memF_eq H,thereM,setM_self H,hh,c1,hn0,ht,c2']
     exact hS
   ·have : otB m a n = false:=by simp only [otB,decide_eq_false_iff_not]; omega
    rw [this] at hS
    simp (maxSteps:=9999999) only [EV0,zy,zx,zw,zv,zu,zq,zp,zj,zk,leT,zg,rvC,zZ,zY,zX,zW,↓zV,↓zU,reduceCtorEq,zQ,yz,yY,yy,yx,yw,yv,yu,yq,yX,yj,yk,yg,yW,yV,yU,yZ,yQ,xz,df195,To2,thereG,memF_eq H,thereM,setM_self H,hh,c1]
    exact hS
 ·exact hS.elim
end Go.Proofs.YtcdfofeolgbnbaaGreat

/- Package objs: endpoints,in code and document. -/
namespace Go.Proofs.YtcdfofeolgbnbaaGreat
open Go.D
set_option linter.all false
set_option maxRecDepth 100000
set_option maxHeartbeats 8000000

structure Qu where
 s : Int
 h : Int
 t : Int
def Qu.cl (q : Qu) : List S:=[.i .i64 q.s, .i .i64 q.h, .i .i64 q.t]
def Qu.B (q : Qu) : Bool:=cond (q.s == 0) (q.h == 0 && q.t == 0) (in3 q.s 1 2 && (in3 q.h 1 65535 && in3 q.t 1 65535))
def Qu.C (q : Qu) : Bool:=cond (q.s == 0) (q.h == 0 && q.t == 0) (decide (q.s ≤ 2) && (decide (0 < q.h) && decide (0 < q.t)))
def Qu.w (q : Qu) : Int:=q.s + 4 * q.h + 262144 * q.t
noncomputable def To3 : Tab:=addT 200 orinG (noT)
theorem To3_snd : To3.Snd Tryz.prog:=addT_snd ok200 orin_snd ((noT_snd _))
/-! ### Queue,SetQueue -/
def sml (n : Int) : Prop:=n < 9223372036854775808
def Qu.up (q : Qu) : Prop:=sml q.s ∧ sml q.h ∧ sml q.t

/-! ### SetQueue -/

structure Si where
 s : Int
 h : Int
 t : Int
 g : Int
 b : Int
def Si.cl (q : Si) : List S:=[.i .i64 q.s, .i .i64 q.h, .i .i64 q.t, .i .i64 q.g, .i .i64 q.b]
def Si.R (q : Si) : Bool:=cond (q.s == 0) (q.h == 0 && (q.t == 0 && q.g == 0)) (cond (q.s == 1) (in3 q.h 1 65535 && (in3 q.t 1 65535 && q.g == 0)) (cond (q.s == 2) (q.h == 0 && q.t == 0) false))
def Si.B (q : Si) : Bool:=cond (in3 q.b 0 65535) (cond (in3 q.g 0 268435455) q.R false) false
def Si.C (q : Si) : Bool:=cond (q.s == 0) (q.h == 0 && (q.t == 0 && !decide (0 < q.g))) (cond (q.s == 1) (decide (0 < q.h) && (decide (0 < q.t) && !decide (0 < q.g))) (cond (q.s == 2) (q.h == 0 && q.t == 0) false))
def Si.v (q : Si) : Int:=Qu.w ⟨q.s,q.h,q.t⟩
def Si.w (q : Si) : Int:=q.g + 268435456 * q.b
/-! ### Signal,SetSignal -/
def Si.up (q : Si) : Prop:=sml q.s ∧ sml q.h ∧ sml q.t ∧ sml q.g ∧ sml q.b

/-! ### SetSignal -/
end Go.Proofs.YtcdfofeolgbnbaaGreat

/- Package walk: entries,indices. -/
namespace Go.Proofs.YtcdfofeolgbnbaaGreat
open Go.D
set_option linter.all false
set_option maxRecDepth 100000
set_option maxHeartbeats 4000000

structure En where
 v : Bool
 l : Bool
 a : Int
 r : Int
def En.c (e : En) : List S:=[.b e.v, .b e.l, .i .i64 e.a, .i .i64 e.r]
theorem En.c_len (e : En) : e.c.length = 4:=rfl
theorem En.ext' {e f : En} (h1 : e.v = f.v) (h2 : e.l = f.l) (h3 : e.a = f.a) (h4 : e.r = f.r) : e = f:=by
 cases e; cases f; simp only at h1 h2 h3 h4; subst h1; subst h2; subst h3; subst h4; rfl
def En.may (e : En) : Bool :=
 match e.v,e.l with
 | false,l => !l && (e.a == 0 && e.r == 0)
 | true,true => decide (16 ≤ e.a ∧ e.a ≤ 65520 ∧ e.a % 16 = 0 ∧ 0 ≤ e.r ∧ e.r ≤ 3)
 | true,false => decide (8 ≤ e.a ∧ e.a ≤ 65528 ∧ e.a % 8 = 0 ∧ e.r = 0)
def bI (b : Bool) : Int:=if b then 1 else 0
def En.w (e : En) : Int:=e.a * 65536 + e.r * 4 + (bI e.v + 2 * bI e.l)
/-! ### bits -/
/-! ### package walk -/

/-! ### the document's -/
/-! ### indices -/

/-! ### a walk -/
structure WR where
 a : Int
 r : Int
 l : Int
 e : Int
 m : M
def WR.v (x : WR) : V:=.tup [.s (.i .i64 x.a), .s (.i .i64 x.r), .s (.i .i64 x.l), .s (.i .i64 x.e)]
end Go.Proofs.YtcdfofeolgbnbaaGreat

/- Package objs: registers,entries,roots,in code and document. -/
namespace Go.Proofs.YtcdfofeolgbnbaaGreat
open Go.D
set_option linter.all false
set_option maxRecDepth 100000
set_option maxHeartbeats 8000000

end Go.Proofs.YtcdfofeolgbnbaaGreat

/- Package objs: a thread's words. -/
namespace Go.Proofs.YtcdfofeolgbnbaaGreat
open Go.D
open Nat (reduceAdd reducePow reduceMul reduceSub reduceLeDiff reduceLT reduceEqDiff)
open Int (reduceNeg reduceLE reduceEq reduceNe reduceToNat)
open Go.D renaming istep → zy,pickR → zx,bin1R → zw,un1R → zv,eqS → zu,eq1 → zq,cmpS → zp,cmp1 → zj,isNil → zk,shows → zg,result → zZ,q_cond_t → zV,q_cond_f → zU
open List renaming set → zY,replicate → zX
open Option renaming map → zW
open Nat renaming reduceAdd → zQ,reducePow → yz,reduceMul → yy,reduceSub → yx,reduceLeDiff → yw,reduceLT → yv,reduceEqDiff → yu
open Int renaming reduceNeg → yq,reduceLE → yj,reduceEq → yk,reduceNe → yg,reduceToNat → yZ,reducePow → yY,reduceLT → yX,reduceAdd → yW,reduceSub → yV,reduceMul → yU,reduceBEq → yQ,reduceBNe → xz
set_option linter.all false
set_option maxRecDepth 100000
set_option maxHeartbeats 8000000

structure Th where
 st : Int
 pr : Int
 sl : Int
 qd : Bool
 pv : Int
 nx : Int
 bl : Int
 bg : Int
 cg : Bool
 ic : Bool
 bo : Int
 ha : Int
 fk : Int
 fa : Int
 rg : List Int
def Th.c (t : Th) : List S:=.i .i64 t.st :: .i .i64 t.pr :: .i .i64 t.sl :: .b t.qd :: .i .i64 t.pv :: .i .i64 t.nx :: .i .i64 t.bl :: .i .i64 t.bg :: .b t.cg :: .b t.ic :: .i .i64 t.bo :: .i .i64 t.ha :: .i .i64 t.fk :: .i .i64 t.fa :: wc t.rg
def thF (f : Th → Res) : List V → Res
 | [.agg (.i .i64 a :: .i .i64 b :: .i .i64 c :: .b d :: .i .i64 e :: .i .i64 g :: .i .i64 i :: .i .i64 j :: .b k :: .b l :: .i .i64 n :: .i .i64 o :: .i .i64 p :: .i .i64 q :: r)] =>
  match unwc r with
  | some v => .ob (v.length = 16) (f ⟨a,b,c,d,e,g,i,j,k,l,n,o,p,q,v⟩)
  | none => .bad
 | _ => .bad
theorem thF_spec {f : Th → Res} {args : List V} {K : V → List Blk → Prop} (h : (thF f args).spec K) : ∃ t : Th,args = [.agg t.c] ∧ t.rg.length = 16 ∧ (f t).spec K:=by
 unfold thF at h
 split at h
 ·split at h
  ·rename_i v e
   obtain ⟨h1,h2⟩:=h
   exact ⟨⟨_,_,_,_,_,_,_,_,_,_,_,_,_,_,v⟩,by rw [wc_unwc e]; rfl,h1,h2⟩
  ·exact h.elim
 ·exact h.elim
theorem th_eta (t : Th) : (⟨t.st,t.pr,t.sl,t.qd,t.pv,t.nx,t.bl,t.bg,t.cg,t.ic,t.bo,t.ha,t.fk,t.fa,t.rg⟩ : Th) = t:=rfl
def Th.B (t : Th) : Bool:=in3 t.pv 0 65535 && (in3 t.nx 0 65535 && (in3 t.bl 0 65535 && (in3 t.bo 0 65535 && (in3 t.st 0 5 && (in3 t.pr 0 255 && (in3 t.sl 0 5 && (in3 t.fk 0 3 && (in3 t.bg 0 268435455 && (in3 t.ha 0 4294967295 && in3 t.fa 0 4294967295)))))))))
theorem Th.B_iff {t : Th} : t.B = true ↔ (0 ≤ t.pv ∧ t.pv ≤ 65535) ∧ (0 ≤ t.nx ∧ t.nx ≤ 65535) ∧ (0 ≤ t.bl ∧ t.bl ≤ 65535) ∧ (0 ≤ t.bo ∧ t.bo ≤ 65535) ∧ (0 ≤ t.st ∧ t.st ≤ 5) ∧ (0 ≤ t.pr ∧ t.pr ≤ 255) ∧ (0 ≤ t.sl ∧ t.sl ≤ 5) ∧ (0 ≤ t.fk ∧ t.fk ≤ 3) ∧ (0 ≤ t.bg ∧ t.bg ≤ 268435455) ∧ (0 ≤ t.ha ∧ t.ha ≤ 4294967295) ∧ (0 ≤ t.fa ∧ t.fa ≤ 4294967295):=by
 simp only [Th.B,Bool.and_eq_true,in3_iff]
def Th.h0 (t : Th) : Int:=t.st + 8 * t.pr + 2048 * t.sl + 16384 * bI t.qd + 32768 * bI t.cg + 65536 * bI t.ic + 131072 * t.fk
def Th.h1 (t : Th) : Int:=t.pv + 65536 * t.nx + 4294967296 * t.bl + 281474976710656 * t.bo
def Th.h3 (t : Th) : Int:=t.ha + 4294967296 * t.fa
theorem bI_u (b : Bool) : 0 ≤ bI b ∧ bI b ≤ 1:=by cases b <;> decide
theorem Th.h_u {t : Th} (h : t.B = true) : u64 t.h0 ∧ u64 t.h1 ∧ u64 t.bg ∧ u64 t.h3:=by
 have:=Th.B_iff.1 h
 have b1:=bI_u t.qd
 have b2:=bI_u t.cg
 have b3:=bI_u t.ic
 simp only [u64,Th.h0,Th.h1,Th.h3]; omega
def thBG (args : List V) (h : List Blk) : Res:=thF (fun t => .ok (.s (.b t.B)) [] h) args
def thHG (args : List V) (h : List Blk) : Res:=thF (fun t => .ob (t.B = true) (.ok (.agg [.i .u64 t.h0, .i .u64 t.h1, .i .u64 t.bg, .i .u64 t.h3]) [] h)) args
theorem wc_take {L : List Int} (h : L.length = 16) : List.take 16 (wc L) = wc L:=by rw [List.take_of_length_le]; rw [wc_len]; omega
theorem thB_snd : Snd Tryz.prog 196 (FSpec.of thBG):=snd_run To3_snd mixed Tryz.func196 dc196 200 fun args h K hc hS => by
 obtain ⟨t,rfl,hl,hR⟩:=thF_spec hS
 clear hS
 simp only [spec_ok,Th.B] at hR
 simp only [Th.c]
 have w1:=wc_known t.rg
 simp (maxSteps:=9999999) only [EV0,zy,zx,zw,zv,zu,zq,zp,zj,zk,leT,zg,rvC,zZ,zY,zX,zW,↓zV,↓zU,reduceCtorEq,zQ,yz,yY,yy,yx,yw,yv,yu,yq,yX,yj,yk,yg,yW,yV,yU,yZ,yQ,xz,df196,To3,orinG,w1,Bool.and_assoc,sub,put,fillP,EVt]
 exact hR
def bitG : List V → List Blk → Res
 | [.s (.b q)],h => .ok (.s (.i .u64 (bI q))) [] h
 | _,_ => .bad
theorem bit_snd : Snd Tryz.prog 201 (FSpec.of bitG):=snd_run (noT_snd _) mixed Tryz.func201 dc201 100 fun args h K hc hS => by
 unfold bitG at hS
 split at hS
 ·rename_i q
  simp only [spec_ok,bI] at hS
  cases q
  ·simp (maxSteps:=9999999) only [EV0,zy,zx,zw,zv,zu,zq,zp,zj,zk,leT,zg,rvC,zZ,zY,zX,zW,↓zV,↓zU,reduceCtorEq,zQ,yz,yY,yy,yx,yw,yv,yu,yq,yX,yj,yk,yg,yW,yV,yU,yZ,yQ,xz,df201]
   exact hS
  ·simp (maxSteps:=9999999) only [EV0,zy,zx,zw,zv,zu,zq,zp,zj,zk,leT,zg,rvC,zZ,zY,zX,zW,↓zV,↓zU,reduceCtorEq,zQ,yz,yY,yy,yx,yw,yv,yu,yq,yX,yj,yk,yg,yW,yV,yU,yZ,yQ,xz,df201]
   exact hS
 ·exact hS.elim
noncomputable def To8 : Tab:=addT 201 bitG (noT)
theorem To8_snd : To8.Snd Tryz.prog:=addT_snd ok201 bit_snd ((noT_snd _))
theorem thH_snd : Snd Tryz.prog 197 (FSpec.of thHG):=snd_run To8_snd mixed Tryz.func197 dc197 200 fun args h K hc hS => by
 obtain ⟨t,rfl,hl,hB,hR⟩:=thF_spec hS
 clear hS
 have hb:=Th.B_iff.1 hB
 have b1:=bI_u t.qd
 have b2:=bI_u t.cg
 have b3:=bI_u t.ic
 simp only [spec_ok,Th.h0,Th.h1,Th.h3] at hR
 simp only [Th.c]
 have w1:=wc_known t.rg
 obtain ⟨q,hq⟩ : ∃ q,bI t.qd = q:=⟨_,rfl⟩
 obtain ⟨g,hg⟩ : ∃ q,bI t.cg = q:=⟨_,rfl⟩
 obtain ⟨i,hi⟩ : ∃ q,bI t.ic = q:=⟨_,rfl⟩
 rw [hq] at b1
 rw [hg] at b2
 rw [hi] at b3
 rw [hq,hg,hi] at hR
 have m3 : min 3 IntKind.u64.bits = 3:=rfl
 have m11 : min 11 IntKind.u64.bits = 11:=rfl
 have m14 : min 14 IntKind.u64.bits = 14:=rfl
 have m15 : min 15 IntKind.u64.bits = 15:=rfl
 have m16 : min 16 IntKind.u64.bits = 16:=rfl
 have m17 : min 17 IntKind.u64.bits = 17:=rfl
 have m32 : min 32 IntKind.u64.bits = 32:=rfl
 have m48 : min 48 IntKind.u64.bits = 48:=rfl
 have y1 : IntKind.u64.wrap t.st = t.st:=wrapu (by omega) (by omega)
 have y2 : IntKind.u64.wrap t.pr = t.pr:=wrapu (by omega) (by omega)
 have y3 : IntKind.u64.wrap (t.pr * 8) = t.pr * 8:=wrapu (by omega) (by omega)
 have y4 : IntKind.u64.wrap (t.st + t.pr * 8) = t.st + t.pr * 8:=wrapu (by omega) (by omega)
 have y5 : IntKind.u64.wrap t.sl = t.sl:=wrapu (by omega) (by omega)
 have y6 : IntKind.u64.wrap (t.sl * 2048) = t.sl * 2048:=wrapu (by omega) (by omega)
 have y7 : IntKind.u64.wrap (t.st + t.pr * 8 + t.sl * 2048) = t.st + t.pr * 8 + t.sl * 2048:=wrapu (by omega) (by omega)
 have y8 : IntKind.u64.wrap (q * 16384) = q * 16384:=wrapu (by omega) (by omega)
 have y9 : IntKind.u64.wrap (t.st + t.pr * 8 + t.sl * 2048 + q * 16384) = t.st + t.pr * 8 + t.sl * 2048 + q * 16384:=wrapu (by omega) (by omega)
 have y10 : IntKind.u64.wrap (g * 32768) = g * 32768:=wrapu (by omega) (by omega)
 have y11 : IntKind.u64.wrap (t.st + t.pr * 8 + t.sl * 2048 + q * 16384 + g * 32768) = t.st + t.pr * 8 + t.sl * 2048 + q * 16384 + g * 32768:=wrapu (by omega) (by omega)
 have y12 : IntKind.u64.wrap (i * 65536) = i * 65536:=wrapu (by omega) (by omega)
 have y13 : IntKind.u64.wrap (t.st + t.pr * 8 + t.sl * 2048 + q * 16384 + g * 32768 + i * 65536) = t.st + t.pr * 8 + t.sl * 2048 + q * 16384 + g * 32768 + i * 65536:=wrapu (by omega) (by omega)
 have y14 : IntKind.u64.wrap t.fk = t.fk:=wrapu (by omega) (by omega)
 have y15 : IntKind.u64.wrap (t.fk * 131072) = t.fk * 131072:=wrapu (by omega) (by omega)
 have y16 : IntKind.u64.wrap (t.st + t.pr * 8 + t.sl * 2048 + q * 16384 + g * 32768 + i * 65536 + t.fk * 131072) = t.st + 8 * t.pr + 2048 * t.sl + 16384 * q + 32768 * g + 65536 * i + 131072 * t.fk:=by rw [wrapu (by omega) (by omega)]; omega
 have z1 : IntKind.u64.wrap t.pv = t.pv:=wrapu (by omega) (by omega)
 have z2 : IntKind.u64.wrap t.nx = t.nx:=wrapu (by omega) (by omega)
 have z3 : IntKind.u64.wrap (t.nx * 65536) = t.nx * 65536:=wrapu (by omega) (by omega)
 have z4 : IntKind.u64.wrap (t.pv + t.nx * 65536) = t.pv + t.nx * 65536:=wrapu (by omega) (by omega)
 have z5 : IntKind.u64.wrap t.bl = t.bl:=wrapu (by omega) (by omega)
 have z6 : IntKind.u64.wrap (t.bl * 4294967296) = t.bl * 4294967296:=wrapu (by omega) (by omega)
 have z7 : IntKind.u64.wrap (t.pv + t.nx * 65536 + t.bl * 4294967296) = t.pv + t.nx * 65536 + t.bl * 4294967296:=wrapu (by omega) (by omega)
 have z8 : IntKind.u64.wrap t.bo = t.bo:=wrapu (by omega) (by omega)
 have z9 : IntKind.u64.wrap (t.bo * 281474976710656) = t.bo * 281474976710656:=wrapu (by omega) (by omega)
 have z10 : IntKind.u64.wrap (t.pv + t.nx * 65536 + t.bl * 4294967296 + t.bo * 281474976710656) = t.pv + 65536 * t.nx + 4294967296 * t.bl + 281474976710656 * t.bo:=by rw [wrapu (by omega) (by omega)]; omega
 have v1 : IntKind.u64.wrap t.bg = t.bg:=wrapu (by omega) (by omega)
 have v2 : IntKind.u64.wrap t.ha = t.ha:=wrapu (by omega) (by omega)
 have v3 : IntKind.u64.wrap t.fa = t.fa:=wrapu (by omega) (by omega)
 have v4 : IntKind.u64.wrap (t.fa * 4294967296) = t.fa * 4294967296:=wrapu (by omega) (by omega)
 have v5 : IntKind.u64.wrap (t.ha + t.fa * 4294967296) = t.ha + 4294967296 * t.fa:=by rw [wrapu (by omega) (by omega)]; omega
 simp (maxSteps:=9999999) only [EV0,zy,zx,zw,zv,zu,zq,zp,zj,zk,leT,zg,rvC,zZ,zY,zX,zW,↓zV,↓zU,reduceCtorEq,zQ,yz,yY,yy,yx,yw,yv,yu,yq,yX,yj,yk,yg,yW,yV,yU,yZ,yQ,xz,df197,To8,bitG,w1,hq,hg,hi,m3,m11,m14,m15,m16,m17,m32,m48,y1,y2,y3,y4,y5,y6,y7,y8,y9,y10,y11,y12,y13,y14,y15,y16,z1,z2,z3,z4,z5,z6,z7,z8,z9,z10,v1,v2,v3,v4,v5,sub,put,fillP,EVt]
 exact hR
end Go.Proofs.YtcdfofeolgbnbaaGreat

