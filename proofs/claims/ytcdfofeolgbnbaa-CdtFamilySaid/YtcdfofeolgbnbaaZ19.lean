/- Law 11: played: a script over both memories. -/
import Derived.Test.YtcdfofeolgbnbaaZ18
import Derived.Test.YtcdfofeolgbnbaaZ17
import Derived.Test.YtcdfofeolgbnbaaZ8
/- Law 11: the memories that a script makes: a list that is a forest; each act by both. -/
namespace Go.Proofs.Ytcdfofeolgbnbaa
open Go.D
set_option linter.all false
set_option maxRecDepth 100000
set_option maxHeartbeats 4000000

def dep (D : Int → Int) : Int → List Int → Prop
 | _,[] => True
 | d,x :: L => D x ≤ d + 1 ∧ dep D (D x) L
def lastD (D : Int → Int) : Int → List Int → Int
 | d,[] => d
 | _,x :: L => lastD D (D x) L
theorem dep_app {D : Int → Int} : ∀ {A B : List Int} {d : Int},dep D d (A ++ B) ↔ dep D d A ∧ dep D (lastD D d A) B
 | [],B,d => by simp [dep,lastD]
 | x :: A,B,d => by simp only [List.cons_append,dep,lastD,dep_app (A:=A),and_assoc]
theorem dep_mono {D : Int → Int} {d e : Int} (h : d ≤ e) : ∀ {L : List Int},dep D d L → dep D e L
 | [],_ => trivial
 | x :: L,⟨h1,h2⟩ => ⟨by omega,h2⟩
theorem dep_congr {D D' : Int → Int} : ∀ {L : List Int} {d : Int},(∀ x,x ∈ L → D' x = D x) → dep D d L → dep D' d L
 | [],_,_,_ => trivial
 | x :: L,d,h,⟨h1,h2⟩ => by
  have e:=h x List.mem_cons_self
  exact ⟨by rw [e]; exact h1,by rw [e]; exact dep_congr (fun y hy => h y (List.mem_cons_of_mem _ hy)) h2⟩
theorem lastD_congr {D D' : Int → Int} : ∀ {L : List Int} {d : Int},(∀ x,x ∈ L → D' x = D x) → lastD D' d L = lastD D d L
 | [],_,_ => rfl
 | x :: L,d,h => by
  simp only [lastD,h x List.mem_cons_self]
  exact lastD_congr fun y hy => h y (List.mem_cons_of_mem _ hy)
theorem dep_map {D D' : Int → Int} {ρ : Int → Int} : ∀ {L : List Int} {d : Int},(∀ x,x ∈ L → D' (ρ x) = D x) → dep D d L → dep D' d (L.map ρ)
 | [],_,_,_ => trivial
 | x :: L,d,h,⟨h1,h2⟩ => by
  have e:=h x List.mem_cons_self
  exact ⟨by rw [e]; exact h1,by rw [e]; exact dep_map (fun y hy => h y (List.mem_cons_of_mem _ hy)) h2⟩
theorem dep_rem {D D' : Int → Int} {da : Int} : ∀ {Ds E : List Int} {e d : Int},dep D e (Ds ++ E) → da ≤ e → e ≤ d + 1 → (∀ y,y ∈ Ds → da < D y ∧ D' y = D y - 1) → (∀ y,y ∈ E → D' y = D y) → (E = [] ∨ ∃ z E',E = z :: E' ∧ D z ≤ da) → dep D' d (Ds ++ E)
 | [],[],e,d,_,_,_,_,_,_ => trivial
 | [],z :: E,e,d,⟨h1,h2⟩,ha,hd,_,hE,hz => by
  have hz : D z ≤ da:=by
   rcases hz with h | ⟨z',E',h,h3⟩
   ·cases h
   ·cases h; exact h3
  have e1:=hE z List.mem_cons_self
  refine ⟨by rw [e1]; omega, ?_⟩
  rw [e1]
  exact dep_congr (fun y hy => hE y (List.mem_cons_of_mem _ hy)) h2
 | y :: Ds,E,e,d,⟨h1,h2⟩,ha,hd,hD,hE,hz => by
  obtain ⟨k1,k2⟩:=hD y List.mem_cons_self
  exact ⟨by omega,dep_rem h2 (by omega) (by omega) (fun z hz => hD z (List.mem_cons_of_mem _ hz)) hE hz⟩

def P11 (x : Int) : Prop:=4 ≤ x ∧ x.tmod 4 = 0 ∧ x ≤ 2044
def M.D (m : M) (x : Int) : Int:=(m.gV x).depth
structure W11 (m : M) (L : List Int) : Prop where
 len : m.w.length = 2048
 inv : m.Inv P11 L
 dep : dep m.D (-1) L
section
variable {m r : M} {L : List Int}
theorem W11.there (W : W11 m L) {x : Int} : thereB m x = true ↔ P11 x:=by
 rw [there_iff,W.len]; rfl
theorem D_w {m m' : M} (e : m'.w = m.w) : m'.D = m.D:=funext fun x => congrArg Slot.depth (gV_w e x)
theorem W11.of_w (W : W11 m L) {m' : M} (e : m'.w = m.w) : W11 m' L:=⟨by rw [e]; exact W.len,W.inv.of_w e,by rw [D_w e]; exact W.dep⟩
theorem W11.P (W : W11 m L) {x : Int} (h : m.gE x = 0) : P11 x:=W.there.1 (gE_there h).1
theorem W11.n0 (W : W11 m L) {x : Int} (h : x ∈ L) : x ≠ 0:=fun e => W.inv.no0 (e ▸ h)
def okS (m : M) (L : List Int) (x : Int) : Prop:=m.gE x ≠ 0 ∨ m.eB x = true ∨ x ∈ L
theorem okS.full {x : Int} (h : okS m L x) (hf : m.fE x = 0) : x ∈ L:=by
 obtain ⟨h1,h2⟩:=fE_zero.1 hf
 rcases h with h | h | h
 ·exact absurd h1 h
 ·unfold M.eB at h
  rw [if_pos h1] at h
  exact absurd (by rw [Slot.isZ_iff.1 h]; rfl) h2
 ·exact h
theorem eB_free {x : Int} (h : m.eB x = true) : m.gE x = 0 ∧ m.gV x = slotZ:=by
 unfold M.eB at h
 split at h
 ·rename_i h1; exact ⟨h1,Slot.isZ_iff.1 h⟩
 ·cases h
inductive St11 (m : M) (L : List Int) (x : Op) : Int → M → List Int → Prop
 | no {e : Int} {m' : M} (he : e ≠ 0) (hw : m'.w = m.w) : St11 m L x e m' L
 | ins {m' : M} (wh : x.wh = 1) (hf : m.fE x.a = 0) (hu : x.a ∉ L) (hp : x.b = 0 ∨ (x.b ∈ L ∧ (m.gV x.b).depth ≠ 65535)) (T : m.To m' (m.insV x.b x.a) (m.insF x.b x.a)) : St11 m L x 0 m' (insLL x.b x.a L)
 | mov {m' : M} (wh : x.wh = 2) (ha : x.a ∈ L) (ht : m.gE x.b = 0) (hz : m.gV x.b = slotZ) (T : m.To m' (m.movV x.a x.b) (m.movF x.a x.b)) : St11 m L x 0 m' (L.map (rho x.a x.b))
 | sw0 {m' : M} (wh : x.wh = 3) (ha : x.a ∈ L) (hab : x.a = x.b) (hw : m'.w = m.w) : St11 m L x 0 m' L
 | swp {m' : M} (wh : x.wh = 3) (ha : x.a ∈ L) (hb : x.b ∈ L) (hab : x.a ≠ x.b) (T : m.To m' (m.swV x.a x.b) (m.swF x.a x.b)) : St11 m L x 0 m' (L.map (oth x.a x.b))
 | rem {m' : M} {L1 L2 : List Int} (wh : x.wh = 4) (e : L = L1 ++ x.a :: L2) (T : m.To m' (m.remV x.a (deep m.gV (m.gV x.a).depth L2)) (m.remF x.a)) : St11 m L x 0 m' (L1 ++ L2)
 | non {m' : M} (wh : x.wh ≠ 1 ∧ x.wh ≠ 2 ∧ x.wh ≠ 3 ∧ x.wh ≠ 4) (hw : m'.w = m.w) : St11 m L x 0 m' L
theorem sw_D {m' : M} {a b : Int} (T : m.To m' (m.swV a b) (m.swF a b)) (ha : a ≠ 0) (hb : b ≠ 0) (hab : a ≠ b) {x : Int} (hx : x ≠ 0) : m'.D (oth a b x) = m.D x:=by
 have r0 : oth a b x ≠ 0:=by
  by_cases h1 : x = a
  ·rw [h1,oth_of_a]; exact hb
  ·by_cases h2 : x = b
   ·rw [h2,oth_of_b hab]; exact ha
   ·rw [oth_of h1 h2]; exact hx
 unfold M.D
 rw [T.V _ r0]
 unfold M.swV
 by_cases h1 : x = a
 ·rw [h1,oth_of_a,if_neg (Ne.symm hab),if_pos rfl]; rfl
 ·by_cases h2 : x = b
  ·rw [h2,oth_of_b hab,if_pos rfl]; rfl
  ·rw [oth_of h1 h2,if_neg h1,if_neg h2]
theorem mov_D {m' : M} {f t : Int} (T : m.To m' (m.movV f t) (m.movF f t)) (hft : f ≠ t) (t0 : t ≠ 0) {x : Int} (hx : x ≠ 0) (hxt : x ≠ t) : m'.D (rho f t x) = m.D x:=by
 unfold M.D rho
 by_cases h1 : x = f
 ·rw [if_pos h1,T.V _ t0]
  unfold M.movV
  rw [jnV_depth,if_neg (Ne.symm hft),if_pos rfl,h1]
 ·rw [if_neg h1,T.V _ hx]
  unfold M.movV
  rw [jnV_depth,if_neg h1,if_neg hxt]
theorem ins_D {m' : M} {p a : Int} (T : m.To m' (m.insV p a) (m.insF p a)) {x : Int} (hx : x ≠ 0) : m'.D x = if x = a then (if p = 0 then 0 else m.D p + 1) else m.D x:=by
 unfold M.D
 rw [T.V _ hx]
 unfold M.insV
 rw [jnV_depth]
 by_cases h : x = a
 ·rw [if_pos h,if_pos h]; rfl
 ·rw [if_neg h,if_neg h]
theorem rem_D {m' : M} {a : Int} {Ds : List Int} (T : m.To m' (m.remV a Ds) (m.remF a)) {x : Int} (hx : x ≠ 0) (hxa : x ≠ a) : m'.D x = if x ∈ Ds then m.D x - 1 else m.D x:=by
 unfold M.D
 rw [T.V _ hx]
 unfold M.remV decV
 rw [if_neg hxa]
 simp only
 split <;> rfl
theorem deep_split (V : Int → Slot) (d : Int) (L : List Int) : ∃ E,L = deep V d L ++ E ∧ (E = [] ∨ ∃ z E',E = z :: E' ∧ (V z).depth ≤ d) ∧ ∀ y,y ∈ deep V d L → d < (V y).depth:=by
 induction L with
 | nil => exact ⟨[],rfl, .inl rfl,fun y hy => by cases hy⟩
 | cons z L ih =>
  by_cases h : d < (V z).depth
  ·obtain ⟨E,h1,h2,h3⟩:=ih
   have e : deep V d (z :: L) = z :: deep V d L:=by simp [deep,h]
   refine ⟨E, ?_,h2,fun y hy => ?_⟩
   ·rw [e,List.cons_append,← h1]
   ·rw [e] at hy
    rcases List.mem_cons.1 hy with rfl | hy
    ·exact h
    ·exact h3 y hy
  ·have e : deep V d (z :: L) = []:=by simp [deep,h]
   exact ⟨z :: L,by rw [e]; rfl, .inr ⟨z,L,rfl,by omega⟩,fun y hy => by rw [e] at hy; cases hy⟩
theorem W11.step (W : W11 m L) {x : Op} {e : Int} {m' : M} {L' : List Int} (S : St11 m L x e m' L') : W11 m' L':=by
 cases S with
 | no he hw => exact W.of_w hw
 | sw0 wh ha hab hw => exact W.of_w hw
 | non wh hw => exact W.of_w hw
 | ins wh hf hu hp T =>
  have hP:=W.P (fE_zero.1 hf).1
  have a0:=there_ne0 (fE_there hf)
  refine ⟨by rw [T.fr.len]; exact W.len,W.inv.ins_inv hP hf hu (hp.imp id And.left) T, ?_⟩
  have hD : ∀ y,y ∈ L → m'.D y = m.D y:=fun y hy => by
   have hya : ¬ y = x.a:=fun e => hu (by rw [← e]; exact hy)
   rw [ins_D T (W.n0 hy),if_neg hya]
  have hDa:=ins_D T a0
  rw [if_pos rfl] at hDa
  unfold insLL
  by_cases c : x.b = 0
  ·rw [if_pos c] at hDa ⊢
   exact ⟨by omega,dep_mono (by omega) (dep_congr hD W.dep)⟩
  ·rw [if_neg c] at hDa ⊢
   have hb:=(hp.resolve_left c).1
   obtain ⟨L1,L2,e⟩:=List.append_of_mem hb
   have hn:=W.inv.nd
   have hd:=dep_congr hD W.dep
   have hbD:=hD _ hb
   rw [e] at hn hd ⊢
   have hb1 : x.b ∉ L1:=fun h => (List.nodup_append.1 hn).2.2 _ h _ List.mem_cons_self rfl
   rw [insL_app hb1]
   obtain ⟨d1,d2⟩:=dep_app.1 hd
   obtain ⟨d3,d4⟩:=d2
   exact dep_app.2 ⟨d1,d3,by omega,dep_mono (by omega) d4⟩
 | mov wh ha ht hz T =>
  obtain ⟨htL,t0,_⟩:=W.inv.free ht hz
  have hft : x.a ≠ x.b:=fun e => htL (e ▸ ha)
  exact ⟨by rw [T.fr.len]; exact W.len,W.inv.mov_inv ha ht hz T,dep_map (fun y hy => mov_D T hft t0 (W.n0 hy) fun e => htL (e ▸ hy)) W.dep⟩
 | swp wh ha hb hab T =>
  exact ⟨by rw [T.fr.len]; exact W.len,W.inv.sw_inv ha hb hab T,dep_map (fun y hy => sw_D T (W.n0 ha) (W.n0 hb) hab (W.n0 hy)) W.dep⟩
 | rem wh e T =>
  rename_i L1 L2
  refine ⟨by rw [T.fr.len]; exact W.len,W.inv.rem_inv e T (fun y hy => (W.inv.rem_facts e y hy).1), ?_⟩
  have hn:=W.inv.nd
  have hd:=W.dep
  have hno : ∀ y,y ∈ L → y ≠ 0:=fun y hy => W.n0 hy
  rw [e] at hn hd hno
  obtain ⟨n1,n2,n3⟩:=List.nodup_append.1 hn
  obtain ⟨n4,n5⟩:=List.nodup_cons.1 n2
  obtain ⟨E,s1,s2,s3⟩:=deep_split m.gV (m.gV x.a).depth L2
  obtain ⟨Ds,hDs⟩ : ∃ Ds,deep m.gV (m.gV x.a).depth L2 = Ds:=⟨_,rfl⟩
  rw [hDs] at s1 s3 T
  obtain ⟨d1,d2⟩:=dep_app.1 hd
  obtain ⟨d3,d4⟩:=d2
  have hne : ∀ y,y ∈ L1 ++ L2 → y ≠ 0 ∧ y ≠ x.a:=fun y hy => by
   rcases List.mem_append.1 hy with h | h
   ·exact ⟨hno y (List.mem_append_left _ h),n3 y h _ List.mem_cons_self⟩
   ·exact ⟨hno y (List.mem_append_right _ (List.mem_cons_of_mem _ h)),fun e => n4 (e ▸ h)⟩
  have hD : ∀ y,y ∈ L1 ++ L2 → m'.D y = if y ∈ Ds then m.D y - 1 else m.D y:=fun y hy => rem_D T (hne y hy).1 (hne y hy).2
  have hD1 : ∀ y,y ∈ L1 → m'.D y = m.D y:=fun y hy => by
   rw [hD y (List.mem_append_left _ hy),if_neg]
   intro h
   exact n3 y hy y (List.mem_cons_of_mem _ (by rw [s1]; exact List.mem_append_left _ h)) rfl
  refine dep_app.2 ⟨dep_congr hD1 d1, ?_⟩
  rw [lastD_congr hD1]
  rw [s1] at d4 n5 hD ⊢
  refine dep_rem (da:=m.D x.a) d4 (Int.le_refl _) d3 (fun y hy => ⟨s3 y hy, ?_⟩) (fun y hy => ?_) s2
  ·rw [hD y (List.mem_append_right _ (List.mem_append_left _ hy)),if_pos hy]
  ·rw [hD y (List.mem_append_right _ (List.mem_append_right _ hy)),if_neg]
   intro h
   exact (List.nodup_append.1 n5).2.2 y h y hy rfl
theorem W11.det (W : W11 m L) {m1 m2 : M} {V : Int → Slot} {F : Int} (h1 : m.To m1 V F) (h2 : r.To m2 V F) (hw : r.w = m.w) : m2.w = m1.w :=
 (h1.det h2 hw (fun _ _ => rfl) rfl W.inv.len.2 W.inv.two).symm
theorem step_ins (W : W11 m L) (hw : r.w = m.w) {x : Op} (wh : x.wh = 1) (hb : x.b = 0 ∨ okS m L x.b) : (∃ L',St11 m L x (m.ins x.b x.a).1 (m.ins x.b x.a).2 L') ∧ (r.rins x.b x.a).1 = (m.ins x.b x.a).1 ∧ (r.rins x.b x.a).2.w = (m.ins x.b x.a).2.w:=by
 have hrf : ∀ y,r.fE y = m.fE y:=fun y => fE_w hw y
 have hrl : ∀ s : Slot,r.liB x.a s = m.liB x.a s:=fun s => liB_w hw _ s
 have hrv : ∀ y,r.gV y = m.gV y:=fun y => gV_w hw y
 by_cases hf : m.fE x.a = 0
 ·have hP:=W.P (fE_zero.1 hf).1
  by_cases hu : x.a ∈ L
  ·have hli:=W.inv.listed hu
   have e1 : m.ins x.b x.a = (120,(m.gX x.a).liX (m.gV x.a)):=by unfold M.ins; rw [if_pos hf,gX_liB,if_pos hli]
   have e2 : r.rins x.b x.a = (120,(r.gX x.a).fstX):=by unfold M.rins; rw [hrf,if_pos hf,gX_liB,hrl,hrv,if_pos hli]
   rw [e1,e2]
   exact ⟨⟨L, .no (show (120 : Int) ≠ 0 by decide) (by rw [liX_w,gX_w])⟩,rfl,by rw [fstX_w,gX_w,liX_w,gX_w]; exact hw⟩
  ·have hli:=W.inv.unlisted hP hu
   by_cases hp : x.b = 0 ∨ (x.b ∈ L ∧ (m.gV x.b).depth ≠ 65535)
   ·obtain ⟨k1,k2⟩:=W.inv.ins_to hP hf hu hp
    obtain ⟨j1,j2⟩:=(W.inv.of_w hw).rins_to (p:=x.b) (a:=x.a) hP (by rw [hrf]; exact hf) hu (by rw [hrv]; exact hp)
    have eV : r.insV x.b x.a = m.insV x.b x.a:=by unfold M.insV M.insS M.nx; rw [gV_fun hw,fst_w hw]
    have eF : r.insF x.b x.a = m.insF x.b x.a:=by unfold M.insF; rw [fst_w hw]
    rw [eV,eF] at j2
    rw [k1,j1]
    exact ⟨⟨_, .ins wh hf hu hp k2⟩,rfl,W.det k2 j2 hw⟩
   ·simp only [not_or,not_and,Decidable.not_not] at hp
    obtain ⟨hp0,hp1⟩:=hp
    have hb:=hb.resolve_left hp0
    by_cases hfb : m.fE x.b = 0
    ·have hbL:=hb.full hfb
     have hd:=hp1 hbL
     have e1 : m.ins x.b x.a = (120,(((m.gX x.a).liX (m.gV x.a)).fstX).gX x.b):=by
      unfold M.ins
      rw [if_pos hf,gX_liB,if_neg (by rw [hli]; decide),if_neg hp0,fstX_fE,liX_fE,gX_fE,if_pos hfb,fstX_gV,liX_gV,gX_gV,if_pos (.inr hd)]
     have e2 : r.rins x.b x.a = (120,(r.gX x.a).fstX.gX x.b):=by
      unfold M.rins
      rw [hrf,if_pos hf,gX_liB,hrl,hrv,if_neg (by rw [hli]; decide),if_neg hp0,fstX_fE,gX_fE,hrf,if_pos hfb,fstX_gV,gX_gV,hrv,if_pos (.inr hd)]
     rw [e1,e2]
     exact ⟨⟨L, .no (show (120 : Int) ≠ 0 by decide) (by rw [gX_w,fstX_w,liX_w,gX_w])⟩,rfl,by rw [gX_w,fstX_w,gX_w,gX_w,fstX_w,liX_w,gX_w]; exact hw⟩
    ·have e1 : m.ins x.b x.a = (m.fE x.b,(((m.gX x.a).liX (m.gV x.a)).fstX).gX x.b):=by
      unfold M.ins
      rw [if_pos hf,gX_liB,if_neg (by rw [hli]; decide),if_neg hp0,fstX_fE,liX_fE,gX_fE,if_neg hfb]
     have e2 : r.rins x.b x.a = (m.fE x.b,(r.gX x.a).fstX.gX x.b):=by
      unfold M.rins
      rw [hrf,if_pos hf,gX_liB,hrl,hrv,if_neg (by rw [hli]; decide),if_neg hp0,fstX_fE,gX_fE,hrf,if_neg hfb]
     rw [e1,e2]
     exact ⟨⟨L, .no hfb (by rw [gX_w,fstX_w,liX_w,gX_w])⟩,rfl,by rw [gX_w,fstX_w,gX_w,gX_w,fstX_w,liX_w,gX_w]; exact hw⟩
 ·have e1 : m.ins x.b x.a = (m.fE x.a,m.gX x.a):=by unfold M.ins; rw [if_neg hf]
  have e2 : r.rins x.b x.a = (m.fE x.a,r.gX x.a):=by unfold M.rins; rw [hrf,if_neg hf]
  rw [e1,e2]
  exact ⟨⟨L, .no hf (gX_w _ _)⟩,rfl,by rw [gX_w,gX_w]; exact hw⟩
theorem step_mov (W : W11 m L) (hw : r.w = m.w) {x : Op} (wh : x.wh = 2) (ha : okS m L x.a) (hb : okS m L x.b) : (∃ L',St11 m L x (m.mov x.a x.b).1 (m.mov x.a x.b).2 L') ∧ (r.rmov x.a x.b).1 = (m.mov x.a x.b).1 ∧ (r.rmov x.a x.b).2.w = (m.mov x.a x.b).2.w:=by
 have hrf : ∀ y,r.fE y = m.fE y:=fun y => fE_w hw y
 have hre : ∀ y,r.gE y = m.gE y:=fun y => gE_w hw y
 have hrv : ∀ y,r.gV y = m.gV y:=fun y => gV_w hw y
 by_cases hf : m.fE x.a = 0
 ·have haL:=ha.full hf
  by_cases ht : m.gE x.b = 0
  ·by_cases hz : m.gV x.b = slotZ
   ·obtain ⟨k1,k2⟩:=W.inv.mov_to haL ht hz
    obtain ⟨j1,j2⟩:=(W.inv.of_w hw).rmov_to haL (t:=x.b) (by rw [hre]; exact ht) (by rw [hrv]; exact hz)
    have eV : r.movV x.a x.b = m.movV x.a x.b:=by unfold M.movV; rw [gV_fun hw]
    have eF : r.movF x.a x.b = m.movF x.a x.b:=by unfold M.movF; rw [fst_w hw,hrv]
    rw [eV,eF] at j2
    rw [k1,j1]
    exact ⟨⟨_, .mov wh haL ht hz k2⟩,rfl,W.det k2 j2 hw⟩
   ·have hne : m.eB x.b = false:=by
     cases h : m.eB x.b
     ·rfl
     ·exact absurd (eB_free h).2 hz
    have hty : ¬ (m.gV x.b).cap.ty = 0:=fun e => hz (M.gV_null e)
    have e1 : m.mov x.a x.b = (120,(m.gX x.a).gX x.b):=by unfold M.mov; rw [if_pos hf,gX_gE,if_pos ht,gX_eB,if_neg (by rw [hne]; decide)]
    have e2 : r.rmov x.a x.b = (120,(r.gX x.a).gX x.b):=by unfold M.rmov; rw [hrf,if_pos hf,gX_gE,hre,if_pos ht,gX_gV,hrv,if_neg hty]
    rw [e1,e2]
    exact ⟨⟨L, .no (show (120 : Int) ≠ 0 by decide) (by rw [gX_w,gX_w])⟩,rfl,by rw [gX_w,gX_w,gX_w,gX_w]; exact hw⟩
  ·have e1 : m.mov x.a x.b = (m.gE x.b,(m.gX x.a).gX x.b):=by unfold M.mov; rw [if_pos hf,gX_gE,if_neg ht]
   have e2 : r.rmov x.a x.b = (m.gE x.b,(r.gX x.a).gX x.b):=by unfold M.rmov; rw [hrf,if_pos hf,gX_gE,hre,if_neg ht]
   rw [e1,e2]
   exact ⟨⟨L, .no ht (by rw [gX_w,gX_w])⟩,rfl,by rw [gX_w,gX_w,gX_w,gX_w]; exact hw⟩
 ·have e1 : m.mov x.a x.b = (m.fE x.a,m.gX x.a):=by unfold M.mov; rw [if_neg hf]
  have e2 : r.rmov x.a x.b = (m.fE x.a,r.gX x.a):=by unfold M.rmov; rw [hrf,if_neg hf]
  rw [e1,e2]
  exact ⟨⟨L, .no hf (gX_w _ _)⟩,rfl,by rw [gX_w,gX_w]; exact hw⟩
theorem step_swp (W : W11 m L) (hw : r.w = m.w) {x : Op} (wh : x.wh = 3) (ha : okS m L x.a) (hb : okS m L x.b) : (∃ L',St11 m L x (m.swp x.a x.b).1 (m.swp x.a x.b).2 L') ∧ (r.rswp x.a x.b).1 = (m.swp x.a x.b).1 ∧ (r.rswp x.a x.b).2.w = (m.swp x.a x.b).2.w:=by
 have hrf : ∀ y,r.fE y = m.fE y:=fun y => fE_w hw y
 by_cases hf : m.fE x.a = 0
 ·have haL:=ha.full hf
  by_cases hg : m.fE x.b = 0
  ·have hbL:=hb.full hg
   by_cases hab : x.a = x.b
   ·have e1 : m.swp x.a x.b = (0,(m.gX x.a).gX x.b):=by unfold M.swp; rw [if_pos hf,gX_fE,if_pos hg,if_pos hab]
    have e2 : r.rswp x.a x.b = (0,(r.gX x.a).gX x.b):=by unfold M.rswp; rw [hrf,if_pos hf,gX_fE,hrf,if_pos hg,if_pos hab]
    rw [e1,e2]
    exact ⟨⟨L, .sw0 wh haL hab (by rw [gX_w,gX_w])⟩,rfl,by rw [gX_w,gX_w,gX_w,gX_w]; exact hw⟩
   ·obtain ⟨k1,k2⟩:=W.inv.sw_to haL hbL hab
    obtain ⟨j1,j2⟩:=(W.inv.of_w hw).rsw_to haL hbL hab
    have eV : r.swV x.a x.b = m.swV x.a x.b:=by funext y; unfold M.swV; rw [gV_fun hw]
    have eF : r.swF x.a x.b = m.swF x.a x.b:=by unfold M.swF; rw [fst_w hw]
    rw [eV,eF] at j2
    rw [k1,j1]
    exact ⟨⟨_, .swp wh haL hbL hab k2⟩,rfl,W.det k2 j2 hw⟩
  ·have e1 : m.swp x.a x.b = (m.fE x.b,(m.gX x.a).gX x.b):=by unfold M.swp; rw [if_pos hf,gX_fE,if_neg hg]
   have e2 : r.rswp x.a x.b = (m.fE x.b,(r.gX x.a).gX x.b):=by unfold M.rswp; rw [hrf,if_pos hf,gX_fE,hrf,if_neg hg]
   rw [e1,e2]
   exact ⟨⟨L, .no hg (by rw [gX_w,gX_w])⟩,rfl,by rw [gX_w,gX_w,gX_w,gX_w]; exact hw⟩
 ·have e1 : m.swp x.a x.b = (m.fE x.a,m.gX x.a):=by unfold M.swp; rw [if_neg hf]
  have e2 : r.rswp x.a x.b = (m.fE x.a,r.gX x.a):=by unfold M.rswp; rw [hrf,if_neg hf]
  rw [e1,e2]
  exact ⟨⟨L, .no hf (gX_w _ _)⟩,rfl,by rw [gX_w,gX_w]; exact hw⟩
theorem step_rem (W : W11 m L) (hw : r.w = m.w) {x : Op} (wh : x.wh = 4) (ha : okS m L x.a) : (∃ L',St11 m L x (m.rem x.a).1 (m.rem x.a).2 L') ∧ (r.rrem x.a).1 = (m.rem x.a).1 ∧ (r.rrem x.a).2.w = (m.rem x.a).2.w:=by
 have hrf : ∀ y,r.fE y = m.fE y:=fun y => fE_w hw y
 by_cases hf : m.fE x.a = 0
 ·have haL:=ha.full hf
  obtain ⟨L1,L2,e⟩:=List.append_of_mem haL
  obtain ⟨⟨k1,k2⟩,_⟩:=W.inv.rem_to e
  obtain ⟨_,j1,j2⟩:=(W.inv.of_w hw).rem_to e
  have eV : ∀ Ds,r.remV x.a Ds = m.remV x.a Ds:=fun Ds => by unfold M.remV; rw [gV_fun hw]
  have eF : r.remF x.a = m.remF x.a:=by unfold M.remF; rw [fst_w hw,gV_fun hw]
  rw [eV,eF,gV_fun hw] at j2
  rw [k1,j1]
  exact ⟨⟨_, .rem wh e k2⟩,rfl,W.det k2 j2 hw⟩
 ·have e1 : m.rem x.a = (m.fE x.a,m.gX x.a):=by unfold M.rem; rw [if_neg hf]
  have e2 : r.rrem x.a = (m.fE x.a,r.gX x.a):=by unfold M.rrem; rw [hrf,if_neg hf]
  rw [e1,e2]
  exact ⟨⟨L, .no hf (gX_w _ _)⟩,rfl,by rw [gX_w,gX_w]; exact hw⟩
theorem W11.prom (W : W11 m L) (hw : r.w = m.w) {x : Op} : (promX r x).w = r.w ∧ (promV r x = true → (x.wh = 1 ∨ okS m L x.a) ∧ ((x.wh = 1 ∧ x.b = 0) ∨ okS m L x.b)):=by
 obtain ⟨m2,q1,q2⟩:=(W.inv.of_w hw).rlis (m':=r.fstX) (fstX_w r)
 have hO : r.rli = (some L,m2):=q1
 unfold promX promV
 rw [hO]
 refine ⟨by simp only [gX_w]; exact q2,fun h => ?_⟩
 simp only [Bool.and_eq_true,Bool.or_eq_true,beq_iff_eq,Bool.not_eq_true',beq_eq_false_iff_ne,ne_eq,decide_eq_true_eq,gE_w hw,eB_w hw] at h
 obtain ⟨h1,h2⟩:=h
 unfold okS
 refine ⟨?_, ?_⟩
 ·rcases h1 with h | h | h | h
  ·exact .inl h
  ·exact .inr (.inl h)
  ·exact .inr (.inr (.inl h))
  ·exact .inr (.inr (.inr h))
 ·rcases h2 with h | h | h | h
  ·exact .inr (.inl h)
  ·exact .inr (.inr (.inl h))
  ·exact .inr (.inr (.inr h))
  ·exact .inl h
theorem hnd_right {k : Int} (h0 : 0 ≤ k) (h1 : k ≤ 15) : rightB ⟨12,0,0,0,0,0,0,0,0,0,k⟩ = true:=by
 simp only [rightB,Int.reduceEq,if_false,if_true,and_self]
 exact inV_iff.2 ⟨h0,h1⟩
theorem hnd_R (n : Int) : slotRB (hndS n) = true ∧ (hndS n).cap.ty = 12:=by
 obtain ⟨t1,t2⟩:=tmod16 n
 refine ⟨?_,rfl⟩
 have h : rightB (hndV n) = true:=by
  unfold hndV
  refine hnd_right ?_ ?_
  ·split <;> omega
  ·split <;> omega
 simp only [slotRB,hndS,h,link_0]
 rfl
theorem W11.lays (W : W11 m L) (hw : r.w = m.w) (a n : Int) : laysV m r a n = true ∧ (laysX m r a n).2.w = (laysX m r a n).1.w ∧ W11 (laysX m r a n).1 L ∧ ((laysX m r a n).1.w = m.w ∨ (m.gE a = 0 ∧ m.gV a = slotZ ∧ m.To (laysX m r a n).1 (fun x => if x = a then hndS n else m.gV x) m.fst)):=by
 unfold laysV laysX
 rw [gE_w hw,eB_w hw]
 by_cases h : m.gE a = 0 ∧ m.eB a = true
 ·rw [if_pos h,if_pos h]
  obtain ⟨h1,h2⟩:=eB_free h.2
  have ht:=(gE_there h1).1
  have hr:=(hnd_R n).1
  have T:=(M.To.refl m).pX h1 hr
  have U:=((M.To.refl r).gX a).pX (a:=a) (by rw [gE_w hw]; exact h1) hr
  rw [gV_fun hw,fst_w hw] at U
  have hin : a ∉ L:=(W.inv.free h1 h2).1
  refine ⟨?_,W.det T U hw,⟨by rw [T.fr.len]; exact W.len, ?_, ?_⟩, .inr ⟨h1,h2,T⟩⟩
  ·have e1 : m.pE a (hndS n) = 0:=by unfold M.pE; rw [if_pos ht,if_pos hr]
   have e2 : (r.gX a).pE a (hndS n) = 0:=by unfold M.pE; rw [gX_there,there_w hw,if_pos ht,if_pos hr]
   rw [e1,e2]; rfl
  ·refine W.inv.to T W.inv.nd (fun x hx => ?_) ?_ W.inv.fst (fun x hP hx => ?_)
   ·have : x ≠ a:=fun e => hin (e ▸ hx)
    simp only [if_neg this]
    exact W.inv.gE hx
   ·refine chain_congr (fun x hx => ?_) W.inv.ch
    have : x ≠ a:=fun e => hin (e ▸ hx)
    simp only [if_neg this,and_self]
   ·split
    ·exact ⟨rfl,rfl,rfl⟩
    ·exact (W.inv.out x hP).2 hx
  ·refine dep_congr (fun x hx => ?_) W.dep
   have : x ≠ a:=fun e => hin (e ▸ hx)
   unfold M.D
   rw [T.V x (W.n0 hx),if_neg this]
 ·rw [if_neg h,if_neg h]
  exact ⟨rfl,by rw [gX_w]; exact hw,W, .inl rfl⟩
end

def tw (D : Int → Int) (d : Int) (L : List Int) : List Int:=L.takeWhile fun y => decide (d < D y)
def under (D : Int → Int) : List Int → Int → List Int
 | [],_ => []
 | z :: L,x => if z = x then tw D (D x) L else under D L x
theorem tw_cons (D : Int → Int) (d z : Int) (L : List Int) : tw D d (z :: L) = if d < D z then z :: tw D d L else []:=by
 by_cases h : d < D z <;> simp [tw,h]
theorem mem_tw {D : Int → Int} {d z y : Int} {L : List Int} : y ∈ tw D d (z :: L) ↔ d < D z ∧ (y = z ∨ y ∈ tw D d L):=by
 rw [tw_cons]
 split
 ·rename_i h; simp [h]
 ·rename_i h; simp [h]
theorem tw_sub {D : Int → Int} {d y : Int} {L : List Int} (h : y ∈ tw D d L) : y ∈ L:=(List.takeWhile_sublist _).subset h
theorem tw_congr {D D' : Int → Int} {d : Int} : ∀ {L : List Int},(∀ y,y ∈ L → D' y = D y) → tw D' d L = tw D d L
 | [],_ => rfl
 | z :: L,h => by
  rw [tw_cons,tw_cons,h z List.mem_cons_self,tw_congr fun y hy => h y (List.mem_cons_of_mem _ hy)]
theorem under_sub {D : Int → Int} {x y : Int} : ∀ {L : List Int},y ∈ under D L x → y ∈ L ∧ x ∈ L
 | [],h => by cases h
 | z :: L,h => by
  unfold under at h
  split at h
  ·rename_i e; exact ⟨List.mem_cons_of_mem _ (tw_sub h),by rw [e]; exact List.mem_cons_self⟩
  ·obtain ⟨h1,h2⟩:=under_sub h; exact ⟨List.mem_cons_of_mem _ h1,List.mem_cons_of_mem _ h2⟩
theorem under_congr {D D' : Int → Int} {x : Int} : ∀ {L : List Int},(∀ y,y ∈ L → D' y = D y) → under D' L x = under D L x
 | [],_ => rfl
 | z :: L,h => by
  unfold under
  have h2 : ∀ y,y ∈ L → D' y = D y:=fun y hy => h y (List.mem_cons_of_mem _ hy)
  by_cases e : z = x
  ·rw [if_pos e,if_pos e,← e,h z List.mem_cons_self,tw_congr h2]
  ·rw [if_neg e,if_neg e,under_congr h2]
theorem under_split {D : Int → Int} {x : Int} {B : List Int} : ∀ {A : List Int},x ∉ A → under D (A ++ x :: B) x = tw D (D x) B
 | [],_ => by simp [under]
 | z :: A,h => by
  have hz : z ≠ x:=fun e => h (by rw [e]; exact List.mem_cons_self)
  rw [List.cons_append,under,if_neg hz,under_split fun h2 => h (List.mem_cons_of_mem _ h2)]
theorem under_none {D : Int → Int} {x : Int} : ∀ {L : List Int},x ∉ L → under D L x = []
 | [],_ => rfl
 | z :: L,h => by
  have hz : z ≠ x:=fun e => h (by rw [e]; exact List.mem_cons_self)
  rw [under,if_neg hz,under_none fun h2 => h (List.mem_cons_of_mem _ h2)]

/-! ### other names -/
theorem tw_map {D D' : Int → Int} {ρ : Int → Int} {d : Int} : ∀ {L : List Int},(∀ y,y ∈ L → D' (ρ y) = D y) → tw D' d (L.map ρ) = (tw D d L).map ρ
 | [],_ => rfl
 | z :: L,h => by
  rw [List.map_cons,tw_cons,tw_cons,h z List.mem_cons_self,tw_map fun y hy => h y (List.mem_cons_of_mem _ hy)]
  split <;> rfl
theorem under_map {D D' : Int → Int} {ρ : Int → Int} {x : Int} : ∀ {L : List Int},(∀ y,y ∈ L → D' (ρ y) = D y) → D' (ρ x) = D x → (∀ y,y ∈ L → ρ y = ρ x → y = x) → under D' (L.map ρ) (ρ x) = (under D L x).map ρ
 | [],_,_,_ => rfl
 | z :: L,h,hx,hi => by
  have h2 : ∀ y,y ∈ L → D' (ρ y) = D y:=fun y hy => h y (List.mem_cons_of_mem _ hy)
  rw [List.map_cons]
  unfold under
  by_cases e : z = x
  ·rw [if_pos e,if_pos (by rw [e]),hx,tw_map h2]
  ·rw [if_neg e,if_neg (fun e2 => e (hi z List.mem_cons_self e2)),under_map h2 hx fun y hy => hi y (List.mem_cons_of_mem _ hy)]

/-! ### one more -/
theorem mem_insL {p a y : Int} : ∀ {L : List Int},y ∈ insL p a L → y = a ∨ y ∈ L
 | [],h => by cases h
 | z :: L,h => by
  unfold insL at h
  split at h
  ·rename_i e
   rcases List.mem_cons.1 h with h | h
   ·exact .inr (by rw [h]; exact List.mem_cons_self)
   ·rcases List.mem_cons.1 h with h | h
    ·exact .inl h
    ·exact .inr (List.mem_cons_of_mem _ h)
  ·rcases List.mem_cons.1 h with h | h
   ·exact .inr (by rw [h]; exact List.mem_cons_self)
   ·exact (mem_insL h).imp id (List.mem_cons_of_mem _)
theorem tw_ins {D D' : Int → Int} {p a d y : Int} (hDa : D' a = D p + 1) : ∀ {L : List Int},L.Nodup → a ∉ L → (∀ z,z ∈ L → D' z = D z) → (y ∈ tw D' d (insL p a L) ↔ (y ≠ a ∧ y ∈ tw D d L) ∨ (y = a ∧ p ∈ tw D d L))
 | [],_,_,_ => by simp [insL,tw]
 | z :: L,hn,ha,hD => by
  obtain ⟨n1,n2⟩:=List.nodup_cons.1 hn
  have hza : a ≠ z:=fun e => ha (by rw [e]; exact List.mem_cons_self)
  have haL : a ∉ L:=fun h => ha (List.mem_cons_of_mem _ h)
  have hz:=hD z List.mem_cons_self
  have hD2 : ∀ w,w ∈ L → D' w = D w:=fun w hw => hD w (List.mem_cons_of_mem _ hw)
  unfold insL
  by_cases e : z = p
  ·subst e
   have hna : ¬ a ∈ tw D d L:=fun h => haL (tw_sub h)
   have hnp : ¬ z ∈ tw D d L:=fun h => n1 (tw_sub h)
   rw [if_pos rfl,mem_tw,mem_tw,mem_tw,mem_tw,hz,hDa,tw_congr hD2]
   by_cases c : d < D z
   ·have c2 : d < D z + 1:=by omega
    by_cases cy : y = a
    ·subst cy; simp [c,c2,hna,hza]
    ·simp [c,c2,cy]
   ·simp [c]
  ·have hpz : p ≠ z:=fun h => e h.symm
   rw [if_neg e,mem_tw,mem_tw,mem_tw,hz,tw_ins hDa n2 haL hD2]
   by_cases c : d < D z
   ·by_cases cy : y = a
    ·subst cy; simp [c,hza,hpz]
    ·simp [c,cy]
   ·simp [c]
theorem under_ins {D D' : Int → Int} {p a x y : Int} (hDa : D' a = D p + 1) (hxa : x ≠ a) : ∀ {L : List Int},L.Nodup → a ∉ L → (∀ z,z ∈ L → D' z = D z) → (y ∈ under D' (insL p a L) x ↔ (y ≠ a ∧ y ∈ under D L x) ∨ (y = a ∧ ((x = p ∧ p ∈ L) ∨ p ∈ under D L x)))
 | [],_,_,_ => by simp [insL,under]
 | z :: L,hn,ha,hD => by
  obtain ⟨n1,n2⟩:=List.nodup_cons.1 hn
  have hza : a ≠ z:=fun e => ha (by rw [e]; exact List.mem_cons_self)
  have haL : a ∉ L:=fun h => ha (List.mem_cons_of_mem _ h)
  have hz:=hD z List.mem_cons_self
  have hD2 : ∀ w,w ∈ L → D' w = D w:=fun w hw => hD w (List.mem_cons_of_mem _ hw)
  unfold insL
  by_cases e : z = p
  ·subst e
   rw [if_pos rfl]
   by_cases ex : z = x
   ·subst ex
    have hna : ¬ a ∈ tw D (D z) L:=fun h => haL (tw_sub h)
    simp only [under,if_true]
    rw [mem_tw,hz,hDa,tw_congr hD2]
    have c2 : D z < D z + 1:=by omega
    by_cases cy : y = a
    ·subst cy; simp [c2]
    ·simp [c2,cy]
   ·have hxz : x ≠ z:=fun h => ex h.symm
    have hnp : ¬ z ∈ under D L x:=fun h => n1 (under_sub h).1
    have hna : ¬ a ∈ under D L x:=fun h => haL (under_sub h).1
    simp only [under,if_neg ex,if_neg (Ne.symm hxa),under_congr hD2,hxz,false_and,false_or,hnp,and_false,or_false]
    by_cases cy : y = a
    ·subst cy; simp [hna]
    ·simp [cy]
  ·have hpz : p ≠ z:=fun h => e h.symm
   rw [if_neg e]
   by_cases ex : z = x
   ·subst ex
    have hzp : z ≠ p:=e
    simp only [under,if_true,hz,tw_ins hDa n2 haL hD2,hzp,false_and,false_or]
   ·simp only [under,if_neg ex,under_ins hDa hxa n2 haL hD2,List.mem_cons,hpz,false_or]
theorem under_new {D D' : Int → Int} {p a : Int} (hDa : D' a = D p + 1) : ∀ {L : List Int} {d : Int},a ∉ L → (∀ z,z ∈ L → D' z = D z) → dep D d L → under D' (insL p a L) a = []
 | [],_,_,_,_ => rfl
 | z :: L,d,ha,hD,⟨h1,h2⟩ => by
  have hza : ¬ z = a:=fun e => ha (by rw [e]; exact List.mem_cons_self)
  have haL : a ∉ L:=fun h => ha (List.mem_cons_of_mem _ h)
  have hD2 : ∀ w,w ∈ L → D' w = D w:=fun w hw => hD w (List.mem_cons_of_mem _ hw)
  unfold insL
  by_cases e : z = p
  ·subst e
   rw [if_pos rfl]
   simp only [under,if_neg hza,if_true]
   cases L with
   | nil => rfl
   | cons w L =>
    rw [tw_cons,hDa,hD2 w List.mem_cons_self,if_neg]
    have:=h2.1
    omega
  ·rw [if_neg e]
   simp only [under,if_neg hza]
   exact under_new hDa haL hD2 h2
theorem under_top {D : Int → Int} {a : Int} {L : List Int} (h0 : D a = 0) (h : dep D (-1) L) : under D (a :: L) a = []:=by
 simp only [under,if_true]
 cases L with
 | nil => rfl
 | cons w L =>
  rw [tw_cons,if_neg]
  have:=h.1
  omega

/-! ### one less -/
def headLe (D : Int → Int) (d : Int) (E : List Int) : Prop:=E = [] ∨ ∃ z E',E = z :: E' ∧ D z ≤ d
theorem tw_head {D : Int → Int} {d : Int} {E : List Int} (h : headLe D d E) : tw D d E = []:=by
 rcases h with rfl | ⟨z,E',rfl,h⟩
 ·rfl
 ·rw [tw_cons,if_neg (by omega)]
theorem headLe_mono {D D' : Int → Int} {d e : Int} {E : List Int} (h : headLe D d E) (hD : ∀ z,z ∈ E → D' z = D z) (hde : d ≤ e) : headLe D' e E:=by
 rcases h with rfl | ⟨z,E',rfl,h⟩
 ·exact .inl rfl
 ·exact .inr ⟨z,E',rfl,by rw [hD z List.mem_cons_self]; omega⟩
theorem tw_low1 {D D' : Int → Int} {da d : Int} {E : List Int} (hd : da < d) (hE : ∀ w,w ∈ E → D' w = D w) (hh : headLe D da E) : ∀ {Ds : List Int},(∀ w,w ∈ Ds → D' w = D w - 1) → tw D' (d - 1) (Ds ++ E) = tw D d (Ds ++ E)
 | [],_ => by
  rw [List.nil_append,tw_head (headLe_mono hh hE (by omega)),tw_head (headLe_mono hh (fun _ _ => rfl) (by omega))]
 | w :: Ds,h => by
  rw [List.cons_append,tw_cons,tw_cons,h w List.mem_cons_self,tw_low1 hd hE hh fun z hz => h z (List.mem_cons_of_mem _ hz)]
  by_cases c : d < D w
  ·rw [if_pos c,if_pos (by omega)]
  ·rw [if_neg c,if_neg (by omega)]
theorem tw_low2 {D D' : Int → Int} {da d : Int} {E : List Int} (hd : d < da) (hE : ∀ w,w ∈ E → D' w = D w) : ∀ {Ds : List Int},(∀ w,w ∈ Ds → da < D w ∧ D' w = D w - 1) → tw D' d (Ds ++ E) = tw D d (Ds ++ E)
 | [],_ => tw_congr hE
 | w :: Ds,h => by
  obtain ⟨h1,h2⟩:=h w List.mem_cons_self
  rw [List.cons_append,tw_cons,tw_cons,h2,tw_low2 hd hE fun z hz => h z (List.mem_cons_of_mem _ hz),if_pos (by omega),if_pos (by omega)]
theorem tw_low3 {D D' : Int → Int} {da d : Int} {E : List Int} (hd : da ≤ d) (hE : ∀ w,w ∈ E → D' w = D w) (hh : headLe D da E) {Ds : List Int} (h : ∀ w,w ∈ Ds → D' w = D w - 1) (hdep : dep D da (Ds ++ E)) : tw D' d (Ds ++ E) = []:=by
 cases Ds with
 | nil => exact tw_head (headLe_mono hh hE (by omega))
 | cons w Ds =>
  have h1:=hdep.1
  rw [List.cons_append,tw_cons,h w List.mem_cons_self,if_neg (by omega)]
section
variable {D D' : Int → Int} {a : Int} {Ds E : List Int}
theorem under_low (hE : ∀ w,w ∈ E → D' w = D w) (hh : headLe D (D a) E) {x : Int} : ∀ {Fs : List Int},(∀ w,w ∈ Fs → D a < D w ∧ D' w = D w - 1) → under D' (Fs ++ E) x = under D (Fs ++ E) x
 | [],_ => under_congr hE
 | w :: Fs,h => by
  obtain ⟨h1,h2⟩:=h w List.mem_cons_self
  have h3 : ∀ z,z ∈ Fs → D a < D z ∧ D' z = D z - 1:=fun z hz => h z (List.mem_cons_of_mem _ hz)
  rw [List.cons_append]
  unfold under
  by_cases e : w = x
  ·subst e
   rw [if_pos rfl,if_pos rfl,h2]
   exact tw_low1 h1 hE hh fun z hz => (h3 z hz).2
  ·rw [if_neg e,if_neg e,under_low hE hh h3]
theorem tw_rem (hE : ∀ w,w ∈ E → D' w = D w) (hh : headLe D (D a) E) (hDs : ∀ w,w ∈ Ds → D a < D w ∧ D' w = D w - 1) (hdep : dep D (D a) (Ds ++ E)) {y d : Int} (hy : y ≠ a) : ∀ {A : List Int},(∀ w,w ∈ A → D' w = D w) → (y ∈ tw D' d (A ++ (Ds ++ E)) ↔ y ∈ tw D d (A ++ a :: (Ds ++ E)))
 | [],_ => by
  rw [List.nil_append,List.nil_append,mem_tw]
  by_cases c : d < D a
  ·rw [tw_low2 c hE hDs]; simp [c,hy]
  ·rw [tw_low3 (by omega) hE hh (fun w hw => (hDs w hw).2) hdep]; simp [c]
 | w :: A,h => by
  rw [List.cons_append,List.cons_append,mem_tw,mem_tw,h w List.mem_cons_self,tw_rem hE hh hDs hdep hy fun z hz => h z (List.mem_cons_of_mem _ hz)]
theorem under_rem (hE : ∀ w,w ∈ E → D' w = D w) (hh : headLe D (D a) E) (hDs : ∀ w,w ∈ Ds → D a < D w ∧ D' w = D w - 1) (hdep : dep D (D a) (Ds ++ E)) {x y : Int} (hx : x ≠ a) (hy : y ≠ a) : ∀ {A : List Int},(∀ w,w ∈ A → D' w = D w) → (y ∈ under D' (A ++ (Ds ++ E)) x ↔ y ∈ under D (A ++ a :: (Ds ++ E)) x)
 | [],_ => by
  rw [List.nil_append,List.nil_append,under_low hE hh hDs]
  simp only [under,if_neg (Ne.symm hx)]
 | w :: A,h => by
  have h3 : ∀ z,z ∈ A → D' z = D z:=fun z hz => h z (List.mem_cons_of_mem _ hz)
  rw [List.cons_append,List.cons_append]
  unfold under
  by_cases e : w = x
  ·subst e
   rw [if_pos rfl,if_pos rfl,h w List.mem_cons_self]
   exact tw_rem hE hh hDs hdep hy h3
  ·rw [if_neg e,if_neg e]
   exact under_rem hE hh hDs hdep hx hy h3
end

/-! ### a slot's ancestors -/

section
variable {m r : M} {L : List Int}
theorem dsW_zero {d : Int} : ∀ (k : Nat) (m : M) (l : List Int),dsW d k 0 m l = (some l,m)
 | 0,m,l => by simp [dsW]
 | k + 1,m,l => by simp [dsW]
theorem rdW_zero {d : Int} {N : Nat} (k : Nat) (m : M) (l : List Int) : rdW d N (k + 1) 0 m l = (some l,m):=by simp [rdW]
theorem W11.ds (W : W11 m L) (x : Int) : m.dsL x = under m.D L x ∧ (m.dsO x).2.w = m.w ∧ m.rdsL x = under m.D L x ∧ (m.rdsO x).2.w = m.w ∧ m.dsE x = m.fE x ∧ m.rdsE x = m.fE x:=by
 by_cases hf : m.fE x = 0
 ·by_cases hx : x ∈ L
  ·obtain ⟨L1,L2,e⟩:=List.append_of_mem hx
   have hn:=W.inv.nd
   rw [e] at hn
   have hx1 : x ∉ L1:=fun h => (List.nodup_append.1 hn).2.2 x h x List.mem_cons_self rfl
   have hu : under m.D L x = tw m.D (m.D x) L2:=by rw [e]; exact under_split hx1
   obtain ⟨m2,q1,q2⟩:=W.inv.dsc e (gX_w m x)
   obtain ⟨r2,p1,p2⟩:=W.inv.rdsc e (gX_w m x)
   have h1 : m.dsO x = (some (tw m.D (m.D x) L2),m2):=by unfold M.dsO; rw [if_pos hf,q1]; rfl
   have h2 : m.rdsO x = (some (tw m.D (m.D x) L2),r2):=by unfold M.rdsO; rw [if_pos hf,p1]; rfl
   unfold M.dsL M.rdsL M.dsE M.rdsE
   rw [h1,h2,hu,if_pos hf,hf]
   exact ⟨rfl,q2,rfl,p2,rfl,rfl⟩
  ·have hn : (m.gV x).next = 0:=((W.inv.out x (W.P (fE_zero.1 hf).1)).2 hx).2.1
   have h1 : m.dsO x = (some [],m.gX x):=by unfold M.dsO; rw [if_pos hf,hn,dsW_zero]
   have h2 : m.rdsO x = (some [],m.gX x):=by unfold M.rdsO; rw [if_pos hf,hn,rdW_zero]
   unfold M.dsL M.rdsL M.dsE M.rdsE
   rw [h1,h2,under_none hx,if_pos hf,hf]
   exact ⟨rfl,gX_w m x,rfl,gX_w m x,rfl,rfl⟩
 ·have hx : x ∉ L:=fun h => hf (W.inv.full x h)
  have h1 : m.dsO x = (none,m.gX x):=by unfold M.dsO; rw [if_neg hf]
  have h2 : m.rdsO x = (none,m.gX x):=by unfold M.rdsO; rw [if_neg hf]
  unfold M.dsL M.rdsL M.dsE M.rdsE
  rw [h1,h2,under_none hx,if_neg hf]
  exact ⟨rfl,gX_w m x,rfl,gX_w m x,rfl,rfl⟩
theorem W11.li (W : W11 m L) : m.lis.1 = some L ∧ m.lis.2.w = m.w ∧ m.rlis.1 = some L ∧ m.rlis.2.w = m.w:=by
 obtain ⟨m2,q1,q2⟩:=W.inv.lis (fstX_w m)
 obtain ⟨r2,p1,p2⟩:=W.inv.rlis (fstX_w m)
 unfold M.lis M.rlis
 rw [q1,p1]
 exact ⟨rfl,q2,rfl,p2⟩
theorem nxX_w (m : M) (a : Int) : (m.nxX a).w = m.w:=by
 unfold M.nxX
 split
 ·split
  ·exact gX_w _ _
  ·rw [gX_w,gX_w]
 ·exact gX_w _ _
end
end Go.Proofs.Ytcdfofeolgbnbaa

/- Law 11: played: a script over both memories. -/
namespace Go.Proofs.Ytcdfofeolgbnbaa
open Go.D
open Nat (reduceAdd reducePow reduceMul reduceSub reduceLeDiff reduceLT reduceEqDiff)
open Int (reduceNeg reduceLE reduceEq reduceNe reduceToNat)
open Go.D renaming istep → zx,pickR → zw,bin1R → zv,un1R → zu,eqS → zq,eq1 → zp,cmpS → zj,cmp1 → zk,isNil → zg,shows → zZ,result → zY,q_cond_t → zU,q_cond_f → zQ
open List renaming set → zX,replicate → zW
open Option renaming map → zV
open Nat renaming reduceAdd → yz,reducePow → yy,reduceMul → yx,reduceSub → yw,reduceLeDiff → yv,reduceLT → yu,reduceEqDiff → yq
open Int renaming reduceNeg → yp,reduceLE → yj,reduceEq → yk,reduceNe → yg,reduceToNat → yZ,reducePow → yY,reduceLT → yX,reduceAdd → yW,reduceSub → yV,reduceMul → yU,reduceBEq → yQ,reduceBNe → xz
set_option linter.all false
set_option maxRecDepth 100000
set_option maxHeartbeats 1000000

def Op.u (x : Op) : Prop:=i64b x.n
def opZ : Op:=⟨0,0,0,0⟩
def M.act11 (m : M) (x : Op) : Int × M:=if x.wh = 1 then m.ins x.b x.a else if x.wh = 2 then m.mov x.a x.b else if x.wh = 3 then m.swp x.a x.b else if x.wh = 4 then m.rem x.a else (0,m)
def layW (m r : M) (x : Op) : M × M:=if x.wh = 1 then laysX m r x.a x.n else (m,r)
noncomputable def plyX (m r : M) (x : Op) : M × M :=
 if promV (layW m r x).2 x = true then (((layW m r x).1.act11 x).2,ofW ((layW m r x).1.act11 x).2.w) else ((layW m r x).1,promX (layW m r x).2 x)
theorem ofW_m (m : M) : (ofW m.w).w = m.w:=(ofW_w m.u m.l).1
section
variable {m r : M} {L : List Int}
theorem W11.layW (W : W11 m L) (hw : r.w = m.w) (x : Op) : (layW m r x).2.w = (layW m r x).1.w ∧ W11 (layW m r x).1 L:=by
 unfold _root_.Go.Proofs.Ytcdfofeolgbnbaa.layW
 split
 ·obtain ⟨_,h2,h3,_⟩:=W.lays hw x.a x.n
  exact ⟨h2,h3⟩
 ·exact ⟨hw,W⟩
theorem W11.act (W : W11 m L) {x : Op} (h1 : x.wh = 1 ∨ okS m L x.a) (h2 : (x.wh = 1 ∧ x.b = 0) ∨ okS m L x.b) : ∃ L',St11 m L x (m.act11 x).1 (m.act11 x).2 L':=by
 unfold M.act11
 by_cases c1 : x.wh = 1
 ·rw [if_pos c1]
  exact (step_ins W rfl c1 (h2.imp And.right id)).1
 ·rw [if_neg c1]
  have h1:=h1.resolve_left c1
  have h2:=h2.resolve_left fun h => c1 h.1
  by_cases c2 : x.wh = 2
  ·rw [if_pos c2]; exact (step_mov W rfl c2 h1 h2).1
  ·rw [if_neg c2]
   by_cases c3 : x.wh = 3
   ·rw [if_pos c3]; exact (step_swp W rfl c3 h1 h2).1
   ·rw [if_neg c3]
    by_cases c4 : x.wh = 4
    ·rw [if_pos c4]; exact (step_rem W rfl c4 h1).1
    ·rw [if_neg c4]; exact ⟨L, .non ⟨c1,c2,c3,c4⟩ rfl⟩
theorem W11.ply (W : W11 m L) (hw : r.w = m.w) (x : Op) : (plyX m r x).2.w = (plyX m r x).1.w ∧ ∃ L',W11 (plyX m r x).1 L':=by
 obtain ⟨hw1,W1⟩:=W.layW hw x
 unfold plyX
 obtain ⟨p1,p2⟩:=W1.prom hw1 (x:=x)
 split
 ·rename_i h
  obtain ⟨h1,h2⟩:=p2 h
  obtain ⟨L',S⟩:=W1.act h1 h2
  exact ⟨ofW_m _,L',W1.step S⟩
 ·exact ⟨p1.trans hw1,L,W1⟩
end
noncomputable def plyL (m r : M) : List Op → M × M
 | [] => (m,r)
 | x :: l => plyL (plyX m r x).1 (plyX m r x).2 l
theorem plyL_w : ∀ (l : List Op) {m r : M} {L : List Int},W11 m L → r.w = m.w → (plyL m r l).2.w = (plyL m r l).1.w ∧ ∃ L',W11 (plyL m r l).1 L'
 | [],m,r,L,W,hw => ⟨hw,L,W⟩
 | x :: l,m,r,L,W,hw => by
  obtain ⟨h1,L1,W1⟩:=W.ply hw x
  exact plyL_w l W1 h1
theorem plyL_drop {m r : M} {l : List Op} {i : Nat} (h : i < l.length) : plyL m r (l.drop i) = plyL (plyX m r (nth opZ l i)).1 (plyX m r (nth opZ l i)).2 (l.drop (i + 1)):=by
 rw [← List.getElem_cons_drop h,nth_eq h]; rfl
theorem z11_len : z11.w.length = 2048:=by unfold z11; rw [M.zero_len]; decide
theorem z11_at (j : Int) : z11.at j = 0:=M.at_zero 11 j
theorem z11_slot {x : Int} (h : P11 x) : z11.gE x = 0 ∧ z11.gV x = slotZ:=by
 have ht : thereB z11 x = true:=there_iff.2 ⟨h.1,h.2.1,by rw [z11_len]; exact h.2.2⟩
 have hb : z11.slotB x = true:=by simp only [M.slotB,z11_at]; decide
 refine ⟨gE_zero ht hb, ?_⟩
 unfold M.gV
 rw [if_pos ⟨ht,hb⟩]
 simp only [M.slotC,z11_at]; rfl
theorem W11.zero : W11 z11 []:=by
 have hf : z11.fst = 0:=by
  have hh : z11.has 2 1 = true:=M.has_iff.2 (by rw [z11_len]; omega)
  have hw0 : IntKind.i64.wrap 0 = 0:=rfl
  simp only [M.fst,z11_at,hh,if_true,keptV,keptB,hw0]
  split <;> rfl
 refine ⟨z11_len,⟨⟨by rw [z11_len]; omega,by rw [z11_len]⟩, ?_,List.nodup_nil,fun x h => (by cases h),trivial,hf,fun x hP => ?_⟩,trivial⟩
 ·rw [hf]; exact z11_at 2
 ·obtain ⟨h1,h2⟩:=z11_slot hP
  exact ⟨h1,fun _ => by rw [h2]; exact ⟨rfl,rfl,rfl⟩⟩

noncomputable def playedG : List V → List Blk → Res
 | [.s s],h => match arrOf Op.cl h s with
  | some L => .ob (L.length ≤ 9223372036854775807 ∧ ∀ x,x ∈ L → x.u) (.ok (.s (.p (.g (h.length + 4)) 0)) [] (bH h (plyL z11 z11 L).1 (plyL z11 z11 L).2 []))
  | none => .bad
 | _,_ => .bad
theorem val_pickG {n : Nat} {is : List Nat} {s : S} (h : s.val n 0 = true) : s.ren (R.pickG n is) = s:=by
 have hr : ∀ r : R,r.val n 0 = true → R.pickG n is r = r:=fun r hr => by
  cases r with
  | g k => simp only [R.val,decide_eq_true_eq] at hr; simp only [R.pickG,if_pos hr]
  | l k => rfl
 cases s with
 | p r o => simp only [S.ren]; rw [hr r h]
 | sl r o a c => simp only [S.ren]; rw [hr r h]
 | fn f cs =>
  simp only [S.ren,S.fn.injEq,true_and]
  simp only [S.val,List.all_eq_true] at h
  refine (List.map_congr_left fun x hx => ?_).trans (List.map_id _)
  rw [hr x.1 (h x hx)]; rfl
 | _ => rfl
theorem pickG_0 {n i : Nat} {is : List Nat} : R.pickG n (i :: is) (.g n) = .g (n + i):=by
 simp only [R.pickG,Nat.lt_irrefl,if_false,Nat.sub_self,List.getD_cons_zero]
theorem pickG_n {n k : Nat} {is : List Nat} : R.pickG n is (.g (n + k)) = .g (n + is.getD k 0):=by
 have h : ¬ n + k < n:=by omega
 simp only [R.pickG,if_neg h,Nat.add_sub_cancel_left]
theorem bH_set1 (h : List Blk) (m r : M) (X : List Blk) (k : Nat) : (bH h m r X).set (h.length + 4) ⟨.rw,[.p (.g h.length) 0, .p (.g k) 0],2⟩ = h ++ (MB (h.length + 1) m :: MW m :: MB (h.length + 3) r :: MW r :: ⟨.rw,[.p (.g h.length) 0, .p (.g k) 0],2⟩ :: X):=bH_setc h m r X _
theorem bH_of (h : List Blk) (m r R : M) (B : Blk) : memH (bH h m r [B]) R = bH h m r [B,MB (h.length + 7) R,MW R]:=by
 simp [memH,bH]
theorem ply_end {h : List Blk} (hc : clean h.length h = true) {t t' : List V} {ls : List Blk} (m r R2 : M) (c : Nat) (ht : leT (t'.map (V.ren (R.pickG h.length [0,1,6,7,4]))) t) (hv : t'.all (V.val (h.length + 5) 0) = true) :
  Wk h.length ⟨t,ls,h ++ (MB (h.length + 1) m :: MW m :: MB (h.length + 3) r :: MW r :: ⟨.rw,[.p (.g h.length) 0, .p (.g (h.length + 6)) 0],2⟩ :: [⟨.rw,wc m.w,c⟩,MB (h.length + 7) R2,MW R2])⟩ ⟨t',[],bH h m R2 []⟩:=by
 have hcl:=bH_clean hc m R2 (X:=[]) rfl
 unfold bH at hcl ⊢
 refine Wk.selG [0,1,6,7,4] (by decide) (Nat.le_refl _) hc ?_ ht ?_ hcl
 ·simp only [List.map_cons,List.map_nil,List.getElem?_cons_zero,List.getElem?_cons_succ,Blk.ren,MB,MW,bothB,S.ren,wc_ren,pickG_0,pickG_n,List.getD_cons_zero,List.getD_cons_succ,Nat.add_zero]
 ·simpa only [List.length_append,List.length_cons,List.length_nil,Nat.zero_add,reduceAdd] using hv
noncomputable def TPd : Tab:=addT 31 madeG (addT 23 laysG (addT 24 promG (addT 17 insG (addT 18 movG (addT 19 swpG (addT 20 remG (addT 26 dumpG (addT 48 ofG (noT)))))))))
theorem TPd_snd : TPd.Snd Try.prog:=addT_snd ok31 made_snd (addT_snd ok23 lays_snd (addT_snd ok24 prom_snd (addT_snd ok17 ins_snd (addT_snd ok18 mov_snd (addT_snd ok19 swp_snd (addT_snd ok20 rem_snd (addT_snd ok26 mdump_snd (addT_snd ok48 of_snd ((noT_snd _))))))))))
theorem played_snd : Snd Try.prog 21 (FSpec.of playedG):=(fwp_sound (Tab.snd_Γ TPd_snd) mixed Try.func21 dc21).weaken fun args h K hc hS => by
 refine fwp_runW (Tab.ok_Γ _) 300 ?_
 have hS : (playedG args h).spec K:=hS
 unfold playedG at hS
 split at hS
 ·rename_i s
  split at hS
  ·rename_i L eL
   have Hs:=arrOf_some eL
   obtain ⟨⟨l1,hu⟩,hS⟩:=hS
   simp only [spec_ok] at hS
   have hlen:=fun ls h' => Hs.sl.len (ls:=ls) (h:=h')
   have hkn:=Hs.sl.known
   have hnl:=Hs.sl.noL
   obtain ⟨F,hF⟩ : ∃ F,plyL z11 z11 L = F:=⟨_,rfl⟩
   rw [hF] at hS
   simp (maxSteps:=9999999) only [EV0,zx,zw,zv,zu,zq,zp,zj,zk,zg,leT,zZ,rvC,zY,zX,zW,zV,↓zU,↓zQ,reduceCtorEq,yz,yy,yY,yx,yw,yv,yu,yq,yp,yX,yj,yk,yg,yW,yV,yU,yZ,yQ,xz,df21,TPd,madeG,↓hlen,↓hkn,↓hnl]
   refine loop_rule (α:=Nat × M × M) [2,4,5,6,7,8,10,11,12,13,14,15,16,17,18,19,20,21,22,23,24,25,26,27,28,29,30,31,32,33,34,35,36,37,38,39,40,41,42,43,44,45,46,47,48,49,50,51,52,53,54,55,56,57,58,59,60,61,62,63,64,65,66,67,68,69,70,71,72,73,74,75,76,77,78,79,80,81,82,83,84,85,86,87,88,89,90,91,92,93,94,95,96] (fun z => [(4, .s (.i .i64 (z.1 : Int)))]) (fun _ => []) (fun z => bH h z.2.1 z.2.2 []) (fun z => z.1 ≤ L.length ∧ z.2.2.w = z.2.1.w ∧ (∃ Q,W11 z.2.1 Q) ∧ plyL z.2.1 z.2.2 (L.drop z.1) = F) (fun z => L.length - z.1) (0,z11,z11) ⟨Nat.zero_le _,rfl,⟨_,W11.zero⟩,hF⟩ ?_ ?_
   ·refine Wk.same rfl rfl ?_
    simp (maxSteps:=9999999) only [EV0,zx,zw,zv,zu,zq,zp,zj,zk,zg,leT,zZ,rvC,zY,zX,zW,zV,↓zU,↓zQ,reduceCtorEq,yz,yy,yY,yx,yw,yv,yu,yq,yp,yX,yj,yk,yg,yW,yV,yU,yZ,yQ,xz,Int.natCast_zero]
   ·rintro X ⟨i,m,r⟩ ⟨hi,hw,⟨Q,W⟩,hP⟩ IH
    simp only at hi hw W hP ⊢
    have hcc : ∀ m r X,(bH h m r X)[h.length + 4]? = _:=fun m r X => bH_c h m r X
    rcases Nat.lt_or_ge i L.length with h1 | h1
    ·obtain ⟨d1,d2,d3,d4⟩:=idx h1 l1
     rw [plyL_drop h1] at hP
     obtain ⟨j,cc,st,room,hse,hj,hd⟩:=Hs.at h1
     obtain ⟨x,hx⟩ : ∃ x,nth opZ L i = x:=⟨_,rfl⟩
     have hxu : x.u:=by rw [← hx]; exact hu _ (nth_mem h1)
     rw [hx] at hP
     have hs : sub (arr Op.cl L) (i * 4) 4 = x.cl:=by rw [← hx,nth_eq h1]; exact arr_sub Op.cl_len h1
     have hle : i * 4 + 4 ≤ (arr Op.cl L).length:=by rw [arr_length Op.cl_len]; omega
     simp only [Op.cl] at hs
     obtain ⟨g1,g2⟩:=W.ply hw x
     obtain ⟨hw1,W1⟩:=W.layW hw x
     have hob : ∀ m r X,(bH h m r X)[j]? = _:=fun m r X => bH_old hj m r X
     subst hse
     obtain ⟨xw,xa,xb,xn⟩:=x
     simp only at hs hw1 W1
     have hpe : plyX m r ⟨xw,xa,xb,xn⟩ = if promV (layW m r ⟨xw,xa,xb,xn⟩).2 ⟨xw,xa,xb,xn⟩ = true then (((layW m r ⟨xw,xa,xb,xn⟩).1.act11 ⟨xw,xa,xb,xn⟩).2,ofW ((layW m r ⟨xw,xa,xb,xn⟩).1.act11 ⟨xw,xa,xb,xn⟩).2.w) else ((layW m r ⟨xw,xa,xb,xn⟩).1,promX (layW m r ⟨xw,xa,xb,xn⟩).2 ⟨xw,xa,xb,xn⟩):=rfl
     rw [hpe] at hP g1 g2
     clear hpe
     have hi2 : i + 1 ≤ L.length:=by omega
     have hmu : L.length - (i + 1) < L.length - i:=by omega
     have hsv : (S.sl (.g j) 0 L.length cc).val h.length 0 = true:=by
      have:=(List.getElem?_eq_some_iff.1 hj).1
      simp only [S.val,R.val,decide_eq_true_eq]; exact this
     have hjl : j < h.length:=(List.getElem?_eq_some_iff.1 hj).1
     have hjl : j < h.length:=(List.getElem?_eq_some_iff.1 hj).1
     by_cases c1 : xw = 1
     ·subst c1
      have hl1 : layW m r ⟨1,xa,xb,xn⟩ = laysX m r xa xn:=rfl
      rw [hl1] at hP g1 g2 hw1 W1
      obtain ⟨⟨m1,r1⟩,e1⟩ : ∃ z,laysX m r xa xn = z:=⟨_,rfl⟩
      rw [e1] at hP g1 g2 hw1 W1
      have hlv:=(W.lays hw xa xn).1
      have hnb:=hxu
      unfold Op.u i64b at hnb
      simp only at hP g1 g2 hw1 W1 hnb
      cases hp : promV r1 ⟨1,xa,xb,xn⟩
      ·simp only [hp,Bool.false_eq_true,if_false] at hP g1 g2
       refine run_sound (Tab.ok_Γ _) 300 _ _ _ _ ?_
       simp (maxSteps:=9999999) only [EV0,zx,zw,zv,zu,zq,zp,zj,zk,zg,leT,zZ,rvC,zY,zX,zW,zV,↓zU,↓zQ,reduceCtorEq,yz,yy,yY,yx,yw,yv,yu,yq,yp,yX,yj,yk,yg,yW,yV,yU,yZ,yQ,xz,TPd,laysG,laysM,promG,promM,opF,bH_fb,bH_fm,↓hlen,↓hkn,↓hnl,d1,d2,d3,d4,hob,hd,hs,hle,hcc,Int.toNat_natCast,put,fillP,hlv,hnb,e1,hp]
       refine IH (i + 1,m1,promX r1 ⟨1,xa,xb,xn⟩) _ hmu ⟨hi2,g1,g2,hP⟩ ?_
       refine Wk.keep 0 rfl rfl ?_ ?_ rfl
       ·simp (maxSteps:=9999999) only [EV0,zx,zw,zv,zu,zq,zp,zj,zk,zg,leT,zZ,rvC,zY,zX,zW,zV,↓zU,↓zQ,reduceCtorEq,yz,yy,yY,yx,yw,yv,yu,yq,yp,yX,yj,yk,yg,yW,yV,yU,yZ,yQ,xz]
       ·simp (maxSteps:=9999999) only [EV0,zx,zw,zv,zu,zq,zp,zj,zk,zg,leT,zZ,rvC,zY,zX,zW,zV,↓zU,↓zQ,reduceCtorEq,yz,yy,yY,yx,yw,yv,yu,yq,yp,yX,yj,yk,yg,yW,yV,yU,yZ,yQ,xz,S_below]
      ·simp only [hp,if_true] at hP g1 g2
       have ha : m1.act11 ⟨1,xa,xb,xn⟩ = m1.ins xb xa:=rfl
       rw [ha] at hP g1 g2
       obtain ⟨⟨e2,m2⟩,he2⟩ : ∃ z,m1.ins xb xa = z:=⟨_,rfl⟩
       rw [he2] at hP g1 g2
       simp only at hP g1 g2
       have hml : m2.w.length = 2048:=by obtain ⟨_,W2⟩:=g2; exact W2.len
       have hhas : m2.has 0 2048 = true:=M.has_of (by omega)
       have htk : m2.w.take 2048 = m2.w:=by rw [← hml]; exact List.take_length
       have hLo : ∀ c : Nat,listOf (bH h m2 (promX r1 ⟨1,xa,xb,xn⟩) [⟨BK.rw,wc m2.w,c⟩]) (.sl (.g (h.length + 5)) 0 2048 c) = some m2.w:=fun c => listOf_at (st:=.rw) (room:=c) (bH_x _ _ _ _ _) (fun x => BK.noConfusion x) hml
       have hu1 : (∀ y,y ∈ m2.w → u64 y) = True:=eq_true m2.u
       have hu2 : m2.w.length ≤ 65536:=m2.l
       have h56 : h.length + 5 + 1 = h.length + 6:=rfl
       have h58 : h.length + 6 < h.length + 5 + 3:=by omega
       refine run_sound (Tab.ok_Γ _) 300 _ _ _ _ ?_
       simp (maxSteps:=9999999) only [EV0,zx,zw,zv,zu,zq,zp,zj,zk,zg,leT,zZ,rvC,zY,zX,zW,zV,↓zU,↓zQ,reduceCtorEq,yz,yy,yY,yx,yw,yv,yu,yq,yp,yX,yj,yk,yg,yW,yV,yU,yZ,yQ,xz,TPd,laysG,laysM,promG,promM,opF,insG,insM,he2,bH_fb,bH_fm,↓hlen,↓hkn,↓hnl,d1,d2,d3,d4,hob,hd,hs,hle,hcc,Int.toNat_natCast,put,fillP,hlv,hnb,e1,hp,dumpG,dumpM,hhas,htk,ofG,hLo,bH_len,bH_app,bH_of,bH_set1,hu1,hu2,h56,h58,reduceToNat,List.drop_zero,List.length_nil,Nat.add_zero,List.nil_append]
       intro c _
       refine IH (i + 1,m2,ofW m2.w) _ hmu ⟨hi2,g1,g2,hP⟩ ?_
       refine ply_end hc m2 (promX r1 ⟨1,xa,xb,xn⟩) (ofW m2.w) c ?_ ?_
       ·simp (maxSteps:=9999999) only [EV0,zx,zw,zv,zu,zq,zp,zj,zk,zg,leT,zZ,rvC,zY,zX,zW,zV,↓zU,↓zQ,reduceCtorEq,yz,yy,yY,yx,yw,yv,yu,yq,yp,yX,yj,yk,yg,yW,yV,yU,yZ,yQ,xz,V.ren,C.ren,val_pickG hsv,S_ren,pickG_n,pickG_0,List.getD_cons_zero,List.getD_cons_succ]
       ·simp (maxSteps:=9999999) only [EV0,zx,zw,zv,zu,zq,zp,zj,zk,zg,leT,zZ,rvC,zY,zX,zW,zV,↓zU,↓zQ,reduceCtorEq,yz,yy,yY,yx,yw,yv,yu,yq,yp,yX,yj,yk,yg,yW,yV,yU,yZ,yQ,xz,S_val,hjl,Nat.add_lt_add_left,Nat.lt_add_right]
     ·have hl1 : layW m r ⟨xw,xa,xb,xn⟩ = (m,r):=if_neg c1
      rw [hl1] at hP g1 g2 hw1 W1
      have k1 : (xw == 1) = false:=by simpa using c1
      simp only at hP g1 g2 hw1 W1
      cases hp : promV r ⟨xw,xa,xb,xn⟩
      ·simp only [hp,Bool.false_eq_true,if_false] at hP g1 g2
       refine run_sound (Tab.ok_Γ _) 300 _ _ _ _ ?_
       simp (maxSteps:=9999999) only [EV0,zx,zw,zv,zu,zq,zp,zj,zk,zg,leT,zZ,rvC,zY,zX,zW,zV,↓zU,↓zQ,reduceCtorEq,yz,yy,yY,yx,yw,yv,yu,yq,yp,yX,yj,yk,yg,yW,yV,yU,yZ,yQ,xz,TPd,laysG,laysM,promG,promM,opF,bH_fb,bH_fm,↓hlen,↓hkn,↓hnl,d1,d2,d3,d4,hob,hd,hs,hle,hcc,Int.toNat_natCast,put,fillP,hp,c1,k1]
       refine IH (i + 1,m,promX r ⟨xw,xa,xb,xn⟩) _ hmu ⟨hi2,g1,g2,hP⟩ ?_
       refine Wk.keep 0 rfl rfl ?_ ?_ rfl
       ·simp (maxSteps:=9999999) only [EV0,zx,zw,zv,zu,zq,zp,zj,zk,zg,leT,zZ,rvC,zY,zX,zW,zV,↓zU,↓zQ,reduceCtorEq,yz,yy,yY,yx,yw,yv,yu,yq,yp,yX,yj,yk,yg,yW,yV,yU,yZ,yQ,xz]
       ·simp (maxSteps:=9999999) only [EV0,zx,zw,zv,zu,zq,zp,zj,zk,zg,leT,zZ,rvC,zY,zX,zW,zV,↓zU,↓zQ,reduceCtorEq,yz,yy,yY,yx,yw,yv,yu,yq,yp,yX,yj,yk,yg,yW,yV,yU,yZ,yQ,xz,S_below]
      ·simp only [hp,if_true] at hP g1 g2
       by_cases c2 : xw = 2
       ·subst c2
        have ha : m.act11 ⟨2,xa,xb,xn⟩ = m.mov xa xb:=rfl
        rw [ha] at hP g1 g2
        obtain ⟨⟨e2,m2⟩,he2⟩ : ∃ z,m.mov xa xb = z:=⟨_,rfl⟩
        rw [he2] at hP g1 g2
        simp only at hP g1 g2
        have hml : m2.w.length = 2048:=by obtain ⟨_,W2⟩:=g2; exact W2.len
        have hhas : m2.has 0 2048 = true:=M.has_of (by omega)
        have htk : m2.w.take 2048 = m2.w:=by rw [← hml]; exact List.take_length
        have hLo : ∀ c : Nat,listOf (bH h m2 (promX r ⟨2,xa,xb,xn⟩) [⟨BK.rw,wc m2.w,c⟩]) (.sl (.g (h.length + 5)) 0 2048 c) = some m2.w:=fun c => listOf_at (st:=.rw) (room:=c) (bH_x _ _ _ _ _) (fun x => BK.noConfusion x) hml
        have hu1 : (∀ y,y ∈ m2.w → u64 y) = True:=eq_true m2.u
        have hu2 : m2.w.length ≤ 65536:=m2.l
        have h56 : h.length + 5 + 1 = h.length + 6:=rfl
        have h58 : h.length + 6 < h.length + 5 + 3:=by omega
        refine run_sound (Tab.ok_Γ _) 300 _ _ _ _ ?_
        simp (maxSteps:=9999999) only [EV0,zx,zw,zv,zu,zq,zp,zj,zk,zg,leT,zZ,rvC,zY,zX,zW,zV,↓zU,↓zQ,reduceCtorEq,yz,yy,yY,yx,yw,yv,yu,yq,yp,yX,yj,yk,yg,yW,yV,yU,yZ,yQ,xz,TPd,promG,promM,opF,movG,movM,he2,bH_fb,bH_fm,↓hlen,↓hkn,↓hnl,d1,d2,d3,d4,hob,hd,hs,hle,hcc,Int.toNat_natCast,put,fillP,hp,dumpG,dumpM,hhas,htk,ofG,hLo,bH_len,bH_app,bH_of,bH_set1,hu1,hu2,h56,h58,reduceToNat,List.drop_zero,List.length_nil,Nat.add_zero,List.nil_append]
        intro c _
        refine IH (i + 1,m2,ofW m2.w) _ hmu ⟨hi2,g1,g2,hP⟩ ?_
        refine ply_end hc m2 (promX r ⟨2,xa,xb,xn⟩) (ofW m2.w) c ?_ ?_
        ·simp (maxSteps:=9999999) only [EV0,zx,zw,zv,zu,zq,zp,zj,zk,zg,leT,zZ,rvC,zY,zX,zW,zV,↓zU,↓zQ,reduceCtorEq,yz,yy,yY,yx,yw,yv,yu,yq,yp,yX,yj,yk,yg,yW,yV,yU,yZ,yQ,xz,V.ren,C.ren,val_pickG hsv,S_ren,pickG_n,pickG_0,List.getD_cons_zero,List.getD_cons_succ]
        ·simp (maxSteps:=9999999) only [EV0,zx,zw,zv,zu,zq,zp,zj,zk,zg,leT,zZ,rvC,zY,zX,zW,zV,↓zU,↓zQ,reduceCtorEq,yz,yy,yY,yx,yw,yv,yu,yq,yp,yX,yj,yk,yg,yW,yV,yU,yZ,yQ,xz,S_val,hjl,Nat.add_lt_add_left,Nat.lt_add_right]
       have k2 : (xw == 2) = false:=by simpa using c2
       by_cases c3 : xw = 3
       ·subst c3
        have ha : m.act11 ⟨3,xa,xb,xn⟩ = m.swp xa xb:=rfl
        rw [ha] at hP g1 g2
        obtain ⟨⟨e2,m2⟩,he2⟩ : ∃ z,m.swp xa xb = z:=⟨_,rfl⟩
        rw [he2] at hP g1 g2
        simp only at hP g1 g2
        have hml : m2.w.length = 2048:=by obtain ⟨_,W2⟩:=g2; exact W2.len
        have hhas : m2.has 0 2048 = true:=M.has_of (by omega)
        have htk : m2.w.take 2048 = m2.w:=by rw [← hml]; exact List.take_length
        have hLo : ∀ c : Nat,listOf (bH h m2 (promX r ⟨3,xa,xb,xn⟩) [⟨BK.rw,wc m2.w,c⟩]) (.sl (.g (h.length + 5)) 0 2048 c) = some m2.w:=fun c => listOf_at (st:=.rw) (room:=c) (bH_x _ _ _ _ _) (fun x => BK.noConfusion x) hml
        have hu1 : (∀ y,y ∈ m2.w → u64 y) = True:=eq_true m2.u
        have hu2 : m2.w.length ≤ 65536:=m2.l
        have h56 : h.length + 5 + 1 = h.length + 6:=rfl
        have h58 : h.length + 6 < h.length + 5 + 3:=by omega
        refine run_sound (Tab.ok_Γ _) 300 _ _ _ _ ?_
        simp (maxSteps:=9999999) only [EV0,zx,zw,zv,zu,zq,zp,zj,zk,zg,leT,zZ,rvC,zY,zX,zW,zV,↓zU,↓zQ,reduceCtorEq,yz,yy,yY,yx,yw,yv,yu,yq,yp,yX,yj,yk,yg,yW,yV,yU,yZ,yQ,xz,TPd,promG,promM,opF,swpG,swpM,he2,bH_fb,bH_fm,↓hlen,↓hkn,↓hnl,d1,d2,d3,d4,hob,hd,hs,hle,hcc,Int.toNat_natCast,put,fillP,hp,dumpG,dumpM,hhas,htk,ofG,hLo,bH_len,bH_app,bH_of,bH_set1,hu1,hu2,h56,h58,reduceToNat,List.drop_zero,List.length_nil,Nat.add_zero,List.nil_append]
        intro c _
        refine IH (i + 1,m2,ofW m2.w) _ hmu ⟨hi2,g1,g2,hP⟩ ?_
        refine ply_end hc m2 (promX r ⟨3,xa,xb,xn⟩) (ofW m2.w) c ?_ ?_
        ·simp (maxSteps:=9999999) only [EV0,zx,zw,zv,zu,zq,zp,zj,zk,zg,leT,zZ,rvC,zY,zX,zW,zV,↓zU,↓zQ,reduceCtorEq,yz,yy,yY,yx,yw,yv,yu,yq,yp,yX,yj,yk,yg,yW,yV,yU,yZ,yQ,xz,V.ren,C.ren,val_pickG hsv,S_ren,pickG_n,pickG_0,List.getD_cons_zero,List.getD_cons_succ]
        ·simp (maxSteps:=9999999) only [EV0,zx,zw,zv,zu,zq,zp,zj,zk,zg,leT,zZ,rvC,zY,zX,zW,zV,↓zU,↓zQ,reduceCtorEq,yz,yy,yY,yx,yw,yv,yu,yq,yp,yX,yj,yk,yg,yW,yV,yU,yZ,yQ,xz,S_val,hjl,Nat.add_lt_add_left,Nat.lt_add_right]
       have k3 : (xw == 3) = false:=by simpa using c3
       by_cases c4 : xw = 4
       ·subst c4
        have ha : m.act11 ⟨4,xa,xb,xn⟩ = m.rem xa:=rfl
        rw [ha] at hP g1 g2
        obtain ⟨⟨e2,m2⟩,he2⟩ : ∃ z,m.rem xa = z:=⟨_,rfl⟩
        rw [he2] at hP g1 g2
        simp only at hP g1 g2
        have hml : m2.w.length = 2048:=by obtain ⟨_,W2⟩:=g2; exact W2.len
        have hhas : m2.has 0 2048 = true:=M.has_of (by omega)
        have htk : m2.w.take 2048 = m2.w:=by rw [← hml]; exact List.take_length
        have hLo : ∀ c : Nat,listOf (bH h m2 (promX r ⟨4,xa,xb,xn⟩) [⟨BK.rw,wc m2.w,c⟩]) (.sl (.g (h.length + 5)) 0 2048 c) = some m2.w:=fun c => listOf_at (st:=.rw) (room:=c) (bH_x _ _ _ _ _) (fun x => BK.noConfusion x) hml
        have hu1 : (∀ y,y ∈ m2.w → u64 y) = True:=eq_true m2.u
        have hu2 : m2.w.length ≤ 65536:=m2.l
        have h56 : h.length + 5 + 1 = h.length + 6:=rfl
        have h58 : h.length + 6 < h.length + 5 + 3:=by omega
        refine run_sound (Tab.ok_Γ _) 300 _ _ _ _ ?_
        simp (maxSteps:=9999999) only [EV0,zx,zw,zv,zu,zq,zp,zj,zk,zg,leT,zZ,rvC,zY,zX,zW,zV,↓zU,↓zQ,reduceCtorEq,yz,yy,yY,yx,yw,yv,yu,yq,yp,yX,yj,yk,yg,yW,yV,yU,yZ,yQ,xz,TPd,promG,promM,opF,remG,remM,he2,bH_fb,bH_fm,↓hlen,↓hkn,↓hnl,d1,d2,d3,d4,hob,hd,hs,hle,hcc,Int.toNat_natCast,put,fillP,hp,dumpG,dumpM,hhas,htk,ofG,hLo,bH_len,bH_app,bH_of,bH_set1,hu1,hu2,h56,h58,reduceToNat,List.drop_zero,List.length_nil,Nat.add_zero,List.nil_append]
        intro c _
        refine IH (i + 1,m2,ofW m2.w) _ hmu ⟨hi2,g1,g2,hP⟩ ?_
        refine ply_end hc m2 (promX r ⟨4,xa,xb,xn⟩) (ofW m2.w) c ?_ ?_
        ·simp (maxSteps:=9999999) only [EV0,zx,zw,zv,zu,zq,zp,zj,zk,zg,leT,zZ,rvC,zY,zX,zW,zV,↓zU,↓zQ,reduceCtorEq,yz,yy,yY,yx,yw,yv,yu,yq,yp,yX,yj,yk,yg,yW,yV,yU,yZ,yQ,xz,V.ren,C.ren,val_pickG hsv,S_ren,pickG_n,pickG_0,List.getD_cons_zero,List.getD_cons_succ]
        ·simp (maxSteps:=9999999) only [EV0,zx,zw,zv,zu,zq,zp,zj,zk,zg,leT,zZ,rvC,zY,zX,zW,zV,↓zU,↓zQ,reduceCtorEq,yz,yy,yY,yx,yw,yv,yu,yq,yp,yX,yj,yk,yg,yW,yV,yU,yZ,yQ,xz,S_val,hjl,Nat.add_lt_add_left,Nat.lt_add_right]
       have k4 : (xw == 4) = false:=by simpa using c4
       have ha : m.act11 ⟨xw,xa,xb,xn⟩ = (0,m):=by unfold M.act11; simp only [c1,c2,c3,c4,if_false]
       rw [ha] at hP g1 g2
       simp only at hP g1 g2
       have hml : m.w.length = 2048:=by obtain ⟨_,W2⟩:=g2; exact W2.len
       have hhas : m.has 0 2048 = true:=M.has_of (by omega)
       have htk : m.w.take 2048 = m.w:=by rw [← hml]; exact List.take_length
       have hLo : ∀ c : Nat,listOf (bH h m (promX r ⟨xw,xa,xb,xn⟩) [⟨BK.rw,wc m.w,c⟩]) (.sl (.g (h.length + 5)) 0 2048 c) = some m.w:=fun c => listOf_at (st:=.rw) (room:=c) (bH_x _ _ _ _ _) (fun x => BK.noConfusion x) hml
       have hu1 : (∀ y,y ∈ m.w → u64 y) = True:=eq_true m.u
       have hu2 : m.w.length ≤ 65536:=m.l
       have h56 : h.length + 5 + 1 = h.length + 6:=rfl
       have h58 : h.length + 6 < h.length + 5 + 3:=by omega
       refine run_sound (Tab.ok_Γ _) 300 _ _ _ _ ?_
       simp (maxSteps:=9999999) only [EV0,zx,zw,zv,zu,zq,zp,zj,zk,zg,leT,zZ,rvC,zY,zX,zW,zV,↓zU,↓zQ,reduceCtorEq,yz,yy,yY,yx,yw,yv,yu,yq,yp,yX,yj,yk,yg,yW,yV,yU,yZ,yQ,xz,TPd,promG,promM,opF,bH_fb,bH_fm,↓hlen,↓hkn,↓hnl,d1,d2,d3,d4,hob,hd,hs,hle,hcc,Int.toNat_natCast,put,fillP,hp,c1,k1,c2,k2,c3,k3,c4,k4,dumpG,dumpM,hhas,htk,ofG,hLo,bH_len,bH_app,bH_of,bH_set1,hu1,hu2,h56,h58,reduceToNat,List.drop_zero,List.length_nil,Nat.add_zero,List.nil_append]
       intro c _
       refine IH (i + 1,m,ofW m.w) _ hmu ⟨hi2,g1,g2,hP⟩ ?_
       refine ply_end hc m (promX r ⟨xw,xa,xb,xn⟩) (ofW m.w) c ?_ ?_
       ·simp (maxSteps:=9999999) only [EV0,zx,zw,zv,zu,zq,zp,zj,zk,zg,leT,zZ,rvC,zY,zX,zW,zV,↓zU,↓zQ,reduceCtorEq,yz,yy,yY,yx,yw,yv,yu,yq,yp,yX,yj,yk,yg,yW,yV,yU,yZ,yQ,xz,V.ren,C.ren,val_pickG hsv,S_ren,pickG_n,pickG_0,List.getD_cons_zero,List.getD_cons_succ]
       ·simp (maxSteps:=9999999) only [EV0,zx,zw,zv,zu,zq,zp,zj,zk,zg,leT,zZ,rvC,zY,zX,zW,zV,↓zU,↓zQ,reduceCtorEq,yz,yy,yY,yx,yw,yv,yu,yq,yp,yX,yj,yk,yg,yW,yV,yU,yZ,yQ,xz,S_val,hjl,Nat.add_lt_add_left,Nat.lt_add_right]
    ·have e0 : i = L.length:=by omega
     subst e0
     rw [List.drop_length] at hP
     simp only [plyL] at hP
     subst hP
     clear IH
     refine run_sound (Tab.ok_Γ _) 300 _ _ _ _ ?_
     simp (maxSteps:=9999999) only [EV0,zx,zw,zv,zu,zq,zp,zj,zk,zg,leT,zZ,rvC,zY,zX,zW,zV,↓zU,↓zQ,reduceCtorEq,yz,yy,yY,yx,yw,yv,yu,yq,yp,yX,yj,yk,yg,yW,yV,yU,yZ,yQ,xz,TPd,↓hlen,↓hkn,↓hnl,Int.lt_irrefl]
     refine fin_of (v:=.s (.p (.g (h.length + 4)) 0)) (ls:=[]) (h:=bH h m r []) rfl (Wk.keep 0 rfl rfl (by simp (maxSteps:=9999999) only [EV0,zx,zw,zv,zu,zq,zp,zj,zk,zg,leT,zZ,rvC,zY,zX,zW,zV,↓zU,↓zQ,reduceCtorEq,yz,yy,yY,yx,yw,yv,yu,yq,yp,yX,yj,yk,yg,yW,yV,yU,yZ,yQ,xz]) (by rfl) (by rfl)) ?_
     simp (maxSteps:=9999999) only [EV0,zx,zw,zv,zu,zq,zp,zj,zk,zg,leT,zZ,rvC,zY,zX,zW,zV,↓zU,↓zQ,reduceCtorEq,yz,yy,yY,yx,yw,yv,yu,yq,yp,yX,yj,yk,yg,yW,yV,yU,yZ,yQ,xz]
     exact hS
  ·exact hS.elim
 ·exact hS.elim
end Go.Proofs.Ytcdfofeolgbnbaa

